/- FormulaBinds: the law's body. -/
import Derived.Test.YtddpojinlapmfaaLawB
import Derived.Test.YtddpojinlapmfaaLinkB
namespace Go.Proofs.Ytddpojinlapmfaa.PRef
set_option linter.unusedVariables false
set_option linter.unusedSimpArgs false
open Go.RowKit Go.Proofs.YtddpojinlapmfaaW.PrintWords Go.Proofs.YtddpojinlapmfaaW.PrintLast Go.Proofs.YtddpojinlapmfaaW.PrintMore

theorem right_iface {x : S29} (ho : (formOf x).2 = true) {w : World} {v : Value} (h : IsFm w (formOf x).1 v) : ∃ (a : Nat) (y : Value), v = .iface a y := by
  rcases form_inv x ho with ⟨h0, h7, e⟩ | ⟨a, b, h7, ha, hb, h0, -, e⟩ | ⟨a, h7, ha, h0⟩ | ⟨a, b, h7, ha, hb, h0⟩
  · rw [e] at h; cases h; exact ⟨_, _, rfl⟩
  · rw [e] at h; obtain ⟨vl, vr, rfl, h1, h2⟩ := h; exact ⟨_, _, rfl⟩
  · rcases h0 with ⟨h0, e⟩ | ⟨h0, e⟩ <;> rw [e] at h
    · obtain ⟨_, rfl, _⟩ := h; exact ⟨_, _, rfl⟩
    · obtain ⟨_, rfl, _⟩ := h; exact ⟨_, _, rfl⟩
  · rcases h0 with ⟨h0, e⟩ | ⟨h0, e⟩ | ⟨h0, e⟩ | ⟨h0, e⟩ <;> rw [e] at h <;> (obtain ⟨_, _, rfl, _⟩ := h; exact ⟨_, _, rfl⟩)
theorem dropN_at (s : ByteArray) (l : List ByteArray) (k : Nat) (h : k < l.length) (hne : l[k] ≠ s) : ∃ hl : (dropN s (l.take k)).length < (dropN s l).length, (dropN s l)[(dropN s (l.take k)).length] = l[k] := by
  have e : dropN s l = dropN s (l.take k) ++ l[k] :: dropN s (l.drop (k + 1)) := by
    conv => lhs; rw [← List.take_append_drop k l, List.drop_eq_getElem_cons h]
    unfold dropN
    rw [List.filter_append, List.filter_cons, if_pos (by simp [hne])]
  refine ⟨by rw [e]; simp, ?_⟩
  simp only [e]
  simp
set_option maxRecDepth 100000 in
set_option maxHeartbeats 4000000 in
theorem law7 (x : S29) (q : Bool) (s : ByteArray) (A2 A8 : Option Addr) (c2 c8 : Nat) (w : World) (hR : ReadR w x A2 c2 A8 c8) :
    Calls Try.prog 7 #[treeV x (.slice A2 x.f1.f1.length c2) (.slice A8 x.f7.length c8), .bool q, .string s] w fun e w' => e = .returned (.bool true) ∧ Below w.heap.size w w' := by
  have hu29 := Try.underlying29
  obtain ⟨wS, hwS⟩ : ∃ wS, w.alloc (.cells #[.int .i64 x.f0, .bool x.f1.f0, .slice A2 x.f1.f1.length c2, .string x.f2, .int .i64 x.f3, .int .i64 x.f4, .bool x.f5, .bool x.f6, .slice A8 x.f7.length c8] 29) = wS := ⟨_, rfl⟩
  have hBw : Below w.heap.size w wS := by rw [← hwS]; exact (Below.refl _ w).alloc (Nat.le_refl _) _
  have hbS : wS.heap[w.heap.size]? = some (.cells #[.int .i64 x.f0, .bool x.f1.f0, .slice A2 x.f1.f1.length c2, .string x.f2, .int .i64 x.f3, .int .i64 x.f4, .bool x.f5, .bool x.f6, .slice A8 x.f7.length c8] 29 (0, 0)) := by rw [← hwS]; exact blk_new _ _
  have hRS := hR.below hBw
  cases hrt : rightB x with
  | false =>
    go_enter Try.func7, Try.ntmps7
    go_wp2_with (first
      | (go_at_call 25; refine (right_any hRS).mono ?_; rw [hrt]; rintro e w2 ⟨rfl, hB2⟩; replace hBw := belowU hBw hB2; replace hbS := blk_below hbS hB2; replace hRS := hRS.below hB2; obtain ⟨p0, p1, p2, p3, p4, p5, p6, p7, p8, pf⟩ := nine_cells hbS)
      | (go_at_call 16; refine (awake_any _).mono ?_; rintro e w1 ⟨rfl, hB1⟩; replace hBw := belowU hBw hB1; replace hbS := blk_below hbS hB1; replace hRS := hRS.below hB1; obtain ⟨p0, p1, p2, p3, p4, p5, p6, p7, p8, pf⟩ := nine_cells hbS))
    go_ret
    exact ⟨rfl, hBw⟩

  | true =>
  by_cases h40 : 40 < (s.size : Int)
  · have h40d : decide (40 < (s.size : Int)) = true := decide_eq_true h40
    go_enter Try.func7, Try.ntmps7
    go_wp2_with (first
      | (go_at_call 25; refine (right_any hRS).mono ?_; rw [hrt]; rintro e w2 ⟨rfl, hB2⟩; replace hBw := belowU hBw hB2; replace hbS := blk_below hbS hB2; replace hRS := hRS.below hB2; obtain ⟨p0, p1, p2, p3, p4, p5, p6, p7, p8, pf⟩ := nine_cells hbS)
      | (go_at_call 16; refine (awake_any _).mono ?_; rintro e w1 ⟨rfl, hB1⟩; replace hBw := belowU hBw hB1; replace hbS := blk_below hbS hB1; replace hRS := hRS.below hB1; obtain ⟨p0, p1, p2, p3, p4, p5, p6, p7, p8, pf⟩ := nine_cells hbS))
    go_ret
    exact ⟨rfl, hBw⟩

  · have h40' : (s.size : Int) ≤ 40 := by omega
    have h40d : decide (40 < (s.size : Int)) = false := decide_eq_false h40
    clear h40 h40'
    have hs := (right_short hrt).small
    have hsz := right_size hrt
    have ho := right_form hrt
    have HSZ := Lib.hid hsz
    have hfs := small_form x hs
    have hq := nTQ_size x ho
    have hTq : nT (formOf x).1 ≤ 1000 := by omega
    have hQq : nQ (formOf x).1 ≤ 1000 := by omega
    have hWq : (wk (formOf x).1 0).length ≤ 1000 := by have := wk_size x ho 0; omega
    have hNq := nodes_size x ho
    have hfq := free_quantL q s (formOf x).1
    have hsq := subF_quant q s (formOf x).1
    have hNn : cntN ((wk (formOf x).1 0).map Prod.snd) = sizeS x := by
      have := cntN_eq (subF (formOf x).1) (by omega)
      rw [hNq] at this
      exact this
    have hNs : cntN ((wk (.quant q s (formOf x).1) 0).map Prod.snd) = sizeS x + 1 := by
      have := cntN_eq (subF (.quant q s (formOf x).1)) (by rw [hsq, List.map_cons, List.sum_cons, hNq]; simp only [ownN]; omega)
      rw [hsq, List.map_cons, List.sum_cons, hNq] at this
      rw [show (wk (.quant q s (formOf x).1) 0).map Prod.snd = subF (.quant q s (formOf x).1) from rfl, hsq]
      rw [this]
      simp only [ownN]
      omega
    have hAn : cntA ((wk (.quant q s (formOf x).1) 0).map Prod.snd) = cntA ((wk (formOf x).1 0).map Prod.snd) := by
      have h1 := cntA_eq (subF (.quant q s (formOf x).1)) (by rw [hsq, List.length_cons, subF_len]; omega)
      have h2 := cntA_eq (subF (formOf x).1) (by rw [subF_len]; omega)
      rw [show (wk (.quant q s (formOf x).1) 0).map Prod.snd = subF (.quant q s (formOf x).1) from rfl, show (wk (formOf x).1 0).map Prod.snd = subF (formOf x).1 from rfl, h1, h2, hsq]
      simp [isAtom]
    have hBn : bndL ((wk (.quant q s (formOf x).1) 0).map Prod.snd) = s :: bndL ((wk (formOf x).1 0).map Prod.snd) := by
      rw [show (wk (.quant q s (formOf x).1) 0).map Prod.snd = subF (.quant q s (formOf x).1) from rfl, hsq]
      rfl
    have hL1 : (freeL [] (formOf x).1 []).length ≤ 1000 := by
      rw [← free_form x ho]
      have := freeS_len x [] []
      simp at this
      omega
    have hL2 : (bndL ((wk (formOf x).1 0).map Prod.snd)).length ≤ 1000 := by
      have := bndL_len ((wk (formOf x).1 0).map Prod.snd)
      rw [List.length_map] at this
      omega
    have hWs : (wk (.quant q s (formOf x).1) 0).length ≤ 1000000 := by rw [← subF_len, hsq, List.length_cons, subF_len]; omega
    have hTs : nT (.quant q s (formOf x).1) ≤ 1000000 := by simp only [nT]; omega
    have hQs : nQ (.quant q s (formOf x).1) ≤ 1000000 := by simp only [nQ]; omega
    obtain ⟨fl, hfl⟩ : ∃ fl, freeL [] (formOf x).1 [] = fl := ⟨_, rfl⟩
    obtain ⟨bl, hbl⟩ : ∃ bl, bndL ((wk (formOf x).1 0).map Prod.snd) = bl := ⟨_, rfl⟩
    obtain ⟨na, hna⟩ : ∃ na, cntA ((wk (formOf x).1 0).map Prod.snd) = na := ⟨_, rfl⟩
    rw [hfl] at hfq hL1
    rw [hbl] at hBn hL2
    rw [hna] at hAn
    clear hq hsq hNq
    go_enter Try.func7, Try.ntmps7
    go_upto_region 5 with (first
      | (go_at_call 25; refine (right_any hRS).mono ?_; rw [hrt]; rintro e w2 ⟨rfl, hB2⟩; replace hBw := belowU hBw hB2; replace hbS := blk_below hbS hB2; replace hRS := hRS.below hB2; obtain ⟨p0, p1, p2, p3, p4, p5, p6, p7, p8, pf⟩ := nine_cells hbS)
      | (go_at_call 16; refine (awake_any _).mono ?_; rintro e w1 ⟨rfl, hB1⟩; replace hBw := belowU hBw hB1; replace hbS := blk_below hbS hB1; replace hRS := hRS.below hB1; obtain ⟨p0, p1, p2, p3, p4, p5, p6, p7, p8, pf⟩ := nine_cells hbS)
      | (go_at_call 23; refine (of_any x hs A2 c2 A8 c8 _ hRS).mono ?_; rw [ho, if_pos rfl, if_pos rfl]; rintro e w3 ⟨v, rfl, hT, hB3⟩; obtain ⟨ta, ty, rfl⟩ := right_iface ho hT; replace hBw := belowU hBw hB3; replace hbS := blk_below hbS hB3; replace hRS := hRS.below hB3; obtain ⟨p0, p1, p2, p3, p4, p5, p6, p7, p8, pf⟩ := nine_cells hbS))
    obtain ⟨wQ, hwQ⟩ : ∃ wQ, w3.alloc (.cells #[.bool q, .string s, .iface ta ty] 61) = wQ := ⟨_, rfl⟩
    have hBQ : Below w3.heap.size w3 wQ := by rw [← hwQ]; exact (Below.refl _ w3).alloc (Nat.le_refl _) _
    have hqb : wQ.heap[w3.heap.size]? = some (.cells #[.bool q, .string s, .iface ta ty] 61 (0, 0)) := by rw [← hwQ]; exact blk_new _ _
    rw [hwQ]
    clear hwQ
    have hTd := (hT.below hBQ).drew
    have hTq' : IsFm wQ.drew (.quant q s (formOf x).1) (.iface 61 (.agg #[.bool q, .string s, .iface ta ty])) := ⟨_, rfl, hTd⟩
    have hBd := (belowU hBw hBQ).trans (below_drew (Below.refl _ _))
    have hqd : wQ.drew.heap[w3.heap.size]? = some (.cells #[.bool q, .string s, .iface ta ty] 61 (0, 0)) := hqb
    obtain ⟨q0, q1, q2⟩ := three_box hqd
    go_region_held3 (fun w' => w'.cell? ⟨w3.heap.size, 0, none⟩ = some (.bool q) ∧ w'.cell? ⟨w3.heap.size, 1, none⟩ = some (.string s) ∧ w'.cell? ⟨w3.heap.size, 2, none⟩ = some (.iface ta ty)) (first | exact ⟨by with_reducible assumption, by with_reducible assumption, by with_reducible assumption⟩)
        (first
          | (go_at_call 29; refine (bound_any _ _ _ _ hTq6 hWs).mono ?_; rw [hBn]; rintro e w7 ⟨A7, c7, rfl, hT7, hB7⟩
             have hBd7 := belowU hBd6 hB7
             have hqd7 := blk_below hqd6 hB7
             obtain ⟨r0, r1, r2⟩ := three_box hqd7)
          | (go_at_call 27; refine (freeF_any _ _ _ hTq5 hTs hQs).mono ?_; rw [hfq]; rintro e w6 ⟨A6, c6, rfl, hT6, hB6⟩
             have hTq6 := hTq5.below hB6
             have hBd6 := belowU hBd5 hB6
             have hqd6 := blk_below hqd5 hB6
             obtain ⟨r0, r1, r2⟩ := three_box hqd6)
          | (go_at_call 27; refine (freeF_any _ _ _ hTd (by omega) (by omega)).mono ?_; rw [hfl]; rintro e w5 ⟨A5, c5, rfl, hT5, hB5⟩
             have hTq5 := hTq'.below hB5
             have hBd5 := belowU hBd hB5
             have hqd5 := blk_below hqd hB5
             obtain ⟨r0, r1, r2⟩ := three_box hqd5))
    all_goals
      (have C5 := (Kd.R_reads' (Kd.R_below (Kd.R_below hT5 hB6) hB7)).2.2
       have C6 := (Kd.R_reads' (Kd.R_below hT6 hB7)).2.2
       have C7 := (Kd.R_reads' hT7).2.2
       have HC5 := Lib.hid C5
       have HC6 := Lib.hid C6
       have HC7 := Lib.hid C7
       have HBd7 := Lib.hid hBd7
       have HTd7 := Lib.hid ((hTd.below hB5).below (hB6.trans (hB7.mono hB6.size)))
       have HTq7 := Lib.hid (hTq6.below hB7)
       have HQ7 := Lib.hid hqd7
       have hdl : (dropN s fl).length ≤ fl.length := List.length_filter_le _ _
       clear C5 C6 C7 hT5 hT6 hT7
       go_wp2
       go_loopw [47, 13] (fun i at_ wr => ∃ k : Nat, k ≤ fl.length ∧ i = .int .i64 k ∧ at_ = .int .i64 ((dropN s (fl.take k)).length : Nat) ∧ Below w7.heap.size w7 wr) (fun i _ _ => fl.length - (intOf i).toNat)
       case atStart => exact ⟨0, by omega, rfl, rfl, Below.refl _ _⟩
       case round =>
         obtain ⟨k, hk, rfl, rfl, hBr⟩ := hrel
         by_cases hlt : k < fl.length
         · have C5 := HC5.out
           have C6 := HC6.out
           obtain ⟨ad5, e5, h5⟩ := Kd.at_string C5 (k : Int) (by omega) (by omega)
           rw [rdOf_at fl k hlt, Int.toNat_natCast] at h5
           replace h5 := pw_cell_below hBr h5
           subst e5
           have hk64 : (k : Int) < 1000 := by omega
           by_cases hse : fl[k] = s
           · have hnx : dropN s (fl.take (k + 1)) = dropN s (fl.take k) := by rw [List.take_succ_eq_append_getElem hlt, dropN_snoc, if_pos hse]
             have heq : (fl[k].toList == s.toList) = true := by rw [hse]; exact beq_self_eq_true _
             go_wp2
             go_roundw
             case rel => exact ⟨k + 1, by omega, by go_num, by rw [hnx], hBr⟩
             case measure => simp [intOf]; omega
           · obtain ⟨hl, hat⟩ := dropN_at s fl k hlt hse
             obtain ⟨m, hm⟩ : ∃ m, (dropN s (fl.take k)).length = m := ⟨_, rfl⟩
             have hnx : (dropN s (fl.take (k + 1))).length = m + 1 := by rw [List.take_succ_eq_append_getElem hlt, dropN_snoc, if_neg hse, List.length_append, hm]; rfl
             obtain ⟨ad6, e6, h6⟩ := Kd.at_string C6 (m : Int) (by omega) (by omega)
             rw [rdOf_at (dropN s fl) m (by omega), Int.toNat_natCast] at h6
             simp only [hm] at hat
             rw [hat] at h6
             replace h6 := pw_cell_below hBr h6
             subst e6
             rw [hm] at hl ⊢
             have hm64 : (m : Int) < 1000 := by omega
             have heq : (fl[k].toList == s.toList) = false := beq_eq_false_iff_ne.2 (fun h => hse (toList_inj.1 h))
             have h5d : wr.drew.cell? (ad5.add k) = some (.string fl[k]) := h5
             have h6d : wr.drew.cell? (ad6.add m) = some (.string fl[k]) := h6
             have hgm : ((dropN s fl).length : Int) ≤ 1000 := by omega
             have hge : decide (((dropN s fl).length : Int) ≤ (m : Int)) = false := decide_eq_false (by omega)
             have hge2 : ¬ ((dropN s fl).length ≤ m) := by omega
             go_wp2
             go_region
             all_goals go_wp2
             all_goals go_roundw
             case rel => exact ⟨k + 1, by omega, by go_num, by rw [hnx]; go_num, below_drew hBr⟩
             case measure => simp [intOf]; omega
         · obtain rfl : k = fl.length := by omega
           rw [List.take_length]
           have C7 := HC7.out
           have hlen7 : (s :: bl).length = bl.length + 1 := by simp
           rw [hlen7] at C7
           obtain ⟨ad7, e7, h7⟩ := Kd.at_string C7 (0 : Int) (by omega) (by omega)
           replace h7 : w7.cell? (ad7.add 0) = some (.string s) := h7
           have h70 : wr.cell? ad7 = some (.string s) := by
             have := pw_cell_below hBr h7
             simpa [Addr.add] using this
           subst e7
           have heq : (s.toList == s.toList) = true := beq_self_eq_true _
           have hTr := HTd7.out.below hBr
           have hTqr := HTq7.out.below hBr
           have hqr := blk_below HQ7.out hBr
           have hBdr := belowU HBd7.out hBr
           have hb64 : (bl.length : Int) < 2000 := by omega
           have hz64 : (sizeS x : Int) < 2000 := by omega
           obtain ⟨b0, b1, b2⟩ := three_box hqr
           clear hk hdl C7 hlen7
           go_wp2_with (first
             | (go_at_call 33; refine (atoms_any _ _ _ _ (Below.refl _ _) hTr5 (by omega)).mono ?_; rw [hna]; rintro e w15 ⟨rfl, hB15⟩
                have hBr5 := belowU hBr4 hB15)
             | (go_at_call 33; refine (atoms_any _ _ _ _ (Below.refl _ _) hTq4 hWs).mono ?_; rw [hAn]; rintro e w14 ⟨rfl, hB14⟩
                have hTr5 := hTr4.below hB14
                have hBr4 := belowU hBr3 hB14)
             | (go_at_call 35; refine (nodes_any _ _ _ _ (Below.refl _ _) hTr3 (by omega)).mono ?_; rw [hNn]; rintro e w13 ⟨rfl, hB13⟩
                have hTr4 := hTr3.below hB13
                have hTq4 := hTq3.below hB13
                have hqr4 := blk_below hqr3 hB13
                have hBr3 := belowU hBr2 hB13
                obtain ⟨f0, f1, f2⟩ := three_box hqr4)
             | (go_at_call 35; refine (nodes_any _ _ _ _ (Below.refl _ _) hTq2 hWs).mono ?_; rw [hNs]; rintro e w12 ⟨rfl, hB12⟩
                have hTr3 := hTr2.below hB12
                have hTq3 := hTq2.below hB12
                have hqr3 := blk_below hqr2 hB12
                have hBr2 := belowU hBr1 hB12)
             | (go_at_call 29; refine (bound_any _ _ _ _ hTr (by omega)).mono ?_; rw [hbl]; rintro e w11 ⟨A11, c11, rfl, hT11, hB11⟩
                have hTr2 := hTr.below hB11
                have hTq2 := hTqr.below hB11
                have hqr2 := blk_below hqr hB11
                have hBr1 := belowU hBdr hB11
                have h71 := pw_cell_below hB11 h70
                obtain ⟨d0, d1, d2⟩ := three_box hqr2))
           all_goals go_ret
           all_goals exact ⟨rfl, hBr5⟩)
end Go.Proofs.Ytddpojinlapmfaa.PRef
