/- cylinderref34.free of a quantifier, and of any tree. -/
import Derived.Test.YtddpojinlapmfaaRefG
namespace Go.Proofs.Ytddpojinlapmfaa.PRef
set_option linter.unusedVariables false
set_option linter.unusedSimpArgs false
open Go.RowKit Go.Proofs.YtddpojinlapmfaaW.PrintWords Go.Proofs.YtddpojinlapmfaaW.PrintLast Go.Proofs.YtddpojinlapmfaaW.PrintMore

set_option maxRecDepth 100000 in
set_option maxHeartbeats 4000000 in
theorem refFree_quant (w0 : World) (x : S29) (ih : ∀ y ∈ x.f7, RefFreeGives w0 y) (h15 : x.f0 = 15) : RefFreeGives w0 x := by
  intro P bs acc A c vo A2 c2 A8 c8 w hR hBw hRo hS hc hP hla hlb
  have hu29 := Try.underlying29
  obtain ⟨Ao, co, hso⟩ := str_slice hRo
  subst hso
  have hco := (Kd.R_reads' hRo).2.1
  obtain ⟨wS, hwS⟩ : ∃ wS, w.alloc (.cells #[.int .i64 x.f0, .bool x.f1.f0, .slice A2 x.f1.f1.length c2, .string x.f2, .int .i64 x.f3, .int .i64 x.f4, .bool x.f5, .bool x.f6, .slice A8 x.f7.length c8] 29) = wS := ⟨_, rfl⟩
  have hW : Below w.heap.size w wS := by rw [← hwS]; exact (Below.refl _ w).alloc (Nat.le_refl _) _
  have hbk : wS.heap[w.heap.size]? = some (.cells #[.int .i64 x.f0, .bool x.f1.f0, .slice A2 x.f1.f1.length c2, .string x.f2, .int .i64 x.f3, .int .i64 x.f4, .bool x.f5, .bool x.f6, .slice A8 x.f7.length c8] 29 (0, 0)) := by rw [← hwS]; exact blk_new _ _
  have hz0 := hBw.size
  have hBS : Below w0.heap.size w0 wS := hBw.trans (hW.mono hz0)
  have hRS := Kd.R_below hRo hW
  have hKS : KeepsQ P w wS := KeepsQ.of_below hW
  obtain ⟨p0, p1, p2, p3, p4, p5, p6, p7, p8, pf⟩ := nine_cells hbk
  dsimp only [treeV]
  have f2 : (x.f0 == 2) = false := by rw [h15]; rfl
  have f15 : (x.f0 == 15) = true := beq_iff_eq.2 h15
  have hfe := Lib.hid (show freeS x bs acc = x.f7.foldl (fun o y => freeS y (bs ++ [x.f2]) o) acc by rw [freeS_eq, if_neg (by rw [h15]; intro h; exact absurd h.1 (by decide)), if_pos h15])
  have hll := len_sizeK x.f7
  have hsz := sizeS_eq x
  have hK64 : x.f7.length ≤ 1000000000000 := by omega
  have hbl : bs.length ≤ 1000000000000 := by omega
  have h35 : ([] : List ByteArray).length + bs.length ≤ 2000000000000 := by simp; omega
  have h39 : ([] ++ bs).length + 1 ≤ 2000000000000 := by simp; omega
  clear hll hsz
  have HIH := Lib.hid ih
  clear h15 ih
  have hzS := hW.size
  have hCS : ∀ W, Below wS.heap.size wS W → Kd.C Kd.string W A bs.length bs := fun W h => hS W (hKS.trans (KeepsQ.of_below h))
  have BA : Below wS.heap.size wS (wS.alloc (.cells #[] 9)) := (Below.refl _ wS).alloc (Nat.le_refl _) _
  have BC : Below wS.heap.size wS ((wS.alloc (.cells #[] 9)).alloc (.cells #[.string x.f2] 9)) := BA.alloc BA.size _
  have BN : Below wS.heap.size wS (wS.alloc (.cells #[.string x.f2] 9)) := (Below.refl _ wS).alloc (Nat.le_refl _) _
  have BD : Below wS.heap.size wS ((wS.alloc (.cells #[.string x.f2] 9)).alloc (.cells #[] 9)) := BN.alloc BN.size _
  have EA := blk_new wS (.cells #[] 9)
  have NA := blk_new wS (.cells #[.string x.f2] 9)
  have EC := blk_alloc EA (.cells #[.string x.f2] 9)
  have NC := blk_new (wS.alloc (.cells #[] 9)) (.cells #[.string x.f2] 9)
  have ED := blk_new (wS.alloc (.cells #[.string x.f2] 9)) (.cells #[] 9)
  have ND := blk_alloc NA (.cells #[] 9)
  rw [World.size_alloc] at NC ED
  have GE0 : wS.heap.size ≤ wS.heap.size := Nat.le_refl _
  have GE1 : wS.heap.size ≤ wS.heap.size + 1 := Nat.le_succ _
  have zC : wS.heap.size + 1 < ((wS.alloc (.cells #[] 9)).alloc (.cells #[.string x.f2] 9)).heap.size := by simp
  have zD : wS.heap.size < ((wS.alloc (.cells #[.string x.f2] 9)).alloc (.cells #[] 9)).heap.size := by simp; omega
  go_enter Try.func64, Try.ntmps64
  go_upto_region 4 with (fail)
  clear hwS
  have f0 : ∀ o, (wS.alloc o).cell? ⟨w.heap.size, 3, none⟩ = some (.string x.f2) := fun o => pw_cell_below ((Below.refl _ wS).alloc (Nat.le_refl _) o) p3
  go_region_law? (first
    | (refine appR_step (by rfl) (.tmp 33) (.tmp 34) rfl (fun _ => True) wS.heap.size wS (.slice (some ⟨wS.heap.size, 0, none⟩) 0 0) [] bs A bs.length c rfl rfl (emp_row EA GE0 trivial) (hCS _ ⟨BA.os, BA.tape, BA.output, BA.size, BA.block⟩) (fun _ _ => trivial) ⟨BA.os, BA.tape, BA.output, BA.size, BA.block⟩ BA.size h35 ?_; intro v1 w1 g1 g2 g3 g4; obtain ⟨A1, c1, e1⟩ := g4; subst e1; have e0 := pw_cell_below g2 p3; skip)
    | (refine appR_step (by rfl) (.tmp 33) (.tmp 34) rfl (fun _ => True) wS.heap.size wS (.slice (some ⟨wS.heap.size, 0, none⟩) 0 0) [] bs A bs.length c rfl rfl (emp_row EC GE0 trivial) (hCS _ ⟨BC.os, BC.tape, BC.output, BC.size, BC.block⟩) (fun _ _ => trivial) ⟨BC.os, BC.tape, BC.output, BC.size, BC.block⟩ BC.size h35 ?_; intro v1 w1 g1 g2 g3 g4; obtain ⟨A1, c1, e1⟩ := g4; subst e1; have e0 := pw_cell_below g2 p3; have NN := (g3.block (wS.heap.size + 1) zC (by simp [Value.ownBlock])).trans NC)
    | (refine appR_step (by rfl) (.tmp 33) (.tmp 34) rfl (fun _ => True) wS.heap.size wS (.slice (some ⟨wS.heap.size + 1, 0, none⟩) 0 0) [] bs A bs.length c rfl rfl (emp_row ED GE1 trivial) (hCS _ ⟨BD.os, BD.tape, BD.output, BD.size, BD.block⟩) (fun _ _ => trivial) ⟨BD.os, BD.tape, BD.output, BD.size, BD.block⟩ BD.size h35 ?_; intro v1 w1 g1 g2 g3 g4; obtain ⟨A1, c1, e1⟩ := g4; subst e1; have e0 := pw_cell_below g2 p3; have NN := (g3.block wS.heap.size zD (by simp [Value.ownBlock])).trans ND)
    | (refine appR_step (by rfl) (.tmp 35) (.tmp 38) rfl (fun _ => True) wS.heap.size wS _ ([] ++ bs) [x.f2] (some ⟨_, 0, none⟩) 1 1 rfl rfl (g1) (one_C NN) (fun _ _ => trivial) (g2) (g2.size) h39 ?_; intro v2 w2 k1 k2 k3 k4; obtain ⟨A2', c2', e2⟩ := k4; subst e2)
    | (refine appR_step (by rfl) (.tmp 35) (.tmp 38) rfl (fun _ => True) wS.heap.size wS _ ([] ++ bs) [x.f2] (some ⟨_, 0, none⟩) 1 1 rfl rfl (Kd.R_below g1 ((Below.refl _ w1).alloc (Nat.le_refl _) _)) (one_C (blk_new _ _)) (fun _ _ => trivial) (g2.alloc g2.size _) ((g2.alloc g2.size _).size) h39 ?_; intro v2 w2 k1 k2 k3 k4; obtain ⟨A2', c2', e2⟩ := k4; subst e2))
  all_goals
    (have k1 : Kd.string.R 9 w2 wS.heap.size (fun _ => True) (.slice A2' (bs.length + 1) c2') (bs ++ [x.f2]) := by simpa using k1
     have hz2 := k2.size
     have hBw2 : Below w.heap.size w w2 := hW.trans (k2.mono hzS)
     have hK0 : KeepsQ P w w2 := KeepsQ.of_below hBw2
     obtain ⟨P', hP'⟩ : ∃ P' : Nat → Prop, P' = fun k => P k ∧ some k ≠ (Value.slice A2' (bs.length + 1) c2').ownBlock := ⟨_, rfl⟩
     have hmP : ∀ k, P' k → P k := fun k hk => by rw [hP'] at hk; exact hk.1
     have hown := Kd.R_base k1
     have hlt := Kd.R_lt k1
     have HR2 := Lib.hid (show Kd.string.R 9 w2 w0.heap.size P' (.slice Ao acc.length co) acc by
       refine Kd.R_mono (Kd.R_tight2 rfl (Kd.R_below hRo hBw2)) (fun k hk => ?_)
       rw [hP']
       exact ⟨hk.2, fun e => by have := hown k e.symm; have := Kd.R_lt hRo k hk.1.symm; omega⟩)
     have HB2 := Lib.hid (hBS.trans (k2.mono (by omega)))
     have HK2 := Lib.hid (blk_below hbk k2)
     have HS2 := Lib.hid (show StQ P' w2 A2' (bs ++ [x.f2]) by
       intro W hWk
       have h := Kd.R_step (Kd.R_tight rfl k1) (w1 := W) (fun k hk hlt => hWk.prot k hlt (fun e => by rw [hP'] at e; exact e.2 hk))
       exact (Kd.R_reads' h).2.2)
     have HC2 := Lib.hid (show (bs ++ [x.f2]).length ≤ c2' by have := (Kd.R_reads' k1).2.1; simpa using this)
     have HP2 := Lib.hid (show ∀ k, w2.heap.size ≤ k → P' k by
       intro j hj
       rw [hP']
       exact ⟨hP j (by omega), fun e => by have := hlt j e.symm; omega⟩)
     have HL2 := Lib.hid (show (bs ++ [x.f2]).length + sizeK x.f7 ≤ 1000000000000 by have := sizeS_eq x; simp; omega)
     have HM := Lib.hid hmP
     have HK0 := Lib.hid hK0
     have HLEN := Lib.hid (show (bs ++ [x.f2]).length = bs.length + 1 by simp)
     obtain ⟨p0, p1, p2, p3, p4, p5, p6, p7, p8, pf⟩ := nine_cells HK2.out
     clear hP' hown hlt k1 k2 hBw2 hz2 hK0 hmP
     go_wp2
     go_loopw [43, 2] (fun i out wr => ∃ (k : Nat) (vo' : Value), k ≤ x.f7.length ∧ i = .int .i64 k ∧ vo' = out ∧ Kd.string.R 9 wr w0.heap.size P' vo' ((x.f7.take k).foldl (fun o y => freeS y (bs ++ [x.f2]) o) acc) ∧ KeepsQ P' w2 wr ∧ Below w0.heap.size w0 wr ∧ wr.heap[w.heap.size]? = some (.cells #[.int .i64 x.f0, .bool x.f1.f0, .slice A2 x.f1.f1.length c2, .string x.f2, .int .i64 x.f3, .int .i64 x.f4, .bool x.f5, .bool x.f6, .slice A8 x.f7.length c8] 29 (0, 0))) (fun i _ _ => x.f7.length - (intOf i).toNat)
     case atStart => exact ⟨0, _, by omega, rfl, rfl, HR2.out, KeepsQ.refl _ _, HB2.out, HK2.out⟩
     case round =>
       obtain ⟨k, vo', hk, rfl, rfl, hRr, hKr, hBr, hbr⟩ := hrel
       by_cases hlt : k < x.f7.length
       · obtain ⟨ad, D2, d2, D8, d8, hA, q0, q1, q2, q3, q4, q5, q6, q7, q8, hRy⟩ := tree_at hR.g8 k hlt
         subst hA
         have m0 := pw_cell_below hBr q0
         have m1 := pw_cell_below hBr q1
         have m2 := pw_cell_below hBr q2
         have m3 := pw_cell_below hBr q3
         have m4 := pw_cell_below hBr q4
         have m5 := pw_cell_below hBr q5
         have m6 := pw_cell_below hBr q6
         have m7 := pw_cell_below hBr q7
         have m8 := pw_cell_below hBr q8
         obtain ⟨p0, p1, p2, p3, p4, p5, p6, p7, p8, pf⟩ := nine_cells hbr
         have hl1 := freeSK_len (bs ++ [x.f2]) (x.f7.take k) acc
         have hl2 := sizeK_take x.f7 k hlt
         have hl3 := sizeK_take_le x.f7 (k + 1)
         have hsz := sizeS_eq x
         have hll := len_sizeK x.f7
         have T := HIH.out x.f7[k] (List.getElem_mem hlt) P' (bs ++ [x.f2]) _ A2' c2' vo' D2 d2 D8 d8 wr hRy hBr hRr (HS2.out.next hKr) HC2.out (fun j hj => HP2.out j (by have := hKr.size; omega)) (by omega) (by have := sizeS_kid (List.getElem_mem hlt); have := HL2.out; omega)
         dsimp only [treeV] at T
         rw [HLEN.out] at T
         have hk64 : (k : Int) < 1000000000000 := by omega
         obtain ⟨Ao', co', hso⟩ := str_slice hRr
         subst hso
         clear hl1 hl2 hl3 hsz hll
         go_wp2_with (go_at_call 64; refine T.mono ?_; clear T; rintro e W3 ⟨vo3, rfl, hR3, hK3, hB3⟩; obtain ⟨Ao3, co3, hso3⟩ := str_slice hR3; subst hso3)
         go_roundw
         case rel => exact ⟨k + 1, _, by omega, by go_num, rfl, by rw [List.take_succ_eq_append_getElem hlt, List.foldl_append]; exact hR3, hKr.trans hK3, hB3, hK3.typ _ _ hbr (fun _ _ e => by cases e)⟩
         case measure => simp [intOf]; omega
       · obtain rfl : k = x.f7.length := by omega
         go_wp2
         go_ret
         rw [List.take_length] at hRr
         exact ⟨_, rfl, by rw [hfe.out]; exact Kd.R_mono (Kd.R_tight2 rfl hRr) (fun k hk => HM.out k hk.2), HK0.out.trans (hKr.mono (fun k _ hn hp => hn (HM.out k hp))), hBr⟩)

theorem refFree_any (w0 : World) (x : S29) : RefFreeGives w0 x := by
  induction x using S29.ind with
  | h x ih =>
  by_cases h15 : x.f0 = 15
  · exact refFree_quant w0 x ih h15
  · intro P bs acc A c vo A2 c2 A8 c8 w hR hBw hRo hS hc hP hla hlb
    by_cases hway : x.f0 = 2 ∧ hasB bs x.f2 = false ∧ hasB acc x.f2 = false
    · exact refFree_name w0 x P bs acc A c vo A2 c2 A8 c8 w hway.1 hway.2.1 hway.2.2 hR hBw hRo hS hc hP hla hlb
    · exact refFree_rest w0 x ih h15 P bs acc A c vo A2 c2 A8 c8 w hway hR hBw hRo hS hc hP hla hlb

set_option maxRecDepth 100000 in
theorem refFreeF_any (x : S29) (A2 : Option Addr) (c2 : Nat) (A8 : Option Addr) (c8 : Nat) (w : World) (hR : ReadR w x A2 c2 A8 c8) (hl : sizeS x ≤ 1000000000000) :
    Calls Try.prog 28 #[treeV x (.slice A2 x.f1.f1.length c2) (.slice A8 x.f7.length c8)] w fun e w' => ∃ A c, e = .returned (.slice A (freeS x [] []).length c) ∧ Kd.string.R 9 w' w.heap.size (fun _ => True) (.slice A (freeS x [] []).length c) (freeS x [] []) ∧ Below w.heap.size w w' := by
  have hu29 := Try.underlying29
  have hW : Below w.heap.size w (w.alloc (.cells #[.int .i64 x.f0, .bool x.f1.f0, .slice A2 x.f1.f1.length c2, .string x.f2, .int .i64 x.f3, .int .i64 x.f4, .bool x.f5, .bool x.f6, .slice A8 x.f7.length c8] 29)) := (Below.refl _ w).alloc (Nat.le_refl _) _
  have T := refFree_any w x (fun _ => True) [] [] none 0 (.slice none 0 0) A2 c2 A8 c8 _ hR hW (Kd.R_nil _ _ _ _ _) (fun W _ => ⟨rfl, Nat.zero_le _, fun h => absurd h (Nat.lt_irrefl _)⟩) (Nat.zero_le _) (fun _ _ => trivial) (by simpa using hl) (by simpa using hl)
  obtain ⟨p0, p1, p2, p3, p4, p5, p6, p7, p8, pf⟩ := nine_cells (blk_new w (.cells #[.int .i64 x.f0, .bool x.f1.f0, .slice A2 x.f1.f1.length c2, .string x.f2, .int .i64 x.f3, .int .i64 x.f4, .bool x.f5, .bool x.f6, .slice A8 x.f7.length c8] 29))
  dsimp only [treeV] at T ⊢
  go_enter Try.func28, Try.ntmps28
  go_wp2_with (go_at_call 64; refine T.mono ?_; clear T; rintro e W3 ⟨vo3, rfl, hR3, hK3, hB3⟩; obtain ⟨Ao3, co3, hso3⟩ := str_slice hR3; subst hso3)
  go_ret
  exact ⟨_, _, rfl, hR3, hB3⟩
end Go.Proofs.Ytddpojinlapmfaa.PRef
