/- cylinderref34.free, Free: walked by hand. -/
import Derived.Test.YtddpojinlapmfaaRefF
import Derived.Test.YtddpojinlapmfaaTermA
namespace Go.Proofs.Ytddpojinlapmfaa.PRef
set_option linter.unusedVariables false
set_option linter.unusedSimpArgs false
open Go.RowKit Go.Proofs.YtddpojinlapmfaaW.PrintWords Go.Proofs.YtddpojinlapmfaaW.PrintLast Go.Proofs.YtddpojinlapmfaaW.PrintMore

def RefFreeGives (w0 : World) (x : S29) : Prop := ∀ (P : Nat → Prop) (bs acc : List ByteArray) (A : Option Addr) (c : Nat) (vo : Value) (A2 : Option Addr) (c2 : Nat) (A8 : Option Addr) (c8 : Nat) (w : World), ReadR w0 x A2 c2 A8 c8 → Below w0.heap.size w0 w → Kd.string.R 9 w w0.heap.size P vo acc → StQ P w A bs → bs.length ≤ c →
    (∀ k, w.heap.size ≤ k → P k) → acc.length + sizeS x ≤ 1000000000000 → bs.length + sizeS x ≤ 1000000000000 →
    Calls Try.prog 64 #[treeV x (.slice A2 x.f1.f1.length c2) (.slice A8 x.f7.length c8), .slice A bs.length c, vo] w fun e w' => ∃ vo', e = .returned vo' ∧ Kd.string.R 9 w' w0.heap.size P vo' (freeS x bs acc) ∧ KeepsQ P w w' ∧ Below w0.heap.size w0 w'
theorem has_below (A : Option Addr) (c : Nat) (l : List ByteArray) (s : ByteArray) (w : World) (hC : Kd.C Kd.string w A l.length l) (hc : l.length ≤ c) (hl : l.length ≤ 9223372036854775806) :
    Calls Try.prog 51 #[.slice A l.length c, .string s] w fun e w' => e = .returned (.bool (hasB l s)) ∧ Below w.heap.size w w' :=
  (has_any A c l s w hC hc hl).mono fun _ _ h => ⟨h.1, by obtain ⟨m, rfl⟩ := h.2; exact pw_below_drewN (Below.refl _ _) m⟩

set_option maxRecDepth 100000 in
set_option maxHeartbeats 4000000 in
/-- A name that is new. -/
theorem refFree_name (w0 : World) (x : S29) (P : Nat → Prop) (bs acc : List ByteArray) (A : Option Addr) (c : Nat) (vo : Value) (A2 : Option Addr) (c2 : Nat) (A8 : Option Addr) (c8 : Nat) (w : World) (h2 : x.f0 = 2) (hb1 : hasB bs x.f2 = false) (hb2 : hasB acc x.f2 = false) (hR : ReadR w0 x A2 c2 A8 c8) (hBw : Below w0.heap.size w0 w) (hRo : Kd.string.R 9 w w0.heap.size P vo acc) (hS : StQ P w A bs) (hc : bs.length ≤ c)
    (hP : ∀ k, w.heap.size ≤ k → P k) (hla : acc.length + sizeS x ≤ 1000000000000) (hlb : bs.length + sizeS x ≤ 1000000000000) :
    Calls Try.prog 64 #[treeV x (.slice A2 x.f1.f1.length c2) (.slice A8 x.f7.length c8), .slice A bs.length c, vo] w fun e w' => ∃ vo', e = .returned vo' ∧ Kd.string.R 9 w' w0.heap.size P vo' (freeS x bs acc) ∧ KeepsQ P w w' ∧ Below w0.heap.size w0 w' := by
  have hu29 := Try.underlying29
  obtain ⟨Ao, co, hso⟩ := str_slice hRo
  subst hso
  have hco := (Kd.R_reads' hRo).2.1
  obtain ⟨wS, hwS⟩ : ∃ wS, w.alloc (.cells #[.int .i64 x.f0, .bool x.f1.f0, .slice A2 x.f1.f1.length c2, .string x.f2, .int .i64 x.f3, .int .i64 x.f4, .bool x.f5, .bool x.f6, .slice A8 x.f7.length c8] 29) = wS := ⟨_, rfl⟩
  have hW : Below w.heap.size w wS := by rw [← hwS]; exact (Below.refl _ w).alloc (Nat.le_refl _) _
  have hbk : wS.heap[w.heap.size]? = some (.cells #[.int .i64 x.f0, .bool x.f1.f0, .slice A2 x.f1.f1.length c2, .string x.f2, .int .i64 x.f3, .int .i64 x.f4, .bool x.f5, .bool x.f6, .slice A8 x.f7.length c8] 29 (0, 0)) := by rw [← hwS]; exact blk_new _ _
  have hz0 := hBw.size
  have hBS : Below w0.heap.size w0 wS := hBw.trans (hW.mono hz0)
  have hRS := Kd.R_below hRo hW
  have hKS : KeepsQ P w wS := KeepsQ.of_below hW
  obtain ⟨p0, p1, p2, p3, p4, p5, p6, p7, p8, pf⟩ := nine_cells hbk
  dsimp only [treeV]
  have f2 : (x.f0 == 2) = true := beq_iff_eq.2 h2
  have e : freeS x bs acc = acc ++ [x.f2] := by rw [freeS_eq, if_pos ⟨h2, hb1, hb2⟩]
  rw [e]
  have T1 := has_below A c bs x.f2 wS (hS _ hKS) hc (by omega)
  have T2 : ∀ W, Below wS.heap.size wS W → _ := fun W hb => has_below Ao co acc x.f2 W (Kd.R_reads' (Kd.R_below hRS hb)).2.2 hco (by omega)
  rw [hb1] at T1
  rw [hb2] at T2
  have hlA : acc.length ≤ 1000000000000 := by omega
  clear h2 hb1 hb2 e
  go_enter Try.func64, Try.ntmps64
  go_upto_region 2 with (first
    | (go_at_call 51; refine T1.mono ?_; clear T1; rintro e W1 ⟨rfl, hB1⟩; have hbk1 := blk_below hbk hB1; obtain ⟨q0, q1, q2, q3, q4, q5, q6, q7, q8, qf⟩ := nine_cells hbk1)
    | (go_at_call 51; refine (T2 _ hB1).mono ?_; clear T2; rintro e W2 ⟨rfl, hB2⟩; have hbk2 := blk_below hbk1 hB2; obtain ⟨r0, r1, r2, r3, r4, r5, r6, r7, r8, rf⟩ := nine_cells hbk2))
  have hB12 : Below wS.heap.size wS W2 := hB1.trans (hB2.mono hB1.size)
  have hRW := Kd.R_below hRS hB12
  have hBW : Below w0.heap.size w0 W2 := hBS.trans (hB12.mono (by have := hW.size; omega))
  have hz2 := hB12.size
  have hzS := hW.size
  clear hwS
  go_wp2_with (at_builtin; refine appR1 rfl (.tmp 25) (.tmp 28) rfl P w0.heap.size w0 _ acc x.f2 rfl (by rfl) hRW (fun k hk => hP k (by omega)) hBW (by omega) hlA ?_; intro v1 w1 g1 g2 g3; obtain ⟨A1, c1, hs1⟩ := str_slice g1; subst hs1)
  go_ret
  have e : (acc ++ [x.f2]).length = acc.length + 1 := by simp
  try rw [e] at g1
  exact ⟨_, rfl, g1, (hKS.trans (KeepsQ.of_below hB12)).trans (KeepsQ.grown hRW g3), g2⟩

set_option maxRecDepth 100000 in
set_option maxHeartbeats 4000000 in
/-- What is neither a new name nor a quantifier. -/
theorem refFree_rest (w0 : World) (x : S29) (ih : ∀ y ∈ x.f7, RefFreeGives w0 y) (h15 : x.f0 ≠ 15) (P : Nat → Prop) (bs acc : List ByteArray) (A : Option Addr) (c : Nat) (vo : Value) (A2 : Option Addr) (c2 : Nat) (A8 : Option Addr) (c8 : Nat) (w : World) (hway : ¬ (x.f0 = 2 ∧ hasB bs x.f2 = false ∧ hasB acc x.f2 = false)) (hR : ReadR w0 x A2 c2 A8 c8) (hBw : Below w0.heap.size w0 w) (hRo : Kd.string.R 9 w w0.heap.size P vo acc) (hS : StQ P w A bs) (hc : bs.length ≤ c)
    (hP : ∀ k, w.heap.size ≤ k → P k) (hla : acc.length + sizeS x ≤ 1000000000000) (hlb : bs.length + sizeS x ≤ 1000000000000) :
    Calls Try.prog 64 #[treeV x (.slice A2 x.f1.f1.length c2) (.slice A8 x.f7.length c8), .slice A bs.length c, vo] w fun e w' => ∃ vo', e = .returned vo' ∧ Kd.string.R 9 w' w0.heap.size P vo' (freeS x bs acc) ∧ KeepsQ P w w' ∧ Below w0.heap.size w0 w' := by
  have hu29 := Try.underlying29
  obtain ⟨Ao, co, hso⟩ := str_slice hRo
  subst hso
  have hco := (Kd.R_reads' hRo).2.1
  obtain ⟨wS, hwS⟩ : ∃ wS, w.alloc (.cells #[.int .i64 x.f0, .bool x.f1.f0, .slice A2 x.f1.f1.length c2, .string x.f2, .int .i64 x.f3, .int .i64 x.f4, .bool x.f5, .bool x.f6, .slice A8 x.f7.length c8] 29) = wS := ⟨_, rfl⟩
  have hW : Below w.heap.size w wS := by rw [← hwS]; exact (Below.refl _ w).alloc (Nat.le_refl _) _
  have hbk : wS.heap[w.heap.size]? = some (.cells #[.int .i64 x.f0, .bool x.f1.f0, .slice A2 x.f1.f1.length c2, .string x.f2, .int .i64 x.f3, .int .i64 x.f4, .bool x.f5, .bool x.f6, .slice A8 x.f7.length c8] 29 (0, 0)) := by rw [← hwS]; exact blk_new _ _
  have hz0 := hBw.size
  have hBS : Below w0.heap.size w0 wS := hBw.trans (hW.mono hz0)
  have hRS := Kd.R_below hRo hW
  have hKS : KeepsQ P w wS := KeepsQ.of_below hW
  obtain ⟨p0, p1, p2, p3, p4, p5, p6, p7, p8, pf⟩ := nine_cells hbk
  dsimp only [treeV]
  have f15 : (x.f0 == 15) = false := beq_eq_false_iff_ne.2 h15
  have hfe := Lib.hid (show freeS x bs acc = x.f7.foldl (fun o y => freeS y bs o) acc by rw [freeS_eq, if_neg hway, if_neg h15])
  have T1 := has_below A c bs x.f2 wS (hS _ hKS) hc (by omega)
  have T2 : ∀ W, Below wS.heap.size wS W → _ := fun W hb => has_below Ao co acc x.f2 W (Kd.R_reads' (Kd.R_below hRS hb)).2.2 hco (by omega)
  have hll := len_sizeK x.f7
  have hsz := sizeS_eq x
  have hK64 : x.f7.length ≤ 1000000000000 := by omega
  clear hll hsz
  obtain ⟨b1, hb1⟩ : ∃ b1, hasB bs x.f2 = b1 := ⟨_, rfl⟩
  obtain ⟨b2, hb2⟩ : ∃ b2, hasB acc x.f2 = b2 := ⟨_, rfl⟩
  obtain ⟨k2, f2⟩ : ∃ k2, (x.f0 == 2) = k2 := ⟨_, rfl⟩
  have hno : ¬ (k2 = true ∧ b1 = false ∧ b2 = false) := by
    rintro ⟨h1, h2, h3⟩
    exact hway ⟨by rw [← f2] at h1; exact beq_iff_eq.1 h1, by rw [hb1, h2], by rw [hb2, h3]⟩
  rw [hb1] at T1
  rw [hb2] at T2
  have HIH := Lib.hid ih
  clear hway hb1 hb2 h15 ih
  have hways : k2 = false ∨ (k2 = true ∧ b1 = true) ∨ (k2 = true ∧ b1 = false ∧ b2 = true) := by revert hno; cases k2 <;> cases b1 <;> cases b2 <;> simp
  clear hno
  rcases hways with rfl | ⟨rfl, rfl⟩ | ⟨rfl, rfl, rfl⟩
  · have HLE := Lib.hid (show acc.length + sizeS x ≤ 1000000000000 from hla)
    have HLB := Lib.hid (show bs.length + sizeS x ≤ 1000000000000 from hlb)
    go_enter Try.func64, Try.ntmps64
    go_upto_region 5 with (fail)
    have hBc : Below wS.heap.size wS wS := Below.refl _ _
    have HR2 := Lib.hid (Kd.R_below hRS hBc)
    have HB2 := Lib.hid (hBS.trans (hBc.mono (by have := hW.size; omega)))
    have HK0 := Lib.hid (hKS.trans (KeepsQ.of_below hBc))
    have HK2 := Lib.hid (show wS.heap[w.heap.size]? = some (.cells #[.int .i64 x.f0, .bool x.f1.f0, .slice A2 x.f1.f1.length c2, .string x.f2, .int .i64 x.f3, .int .i64 x.f4, .bool x.f5, .bool x.f6, .slice A8 x.f7.length c8] 29 (0, 0)) from hbk)
    have HS2 := Lib.hid (hS.next (hKS.trans (KeepsQ.of_below hBc)))
    have HC2 := Lib.hid hc
    have HP2 := Lib.hid (show ∀ k, wS.heap.size ≤ k → P k from fun k hk => hP k (by have := hBc.size; have := hW.size; omega))
    have HL2 := Lib.hid (show bs.length + sizeS x ≤ 1000000000000 from hlb)
    clear hS hc hP hBc hlb hRo hRS hKS hBS hW hwS
    go_wp2
    go_loopw [43, 2] (fun i out wr => ∃ (k : Nat) (vo' : Value), k ≤ x.f7.length ∧ i = .int .i64 k ∧ vo' = out ∧ Kd.string.R 9 wr w0.heap.size P vo' ((x.f7.take k).foldl (fun o y => freeS y bs o) acc) ∧ KeepsQ P wS wr ∧ Below w0.heap.size w0 wr ∧ wr.heap[w.heap.size]? = some (.cells #[.int .i64 x.f0, .bool x.f1.f0, .slice A2 x.f1.f1.length c2, .string x.f2, .int .i64 x.f3, .int .i64 x.f4, .bool x.f5, .bool x.f6, .slice A8 x.f7.length c8] 29 (0, 0))) (fun i _ _ => x.f7.length - (intOf i).toNat)
    case atStart => exact ⟨0, _, by omega, rfl, rfl, HR2.out, KeepsQ.refl _ _, HB2.out, HK2.out⟩
    case round =>
      obtain ⟨k, vo', hk, rfl, rfl, hRr, hKr, hBr, hbr⟩ := hrel
      by_cases hlt : k < x.f7.length
      · obtain ⟨ad, D2, d2, D8, d8, hA, q0, q1, q2, q3, q4, q5, q6, q7, q8, hRy⟩ := tree_at hR.g8 k hlt
        subst hA
        have m0 := pw_cell_below hBr q0
        have m1 := pw_cell_below hBr q1
        have m2 := pw_cell_below hBr q2
        have m3 := pw_cell_below hBr q3
        have m4 := pw_cell_below hBr q4
        have m5 := pw_cell_below hBr q5
        have m6 := pw_cell_below hBr q6
        have m7 := pw_cell_below hBr q7
        have m8 := pw_cell_below hBr q8
        obtain ⟨p0, p1, p2, p3, p4, p5, p6, p7, p8, pf⟩ := nine_cells hbr
        have hl1 := freeSK_len bs (x.f7.take k) acc
        have hl2 := sizeK_take x.f7 k hlt
        have hl3 := sizeK_take_le x.f7 (k + 1)
        have hsz := sizeS_eq x
        have hll := len_sizeK x.f7
        have T := HIH.out x.f7[k] (List.getElem_mem hlt) P bs _ A c vo' D2 d2 D8 d8 wr hRy hBr hRr (HS2.out.next hKr) HC2.out (fun j hj => HP2.out j (by have := hKr.size; omega)) (by omega) (by have := sizeS_kid (List.getElem_mem hlt); have := HL2.out; omega)
        dsimp only [treeV] at T
        have hk64 : (k : Int) < 1000000000000 := by omega
        obtain ⟨Ao', co', hso⟩ := str_slice hRr
        subst hso
        clear hl1 hl2 hl3 hsz hll
        go_wp2_with (go_at_call 64; refine T.mono ?_; clear T; rintro e W3 ⟨vo3, rfl, hR3, hK3, hB3⟩; obtain ⟨Ao3, co3, hso3⟩ := str_slice hR3; subst hso3)
        go_roundw
        case rel => exact ⟨k + 1, _, by omega, by go_num, rfl, by rw [List.take_succ_eq_append_getElem hlt, List.foldl_append]; exact hR3, hKr.trans hK3, hB3, hK3.typ _ _ hbr (fun _ _ e => by cases e)⟩
        case measure => simp [intOf]; omega
      · obtain rfl : k = x.f7.length := by omega
        go_wp2
        go_ret
        rw [List.take_length] at hRr
        exact ⟨_, rfl, by rw [hfe.out]; exact hRr, HK0.out.trans hKr, hBr⟩
  · have HLE := Lib.hid (show acc.length + sizeS x ≤ 1000000000000 from hla)
    have HLB := Lib.hid (show bs.length + sizeS x ≤ 1000000000000 from hlb)
    go_enter Try.func64, Try.ntmps64
    go_upto_region 5 with ((go_at_call 51; refine T1.mono ?_; clear T1; rintro e W1 ⟨rfl, hB1⟩; have hbk1 := blk_below hbk hB1; obtain ⟨u0, u1, u2, u3, u4, u5, u6, u7, u8, uf⟩ := nine_cells hbk1))
    have hBc : Below wS.heap.size wS W1 := hB1
    have HR2 := Lib.hid (Kd.R_below hRS hBc)
    have HB2 := Lib.hid (hBS.trans (hBc.mono (by have := hW.size; omega)))
    have HK0 := Lib.hid (hKS.trans (KeepsQ.of_below hBc))
    have HK2 := Lib.hid (show W1.heap[w.heap.size]? = some (.cells #[.int .i64 x.f0, .bool x.f1.f0, .slice A2 x.f1.f1.length c2, .string x.f2, .int .i64 x.f3, .int .i64 x.f4, .bool x.f5, .bool x.f6, .slice A8 x.f7.length c8] 29 (0, 0)) from hbk1)
    have HS2 := Lib.hid (hS.next (hKS.trans (KeepsQ.of_below hBc)))
    have HC2 := Lib.hid hc
    have HP2 := Lib.hid (show ∀ k, W1.heap.size ≤ k → P k from fun k hk => hP k (by have := hBc.size; have := hW.size; omega))
    have HL2 := Lib.hid (show bs.length + sizeS x ≤ 1000000000000 from hlb)
    clear hS hc hP hBc hlb hRo hRS hKS hBS hW hwS
    go_wp2
    go_loopw [43, 2] (fun i out wr => ∃ (k : Nat) (vo' : Value), k ≤ x.f7.length ∧ i = .int .i64 k ∧ vo' = out ∧ Kd.string.R 9 wr w0.heap.size P vo' ((x.f7.take k).foldl (fun o y => freeS y bs o) acc) ∧ KeepsQ P W1 wr ∧ Below w0.heap.size w0 wr ∧ wr.heap[w.heap.size]? = some (.cells #[.int .i64 x.f0, .bool x.f1.f0, .slice A2 x.f1.f1.length c2, .string x.f2, .int .i64 x.f3, .int .i64 x.f4, .bool x.f5, .bool x.f6, .slice A8 x.f7.length c8] 29 (0, 0))) (fun i _ _ => x.f7.length - (intOf i).toNat)
    case atStart => exact ⟨0, _, by omega, rfl, rfl, HR2.out, KeepsQ.refl _ _, HB2.out, HK2.out⟩
    case round =>
      obtain ⟨k, vo', hk, rfl, rfl, hRr, hKr, hBr, hbr⟩ := hrel
      by_cases hlt : k < x.f7.length
      · obtain ⟨ad, D2, d2, D8, d8, hA, q0, q1, q2, q3, q4, q5, q6, q7, q8, hRy⟩ := tree_at hR.g8 k hlt
        subst hA
        have m0 := pw_cell_below hBr q0
        have m1 := pw_cell_below hBr q1
        have m2 := pw_cell_below hBr q2
        have m3 := pw_cell_below hBr q3
        have m4 := pw_cell_below hBr q4
        have m5 := pw_cell_below hBr q5
        have m6 := pw_cell_below hBr q6
        have m7 := pw_cell_below hBr q7
        have m8 := pw_cell_below hBr q8
        obtain ⟨p0, p1, p2, p3, p4, p5, p6, p7, p8, pf⟩ := nine_cells hbr
        have hl1 := freeSK_len bs (x.f7.take k) acc
        have hl2 := sizeK_take x.f7 k hlt
        have hl3 := sizeK_take_le x.f7 (k + 1)
        have hsz := sizeS_eq x
        have hll := len_sizeK x.f7
        have T := HIH.out x.f7[k] (List.getElem_mem hlt) P bs _ A c vo' D2 d2 D8 d8 wr hRy hBr hRr (HS2.out.next hKr) HC2.out (fun j hj => HP2.out j (by have := hKr.size; omega)) (by omega) (by have := sizeS_kid (List.getElem_mem hlt); have := HL2.out; omega)
        dsimp only [treeV] at T
        have hk64 : (k : Int) < 1000000000000 := by omega
        obtain ⟨Ao', co', hso⟩ := str_slice hRr
        subst hso
        clear hl1 hl2 hl3 hsz hll
        go_wp2_with (go_at_call 64; refine T.mono ?_; clear T; rintro e W3 ⟨vo3, rfl, hR3, hK3, hB3⟩; obtain ⟨Ao3, co3, hso3⟩ := str_slice hR3; subst hso3)
        go_roundw
        case rel => exact ⟨k + 1, _, by omega, by go_num, rfl, by rw [List.take_succ_eq_append_getElem hlt, List.foldl_append]; exact hR3, hKr.trans hK3, hB3, hK3.typ _ _ hbr (fun _ _ e => by cases e)⟩
        case measure => simp [intOf]; omega
      · obtain rfl : k = x.f7.length := by omega
        go_wp2
        go_ret
        rw [List.take_length] at hRr
        exact ⟨_, rfl, by rw [hfe.out]; exact hRr, HK0.out.trans hKr, hBr⟩
  · have HLE := Lib.hid (show acc.length + sizeS x ≤ 1000000000000 from hla)
    have HLB := Lib.hid (show bs.length + sizeS x ≤ 1000000000000 from hlb)
    go_enter Try.func64, Try.ntmps64
    go_upto_region 5 with (first | (go_at_call 51; refine T1.mono ?_; clear T1; rintro e W1 ⟨rfl, hB1⟩; have hbk1 := blk_below hbk hB1; obtain ⟨u0, u1, u2, u3, u4, u5, u6, u7, u8, uf⟩ := nine_cells hbk1) | (go_at_call 51; refine (T2 _ hB1).mono ?_; clear T2; rintro e W2 ⟨rfl, hB2⟩; have hbk2 := blk_below hbk1 hB2; obtain ⟨r0, r1, r2, r3, r4, r5, r6, r7, r8, rf⟩ := nine_cells hbk2))
    have hBc : Below wS.heap.size wS W2 := hB1.trans (hB2.mono hB1.size)
    have HR2 := Lib.hid (Kd.R_below hRS hBc)
    have HB2 := Lib.hid (hBS.trans (hBc.mono (by have := hW.size; omega)))
    have HK0 := Lib.hid (hKS.trans (KeepsQ.of_below hBc))
    have HK2 := Lib.hid (show W2.heap[w.heap.size]? = some (.cells #[.int .i64 x.f0, .bool x.f1.f0, .slice A2 x.f1.f1.length c2, .string x.f2, .int .i64 x.f3, .int .i64 x.f4, .bool x.f5, .bool x.f6, .slice A8 x.f7.length c8] 29 (0, 0)) from hbk2)
    have HS2 := Lib.hid (hS.next (hKS.trans (KeepsQ.of_below hBc)))
    have HC2 := Lib.hid hc
    have HP2 := Lib.hid (show ∀ k, W2.heap.size ≤ k → P k from fun k hk => hP k (by have := hBc.size; have := hW.size; omega))
    have HL2 := Lib.hid (show bs.length + sizeS x ≤ 1000000000000 from hlb)
    clear hS hc hP hBc hlb hRo hRS hKS hBS hW hwS
    go_wp2
    go_loopw [43, 2] (fun i out wr => ∃ (k : Nat) (vo' : Value), k ≤ x.f7.length ∧ i = .int .i64 k ∧ vo' = out ∧ Kd.string.R 9 wr w0.heap.size P vo' ((x.f7.take k).foldl (fun o y => freeS y bs o) acc) ∧ KeepsQ P W2 wr ∧ Below w0.heap.size w0 wr ∧ wr.heap[w.heap.size]? = some (.cells #[.int .i64 x.f0, .bool x.f1.f0, .slice A2 x.f1.f1.length c2, .string x.f2, .int .i64 x.f3, .int .i64 x.f4, .bool x.f5, .bool x.f6, .slice A8 x.f7.length c8] 29 (0, 0))) (fun i _ _ => x.f7.length - (intOf i).toNat)
    case atStart => exact ⟨0, _, by omega, rfl, rfl, HR2.out, KeepsQ.refl _ _, HB2.out, HK2.out⟩
    case round =>
      obtain ⟨k, vo', hk, rfl, rfl, hRr, hKr, hBr, hbr⟩ := hrel
      by_cases hlt : k < x.f7.length
      · obtain ⟨ad, D2, d2, D8, d8, hA, q0, q1, q2, q3, q4, q5, q6, q7, q8, hRy⟩ := tree_at hR.g8 k hlt
        subst hA
        have m0 := pw_cell_below hBr q0
        have m1 := pw_cell_below hBr q1
        have m2 := pw_cell_below hBr q2
        have m3 := pw_cell_below hBr q3
        have m4 := pw_cell_below hBr q4
        have m5 := pw_cell_below hBr q5
        have m6 := pw_cell_below hBr q6
        have m7 := pw_cell_below hBr q7
        have m8 := pw_cell_below hBr q8
        obtain ⟨p0, p1, p2, p3, p4, p5, p6, p7, p8, pf⟩ := nine_cells hbr
        have hl1 := freeSK_len bs (x.f7.take k) acc
        have hl2 := sizeK_take x.f7 k hlt
        have hl3 := sizeK_take_le x.f7 (k + 1)
        have hsz := sizeS_eq x
        have hll := len_sizeK x.f7
        have T := HIH.out x.f7[k] (List.getElem_mem hlt) P bs _ A c vo' D2 d2 D8 d8 wr hRy hBr hRr (HS2.out.next hKr) HC2.out (fun j hj => HP2.out j (by have := hKr.size; omega)) (by omega) (by have := sizeS_kid (List.getElem_mem hlt); have := HL2.out; omega)
        dsimp only [treeV] at T
        have hk64 : (k : Int) < 1000000000000 := by omega
        obtain ⟨Ao', co', hso⟩ := str_slice hRr
        subst hso
        clear hl1 hl2 hl3 hsz hll
        go_wp2_with (go_at_call 64; refine T.mono ?_; clear T; rintro e W3 ⟨vo3, rfl, hR3, hK3, hB3⟩; obtain ⟨Ao3, co3, hso3⟩ := str_slice hR3; subst hso3)
        go_roundw
        case rel => exact ⟨k + 1, _, by omega, by go_num, rfl, by rw [List.take_succ_eq_append_getElem hlt, List.foldl_append]; exact hR3, hKr.trans hK3, hB3, hK3.typ _ _ hbr (fun _ _ e => by cases e)⟩
        case measure => simp [intOf]; omega
      · obtain rfl : k = x.f7.length := by omega
        go_wp2
        go_ret
        rw [List.take_length] at hRr
        exact ⟨_, rfl, by rw [hfe.out]; exact hRr, HK0.out.trans hKr, hBr⟩
end Go.Proofs.Ytddpojinlapmfaa.PRef
