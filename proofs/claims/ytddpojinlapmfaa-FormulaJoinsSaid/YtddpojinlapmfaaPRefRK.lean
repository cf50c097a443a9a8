-- printed by wip/tools/xprint.py (the kit's print program, with stubs); checked by Lean
import Derived.Test.YtddpojinlapmfaaPRefx0
import Derived.Test.YtddpojinlapmfaaPRefRB
namespace Go.Proofs.Ytddpojinlapmfaa.PRef
open Go.RowKit Go.Proofs.YtddpojinlapmfaaW.PrintWords Go.Proofs.YtddpojinlapmfaaW.PrintLast Go.Proofs.YtddpojinlapmfaaW.PrintMore
attribute [local go_sem] max2_int min2_int max_two min_two max_three min_three max_four min_four   -- for this text's walks alone
set_option linter.unusedVariables false
set_option linter.unusedSimpArgs false

/-! ### cylinderref34_FewList: function 37 -/
def cylinderref34_FewList.l0 : Nat → List (S29) → Int → Int → Int → Option (Bool)
  | 0, _, _, _, _ => none
  | k + 1, x0, x1, x10, x11 => if x11 < x10 then (if 0 ≤ x11 then (if x11 < (x0.length : Int) then ((cylinderref34_Few.f k ((rd_T29 x0 x11).f0) ((rd_T29 x0 x11).f1.f0) ((rd_T29 x0 x11).f1.f1) ((rd_T29 x0 x11).f2) ((rd_T29 x0 x11).f3) ((rd_T29 x0 x11).f4) ((rd_T29 x0 x11).f5) ((rd_T29 x0 x11).f6) ((rd_T29 x0 x11).f7) (wrap64 ((wrap64 (Int.tdiv x1 20)) + 1))).bind fun t276 => (if t276 = true then (cylinderref34_FewList.l0 k x0 x1 x10 (wrap64 (x11 + 1))) else (some false))) else (none)) else (none)) else (some true)
def cylinderref34_FewList.f (k : Nat) (l0 : List (S29)) (a1 : Int) : Option (Bool) := if (l0.length : Int) > 20 then (some false) else (cylinderref34_FewList.l0 k l0 a1 (l0.length : Int) 0)
theorem cylinderref34_FewList.mono_l : ∀ k, (∀ y0 y1 y2 y3, LeO (cylinderref34_FewList.l0 k y0 y1 y2 y3) (cylinderref34_FewList.l0 (k + 1) y0 y1 y2 y3))
  | 0 => fun _ _ _ _ r h => by simp [cylinderref34_FewList.l0] at h
  | k + 1 => by
    have ih0 := cylinderref34_FewList.mono_l k
    · intro y0 y1 y2 y3
      unfold cylinderref34_FewList.l0
      repeat' first
      | (with_reducible exact ih0 _ _ _ _)
      | (with_reducible exact cylinderref34_Few.mono _ _ _ _ _ _ _ _ _ _ _)
      | (with_reducible exact LeO.refl _)
      | (with_reducible exact LeO.none _)
      | (with_reducible refine LeO.ite ?_ ?_)
      | (with_reducible refine LeO.bind ?_ (fun _ => ?_))
      | exact ih0 _ _ _ _
      | exact cylinderref34_Few.mono _ _ _ _ _ _ _ _ _ _ _
      | exact LeO.none _
      | refine LeO.ite ?_ ?_
      | refine LeO.bind ?_ (fun _ => ?_)
theorem cylinderref34_FewList.mono : ∀ a0 a1 k, LeO (cylinderref34_FewList.f k a0 a1) (cylinderref34_FewList.f (k + 1) a0 a1) := by
  intro a0 a1 k
  have ih0 := cylinderref34_FewList.mono_l k
  unfold cylinderref34_FewList.f
  repeat' first
      | (with_reducible exact ih0 _ _ _ _)
      | (with_reducible exact cylinderref34_Few.mono _ _ _ _ _ _ _ _ _ _ _)
      | (with_reducible exact LeO.refl _)
      | (with_reducible exact LeO.none _)
      | (with_reducible refine LeO.ite ?_ ?_)
      | (with_reducible refine LeO.bind ?_ (fun _ => ?_))
      | exact ih0 _ _ _ _
      | exact cylinderref34_Few.mono _ _ _ _ _ _ _ _ _ _ _
      | exact LeO.none _
      | refine LeO.ite ?_ ?_
      | refine LeO.bind ?_ (fun _ => ?_)
set_option maxHeartbeats 8000000 in
set_option maxRecDepth 100000 in
theorem cylinderref34_FewList.calls (k : Nat) (A0 : Option Addr) (c0 : Nat) (l0 : List (S29)) (a1 : Int) (r : Bool) (w : World) (hr0 : Kd.C k29 w A0 l0.length l0) (hc0 : l0.length ≤ c0) (h : cylinderref34_FewList.f k l0 a1 = some r) :
    Calls Try.prog 37 #[.slice A0 l0.length c0, .int .i64 a1] w fun e w' => e = .returned (.bool r) ∧ Below w.heap.size w w' := by
  have hu29 := Try.underlying29
  have HR0 := Aside0.mk hr0
  have HC0 := Aside0.mk hc0
  clear hr0 hc0
  have HB := Aside0.mk (Below.refl w.heap.size w)
  have H : (if (l0.length : Int) > 20 then (some false) else (cylinderref34_FewList.l0 k l0 a1 (l0.length : Int) 0)) = some r := h
  clear h
  by_cases c3 : (l0.length : Int) > 20
  · rw [if_pos c3] at H
    have c3b0 : decide (20 < (l0.length : Int)) = true := decide_eq_true c3
    have c3b1 : decide (20 < l0.length) = true := decide_eq_true (by omega)
    clear c3
    obtain rfl := Option.some.inj H
    go_enter Try.func37, Try.ntmps37
    go_wp2
    go_ret
    exact ⟨by first | rfl | (simp [errW_none, errW_some] <;> rfl) | (simp [*, errW_none, errW_some] <;> rfl), by repeat (first | (with_reducible first | exact HB.out | apply below_alloc | apply pw_below_drewN | apply below_drew1) | exact HB.out)⟩
  · rw [if_neg c3] at H
    have c3b0 : decide (20 < (l0.length : Int)) = false := decide_eq_false c3
    have c3b1 : decide (20 < l0.length) = false := decide_eq_false (by omega)
    clear c3
    have H' := Aside0.mk H
    clear H
    go_enter Try.func37, Try.ntmps37
    go_wp2
    go_loopg [11] k (fun kq v11 w' => ∃ (x11_1 : Int), v11 = .int .i64 x11_1 ∧ Aside0 (cylinderref34_FewList.l0 kq l0 a1 (l0.length : Int) x11_1 = some r) ∧ Aside0 (kq ≤ k) ∧ Aside0 (Below w.heap.size w w'))
    case atStart => exact ⟨(0), (by first | rfl | (simp; done) | (simp [*]; done)), H', ⟨Nat.le_refl _⟩, ⟨by repeat (first | (with_reducible first | exact HB.out | apply below_alloc | apply pw_below_drewN | apply below_drew1) | exact HB.out)⟩⟩
    case round =>
      clear H'
      try clear p2
      try clear c3
      try clear c3b0
      try clear c3b1
      obtain ⟨x11_1, rfl, HA, HK1, HB⟩ := hrel
      cases gk with
      | zero => exact absurd HA.out (by simp [cylinderref34_FewList.l0])
      | succ k1 =>
        have H := HA.out
        clear HA
        simp only [cylinderref34_FewList.l0] at H
        by_cases c4 : x11_1 < (l0.length : Int)
        · rw [if_pos c4] at H
          have c4b0 : decide (x11_1 < (l0.length : Int)) = true := decide_eq_true c4
          clear c4
          by_cases c5 : 0 ≤ x11_1
          · rw [if_pos c5] at H
            have c5b0 : decide (0 ≤ x11_1) = true := decide_eq_true c5
            clear c5
            by_cases c6 : x11_1 < (l0.length : Int)
            · rw [if_pos c6] at H
              have c6b0 : decide (x11_1 < (l0.length : Int)) = true := decide_eq_true c6
              clear c6
              replace H := Option.bind_eq_some_iff.mp H
              obtain ⟨t276, A70, H⟩ := H
              replace H : (if t276 = true then (cylinderref34_FewList.l0 k1 l0 a1 (l0.length : Int) (wrap64 (x11_1 + 1))) else (some false)) = some r := H
              have A7 := Aside0.mk A70
              clear A70
              by_cases c8 : t276 = true
              · subst c8
                have H1 : (cylinderref34_FewList.l0 k1 l0 a1 (l0.length : Int) (wrap64 (x11_1 + 1))) = some r := by rw [if_pos rfl] at H; exact H
                clear H
                have H := H1
                clear H1
                have H' := Aside0.mk H
                clear H
                have p275 : 0 ≤ (x11_1 : Int) := of_decide_eq_true (by first | (with_reducible assumption) | assumption)
                have q275 : x11_1 < (l0.length : Int) := of_decide_eq_true (by first | (with_reducible assumption) | assumption)
                obtain ⟨ad275, A275_2, c275_2, A275_8, c275_8, e275, hx275_0, hx275_1, hx275_2, hx275_3, hx275_4, hx275_5, hx275_6, hx275_7, hx275_8, hl275_2, hi275_2, hl275_8, hi275_8⟩ := at_T29 HR0.out x11_1 p275 q275
                cases e275
                replace hx275_0 := (HB.out.cell (World.block_lt_of_cell? w _ hx275_0)).trans hx275_0
                replace hx275_1 := (HB.out.cell (World.block_lt_of_cell? w _ hx275_1)).trans hx275_1
                replace hx275_2 := (HB.out.cell (World.block_lt_of_cell? w _ hx275_2)).trans hx275_2
                replace hx275_3 := (HB.out.cell (World.block_lt_of_cell? w _ hx275_3)).trans hx275_3
                replace hx275_4 := (HB.out.cell (World.block_lt_of_cell? w _ hx275_4)).trans hx275_4
                replace hx275_5 := (HB.out.cell (World.block_lt_of_cell? w _ hx275_5)).trans hx275_5
                replace hx275_6 := (HB.out.cell (World.block_lt_of_cell? w _ hx275_6)).trans hx275_6
                replace hx275_7 := (HB.out.cell (World.block_lt_of_cell? w _ hx275_7)).trans hx275_7
                replace hx275_8 := (HB.out.cell (World.block_lt_of_cell? w _ hx275_8)).trans hx275_8
                have HR275_2 := Aside0.mk hi275_2
                have HC275_2 := Aside0.mk hl275_2
                clear hi275_2 hl275_2
                have HR275_8 := Aside0.mk hi275_8
                have HC275_8 := Aside0.mk hl275_8
                clear hi275_8 hl275_8
                replace p275 := eq_true p275
                replace q275 := eq_true q275
                go_wp2_with (first | ((with_reducible refine gate_callee (f := 17) rfl ?_); refine goesL_ (some 21) rfl rfl Try.func17 (by kernel_rfl) rfl #[.agg #[.int .i64 ((rd_T29 l0 x11_1).f0), .bool ((rd_T29 l0 x11_1).f1.f0), .slice A275_2 ((rd_T29 l0 x11_1).f1.f1).length c275_2, .string ((rd_T29 l0 x11_1).f2), .int .i64 ((rd_T29 l0 x11_1).f3), .int .i64 ((rd_T29 l0 x11_1).f4), .bool ((rd_T29 l0 x11_1).f5), .bool ((rd_T29 l0 x11_1).f6), .slice A275_8 ((rd_T29 l0 x11_1).f7).length c275_8], .int .i64 (wrap64 ((wrap64 (Int.tdiv a1 20)) + 1))] rfl (by (try simp only [List.map_toArray, List.map_cons, List.map_nil]); first | done | rfl | (simp only [List.length_drop, List.length_take]; rfl)) ?_; (with_reducible refine (cylinderref34_Few.calls k1 ((rd_T29 l0 x11_1).f0) ((rd_T29 l0 x11_1).f1.f0) _ _ ((rd_T29 l0 x11_1).f1.f1) ((rd_T29 l0 x11_1).f2) ((rd_T29 l0 x11_1).f3) ((rd_T29 l0 x11_1).f4) ((rd_T29 l0 x11_1).f5) ((rd_T29 l0 x11_1).f6) _ _ ((rd_T29 l0 x11_1).f7) (wrap64 ((wrap64 (Int.tdiv a1 20)) + 1)) true _ ?side1 ?side2 ?side3 ?side4 A7.out).mono ?_); (case side1 => repeat (first | exact (Kd.C_below HR275_2.out HB.out) | (with_reducible refine Kd.C_alloc ?_ _) | (with_reducible refine Kd.C_drewN ?_ _) | (with_reducible refine Kd.C_drew ?_))); (case side2 => exact HC275_2.out); (case side3 => repeat (first | exact (Kd.C_below HR275_8.out HB.out) | (with_reducible refine Kd.C_alloc ?_ _) | (with_reducible refine Kd.C_drewN ?_ _) | (with_reducible refine Kd.C_drew ?_))); (case side4 => exact HC275_8.out); rintro e w9 ⟨rfl, hb⟩; refine ⟨_, rfl, ?_⟩; have n0_ := Aside0.mk (below_step (by repeat (first | (with_reducible first | exact HB.out | apply below_alloc | apply pw_below_drewN | apply below_drew1) | exact HB.out)) hb); clear HB; have HB := n0_; clear n0_; (try clear hb); (try clear hb2); (try clear hk); (try clear hi)))
                go_roundg k1
                case measure => have := HK1.out; omega
                case rel => exact ⟨(wrap64 (x11_1 + 1)), (by first | rfl | (simp; done) | (simp [*]; done)), H', ⟨by have := HK1.out; omega⟩, ⟨by repeat (first | (with_reducible first | exact HB.out | apply below_alloc | apply pw_below_drewN | apply below_drew1) | exact HB.out)⟩⟩
              · replace c8 := Bool.eq_false_iff.mpr c8
                subst c8
                have H1 : (some false) = some r := by rw [if_neg (show ¬ (false = true) by decide)] at H; exact H
                clear H
                have H := H1
                clear H1
                obtain rfl := Option.some.inj H
                have p275 : 0 ≤ (x11_1 : Int) := of_decide_eq_true (by first | (with_reducible assumption) | assumption)
                have q275 : x11_1 < (l0.length : Int) := of_decide_eq_true (by first | (with_reducible assumption) | assumption)
                obtain ⟨ad275, A275_2, c275_2, A275_8, c275_8, e275, hx275_0, hx275_1, hx275_2, hx275_3, hx275_4, hx275_5, hx275_6, hx275_7, hx275_8, hl275_2, hi275_2, hl275_8, hi275_8⟩ := at_T29 HR0.out x11_1 p275 q275
                cases e275
                replace hx275_0 := (HB.out.cell (World.block_lt_of_cell? w _ hx275_0)).trans hx275_0
                replace hx275_1 := (HB.out.cell (World.block_lt_of_cell? w _ hx275_1)).trans hx275_1
                replace hx275_2 := (HB.out.cell (World.block_lt_of_cell? w _ hx275_2)).trans hx275_2
                replace hx275_3 := (HB.out.cell (World.block_lt_of_cell? w _ hx275_3)).trans hx275_3
                replace hx275_4 := (HB.out.cell (World.block_lt_of_cell? w _ hx275_4)).trans hx275_4
                replace hx275_5 := (HB.out.cell (World.block_lt_of_cell? w _ hx275_5)).trans hx275_5
                replace hx275_6 := (HB.out.cell (World.block_lt_of_cell? w _ hx275_6)).trans hx275_6
                replace hx275_7 := (HB.out.cell (World.block_lt_of_cell? w _ hx275_7)).trans hx275_7
                replace hx275_8 := (HB.out.cell (World.block_lt_of_cell? w _ hx275_8)).trans hx275_8
                have HR275_2 := Aside0.mk hi275_2
                have HC275_2 := Aside0.mk hl275_2
                clear hi275_2 hl275_2
                have HR275_8 := Aside0.mk hi275_8
                have HC275_8 := Aside0.mk hl275_8
                clear hi275_8 hl275_8
                replace p275 := eq_true p275
                replace q275 := eq_true q275
                go_wp2_with (first | ((with_reducible refine gate_callee (f := 17) rfl ?_); refine goesL_ (some 21) rfl rfl Try.func17 (by kernel_rfl) rfl #[.agg #[.int .i64 ((rd_T29 l0 x11_1).f0), .bool ((rd_T29 l0 x11_1).f1.f0), .slice A275_2 ((rd_T29 l0 x11_1).f1.f1).length c275_2, .string ((rd_T29 l0 x11_1).f2), .int .i64 ((rd_T29 l0 x11_1).f3), .int .i64 ((rd_T29 l0 x11_1).f4), .bool ((rd_T29 l0 x11_1).f5), .bool ((rd_T29 l0 x11_1).f6), .slice A275_8 ((rd_T29 l0 x11_1).f7).length c275_8], .int .i64 (wrap64 ((wrap64 (Int.tdiv a1 20)) + 1))] rfl (by (try simp only [List.map_toArray, List.map_cons, List.map_nil]); first | done | rfl | (simp only [List.length_drop, List.length_take]; rfl)) ?_; (with_reducible refine (cylinderref34_Few.calls k1 ((rd_T29 l0 x11_1).f0) ((rd_T29 l0 x11_1).f1.f0) _ _ ((rd_T29 l0 x11_1).f1.f1) ((rd_T29 l0 x11_1).f2) ((rd_T29 l0 x11_1).f3) ((rd_T29 l0 x11_1).f4) ((rd_T29 l0 x11_1).f5) ((rd_T29 l0 x11_1).f6) _ _ ((rd_T29 l0 x11_1).f7) (wrap64 ((wrap64 (Int.tdiv a1 20)) + 1)) false _ ?side1 ?side2 ?side3 ?side4 A7.out).mono ?_); (case side1 => repeat (first | exact (Kd.C_below HR275_2.out HB.out) | (with_reducible refine Kd.C_alloc ?_ _) | (with_reducible refine Kd.C_drewN ?_ _) | (with_reducible refine Kd.C_drew ?_))); (case side2 => exact HC275_2.out); (case side3 => repeat (first | exact (Kd.C_below HR275_8.out HB.out) | (with_reducible refine Kd.C_alloc ?_ _) | (with_reducible refine Kd.C_drewN ?_ _) | (with_reducible refine Kd.C_drew ?_))); (case side4 => exact HC275_8.out); rintro e w10 ⟨rfl, hb⟩; refine ⟨_, rfl, ?_⟩; have n0_ := Aside0.mk (below_step (by repeat (first | (with_reducible first | exact HB.out | apply below_alloc | apply pw_below_drewN | apply below_drew1) | exact HB.out)) hb); clear HB; have HB := n0_; clear n0_; (try clear hb); (try clear hb2); (try clear hk); (try clear hi)))
                go_ret
                exact ⟨by first | rfl | (simp [errW_none, errW_some] <;> rfl) | (simp [*, errW_none, errW_some] <;> rfl), by repeat (first | (with_reducible first | exact HB.out | apply below_alloc | apply pw_below_drewN | apply below_drew1) | exact HB.out)⟩
            · rw [if_neg c6] at H
              exact absurd H (by simp)
          · rw [if_neg c5] at H
            exact absurd H (by simp)
        · rw [if_neg c4] at H
          have c4b0 : decide (x11_1 < (l0.length : Int)) = false := decide_eq_false c4
          clear c4
          obtain rfl := Option.some.inj H
          go_wp2
          go_ret
          exact ⟨by first | rfl | (simp [errW_none, errW_some] <;> rfl) | (simp [*, errW_none, errW_some] <;> rfl), by repeat (first | (with_reducible first | exact HB.out | apply below_alloc | apply pw_below_drewN | apply below_drew1) | exact HB.out)⟩

end Go.Proofs.Ytddpojinlapmfaa.PRef
