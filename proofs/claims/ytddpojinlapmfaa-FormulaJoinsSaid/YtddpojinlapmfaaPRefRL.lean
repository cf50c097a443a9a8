-- printed by wip/tools/xprint.py (the kit's print program, with stubs); checked by Lean
import Derived.Test.YtddpojinlapmfaaPRefx0
import Derived.Test.YtddpojinlapmfaaPRefRE
namespace Go.Proofs.Ytddpojinlapmfaa.PRef
open Go.RowKit Go.Proofs.YtddpojinlapmfaaW.PrintWords Go.Proofs.YtddpojinlapmfaaW.PrintLast Go.Proofs.YtddpojinlapmfaaW.PrintMore
attribute [local go_sem] max2_int min2_int max_two min_two max_three min_three max_four min_four   -- for this text's walks alone
set_option linter.unusedVariables false
set_option linter.unusedSimpArgs false

/-! ### cylinderref34_Fold: function 39 -/
mutual
def cylinderref34_Fold.j0 : Nat → List (S29) → Bool → Int → Option (Int × Bool × List Int × ByteArray × Int × Int × Bool × Bool × (List (S29)))
  | 0, _, _, _ => none
  | k + 1, x0, x1, x5 => if (x0.length : Int) = 0 then (some (8, false, ([] : List Int), (⟨#[]⟩ : ByteArray), 0, 0, x1, false, ([] : List (S29)))) else (if 0 < (x0.length : Int) then ((cylinderref34_Canon.f k ((rd_T29 x0 0).f0) ((rd_T29 x0 0).f1.f0) ((rd_T29 x0 0).f1.f1) ((rd_T29 x0 0).f2) ((rd_T29 x0 0).f3) ((rd_T29 x0 0).f4) ((rd_T29 x0 0).f5) ((rd_T29 x0 0).f6) ((rd_T29 x0 0).f7)).bind fun bt279 => (cylinderref34_Fold.l0 k x0 x5 1 bt279.1 bt279.2.1 bt279.2.2.1 bt279.2.2.2.1 bt279.2.2.2.2.1 bt279.2.2.2.2.2.1 bt279.2.2.2.2.2.2.1 bt279.2.2.2.2.2.2.2.1 bt279.2.2.2.2.2.2.2.2)) else (none))
def cylinderref34_Fold.l0 : Nat → List (S29) → Int → Int → Int → Bool → List Int → ByteArray → Int → Int → Bool → Bool → List (S29) → Option (Int × Bool × List Int × ByteArray × Int × Int × Bool × Bool × (List (S29)))
  | 0, _, _, _, _, _, _, _, _, _, _, _, _ => none
  | k + 1, x0, x5, x7, x293000, x293001, x293002, x293003, x293004, x293005, x293006, x293007, x293008 => if x7 < (x0.length : Int) then (if 0 ≤ x7 then ((cylinderref34_Canon.f k ((rd_T29 x0 x7).f0) ((rd_T29 x0 x7).f1.f0) ((rd_T29 x0 x7).f1.f1) ((rd_T29 x0 x7).f2) ((rd_T29 x0 x7).f3) ((rd_T29 x0 x7).f4) ((rd_T29 x0 x7).f5) ((rd_T29 x0 x7).f6) ((rd_T29 x0 x7).f7)).bind fun bt294 => (cylinderref34_Fold.l0 k x0 x5 (wrap64 (x7 + 1)) x5 false ([] : List Int) (⟨#[]⟩ : ByteArray) 0 0 false false (([(⟨x293000, (⟨x293001, x293002⟩ : S25), x293003, x293004, x293005, x293006, x293007, x293008⟩ : S29), (⟨bt294.1, (⟨bt294.2.1, bt294.2.2.1⟩ : S25), bt294.2.2.2.1, bt294.2.2.2.2.1, bt294.2.2.2.2.2.1, bt294.2.2.2.2.2.2.1, bt294.2.2.2.2.2.2.2.1, bt294.2.2.2.2.2.2.2.2⟩ : S29)] : List (S29))))) else (none)) else (some (x293000, x293001, x293002, x293003, x293004, x293005, x293006, x293007, x293008))
end
def cylinderref34_Fold.f (k : Nat) (l0 : List (S29)) (a1 : Bool) : Option (Int × Bool × List Int × ByteArray × Int × Int × Bool × Bool × (List (S29))) := if a1 = true then (cylinderref34_Fold.j0 k l0 a1 11) else (cylinderref34_Fold.j0 k l0 a1 12)
theorem cylinderref34_Fold.mono_l : ∀ k, (∀ y0 y1 y2, LeO (cylinderref34_Fold.j0 k y0 y1 y2) (cylinderref34_Fold.j0 (k + 1) y0 y1 y2)) ∧ (∀ y0 y1 y2 y3 y4 y5 y6 y7 y8 y9 y10 y11, LeO (cylinderref34_Fold.l0 k y0 y1 y2 y3 y4 y5 y6 y7 y8 y9 y10 y11) (cylinderref34_Fold.l0 (k + 1) y0 y1 y2 y3 y4 y5 y6 y7 y8 y9 y10 y11))
  | 0 => ⟨fun _ _ _ r h => by simp [cylinderref34_Fold.j0] at h, fun _ _ _ _ _ _ _ _ _ _ _ _ r h => by simp [cylinderref34_Fold.l0] at h⟩
  | k + 1 => by
    obtain ⟨ih0, ih1⟩ := cylinderref34_Fold.mono_l k
    refine ⟨?_, ?_⟩
    · intro y0 y1 y2
      unfold cylinderref34_Fold.j0
      repeat' first
      | (with_reducible exact ih0 _ _ _)
      | (with_reducible exact ih1 _ _ _ _ _ _ _ _ _ _ _ _)
      | (with_reducible exact cylinderref34_Canon.mono _ _ _ _ _ _ _ _ _ _)
      | (with_reducible exact LeO.refl _)
      | (with_reducible exact LeO.none _)
      | (with_reducible refine LeO.ite ?_ ?_)
      | (with_reducible refine LeO.bind ?_ (fun _ => ?_))
      | exact ih0 _ _ _
      | exact ih1 _ _ _ _ _ _ _ _ _ _ _ _
      | exact cylinderref34_Canon.mono _ _ _ _ _ _ _ _ _ _
      | exact LeO.none _
      | refine LeO.ite ?_ ?_
      | refine LeO.bind ?_ (fun _ => ?_)
    · intro y0 y1 y2 y3 y4 y5 y6 y7 y8 y9 y10 y11
      unfold cylinderref34_Fold.l0
      repeat' first
      | (with_reducible exact ih0 _ _ _)
      | (with_reducible exact ih1 _ _ _ _ _ _ _ _ _ _ _ _)
      | (with_reducible exact cylinderref34_Canon.mono _ _ _ _ _ _ _ _ _ _)
      | (with_reducible exact LeO.refl _)
      | (with_reducible exact LeO.none _)
      | (with_reducible refine LeO.ite ?_ ?_)
      | (with_reducible refine LeO.bind ?_ (fun _ => ?_))
      | exact ih0 _ _ _
      | exact ih1 _ _ _ _ _ _ _ _ _ _ _ _
      | exact cylinderref34_Canon.mono _ _ _ _ _ _ _ _ _ _
      | exact LeO.none _
      | refine LeO.ite ?_ ?_
      | refine LeO.bind ?_ (fun _ => ?_)
theorem cylinderref34_Fold.mono : ∀ a0 a1 k, LeO (cylinderref34_Fold.f k a0 a1) (cylinderref34_Fold.f (k + 1) a0 a1) := by
  intro a0 a1 k
  obtain ⟨ih0, ih1⟩ := cylinderref34_Fold.mono_l k
  unfold cylinderref34_Fold.f
  repeat' first
      | (with_reducible exact ih0 _ _ _)
      | (with_reducible exact ih1 _ _ _ _ _ _ _ _ _ _ _ _)
      | (with_reducible exact cylinderref34_Canon.mono _ _ _ _ _ _ _ _ _ _)
      | (with_reducible exact LeO.refl _)
      | (with_reducible exact LeO.none _)
      | (with_reducible refine LeO.ite ?_ ?_)
      | (with_reducible refine LeO.bind ?_ (fun _ => ?_))
      | exact ih0 _ _ _
      | exact ih1 _ _ _ _ _ _ _ _ _ _ _ _
      | exact cylinderref34_Canon.mono _ _ _ _ _ _ _ _ _ _
      | exact LeO.none _
      | refine LeO.ite ?_ ?_
      | refine LeO.bind ?_ (fun _ => ?_)
def cylinderref34_Fold.T10 : Bool × List (List Nat × List Nat) := (true, [([], []), ([], []), ([], []), ([], []), ([2, 3], [2, 3]), ([4], [4]), ([5], [5]), ([1, 6], [1, 6]), ([0, 7], [0, 7]), ([8, 6, 0, 1, 2, 3, 4, 5, 6, 7, 8], [8])])
def cylinderref34_Fold.B10 : List Nat := [0, 0, 0, 0, 12, 28, 60, 126, 255, 511]
theorem cylinderref34_Fold.tab10 : rtab .any (opsOf Try.f39 10) = cylinderref34_Fold.T10 := by kernel_rfl
theorem cylinderref34_Fold.bits10 : waitsOk cylinderref34_Fold.T10.2 cylinderref34_Fold.B10 = true := by kernel_rfl
set_option maxHeartbeats 8000000 in
set_option maxRecDepth 100000 in
theorem cylinderref34_Fold.calls (k : Nat) (A0 : Option Addr) (c0 : Nat) (l0 : List (S29)) (a1 : Bool) (r1 : Int) (r2 : Bool) (r3 : List Int) (r4 : ByteArray) (r5 : Int) (r6 : Int) (r7 : Bool) (r8 : Bool) (r9 : List (S29)) (w : World) (hr0 : Kd.C k29 w A0 l0.length l0) (hc0 : l0.length ≤ c0) (h : cylinderref34_Fold.f k l0 a1 = some (r1, r2, r3, r4, r5, r6, r7, r8, r9)) :
    Calls Try.prog 39 #[.slice A0 l0.length c0, .bool a1] w fun e w' => ∃ v2_ v8_ : Value, e = .returned (.agg #[.int .i64 r1, .bool r2, v2_, .string r4, .int .i64 r5, .int .i64 r6, .bool r7, .bool r8, v8_]) ∧ Kd.R (Kd.int .u32) 103 w' w.heap.size (fun k_ => (w.heap.size ≤ k_)) v2_ r3 ∧ Kd.N k29 29 w' w.heap.size (fun k_ => (w.heap.size ≤ k_) ∧ some k_ ≠ (v2_ : Value).ownBlock) v8_ r9 ∧ Below w.heap.size w w' := by
  have hu29 := Try.underlying29
  have HR0 := Aside0.mk hr0
  have HC0 := Aside0.mk hc0
  clear hr0 hc0
  have HB := Aside0.mk (Below.refl w.heap.size w)
  have H : (if a1 = true then (cylinderref34_Fold.j0 k l0 a1 11) else (cylinderref34_Fold.j0 k l0 a1 12)) = some (r1, r2, r3, r4, r5, r6, r7, r8, r9) := h
  clear h
  have HC3 := Aside0.mk H
  clear H
  go_enter Try.func39, Try.ntmps39
  go_upto_if 8 with (first | ((with_reducible refine gate_dst (N := 4) rfl ?_); refine box_event ?hg (N := 4) ?hd (cs := #[.int .i64 0, .bool false, .slice none 0 0, .string (⟨#[]⟩ : ByteArray), .int .i64 0, .int .i64 0, .bool false, .bool false, .slice none 0 0]) (t := 29) ?hr ?_; (case hd => rfl); (case hg => rfl); (case hr => first | (go_simp; done) | (go_simp; rfl)); intro gb277 hg w4 hbox hb; have n0_ := Aside0.mk (below_step (by repeat (first | (with_reducible first | exact HB.out | apply below_alloc | apply pw_below_drewN | apply below_drew1) | exact HB.out)) hb); have n1_ := Aside0.mk (hbox); have n2_ := Aside0.mk ((by rw [hg]; exact (below_size (by repeat (first | (with_reducible first | exact HB.out | apply below_alloc | apply pw_below_drewN | apply below_drew1) | exact HB.out))) : w.heap.size ≤ gb277)); have n3_ := Aside0.mk ((by rw [hg]; exact (below_size (by repeat (first | (with_reducible first | exact HB.out | apply below_alloc | apply pw_below_drewN | apply below_drew1) | exact HB.out))) : w.heap.size ≤ gb277)); clear HB; have HB := n0_; have BK277 := n1_; have GW277 := n2_; have GE277 := n3_; clear n0_ n1_ n2_ n3_; clear hb hbox hg))
  (try simp only [Act.put, List.setIfInBounds_toArray, List.set_cons_zero, List.set_cons_succ])
  go_cut [5] (fun v5 wc => ∃ (kq : Nat) (x5_2 : Int), v5 = .int .i64 x5_2 ∧ Aside0 (cylinderref34_Fold.j0 kq l0 a1 x5_2 = some (r1, r2, r3, r4, r5, r6, r7, r8, r9)) ∧ Aside0 (kq ≤ k) ∧ Aside0 (wc.heap[gb277]? = some (.cells #[.int .i64 0, .bool false, (.slice none 0 0), .string (⟨#[]⟩ : ByteArray), .int .i64 0, .int .i64 0, .bool false, .bool false, (.slice none 0 0)] 29 (0, 0))) ∧ Aside0 (Below w.heap.size w wc))
  case first =>
    have H := HC3.out
    clear HC3
    by_cases c5 : a1 = true
    · subst c5
      have H1 : (cylinderref34_Fold.j0 k l0 true 11) = some (r1, r2, r3, r4, r5, r6, r7, r8, r9) := by rw [if_pos rfl] at H; exact H
      clear H
      have H := H1
      clear H1
      have H' := Aside0.mk H
      clear H
      go_wp2
      go_meet
      case rel => exact ⟨_, (11), (by first | rfl | (simp; done) | (simp [*]; done)), H', ⟨by first | omega | exact Nat.le_refl _⟩, ⟨by (with_reducible repeat (first | refine blk_drewN ?_ _ | refine blk_drew ?_ | refine blk_alloc ?_ _)); exact BK277.out⟩, ⟨by repeat (first | (with_reducible first | exact HB.out | apply below_alloc | apply pw_below_drewN | apply below_drew1 | refine below_set ?_ GE277.out) | exact HB.out)⟩⟩
    · replace c5 := Bool.eq_false_iff.mpr c5
      subst c5
      have H1 : (cylinderref34_Fold.j0 k l0 false 12) = some (r1, r2, r3, r4, r5, r6, r7, r8, r9) := by rw [if_neg (show ¬ (false = true) by decide)] at H; exact H
      clear H
      have H := H1
      clear H1
      have H' := Aside0.mk H
      clear H
      go_wp2
      go_meet
      case rel => exact ⟨_, (12), (by first | rfl | (simp; done) | (simp [*]; done)), H', ⟨by first | omega | exact Nat.le_refl _⟩, ⟨by (with_reducible repeat (first | refine blk_drewN ?_ _ | refine blk_drew ?_ | refine blk_alloc ?_ _)); exact BK277.out⟩, ⟨by repeat (first | (with_reducible first | exact HB.out | apply below_alloc | apply pw_below_drewN | apply below_drew1 | refine below_set ?_ GE277.out) | exact HB.out)⟩⟩
  case rest =>
    clear HC3
    try clear p2
    try clear c3
    try clear c5
    obtain ⟨kq, x5_2, rfl, HA, HJ2, BK277, HB⟩ := hcut
    cases kq with
    | zero => exact absurd HA.out (by simp [cylinderref34_Fold.j0])
    | succ kj2 =>
      have H := HA.out
      clear HA
      simp only [cylinderref34_Fold.j0] at H
      by_cases c6 : (l0.length : Int) = 0
      · rw [if_pos c6] at H
        have c6b0 : ((l0.length : Int) == 0) = true := beq_iff_eq.mpr c6
        have c6b1 : ((l0.length : Int) != 0) = false := bne_eq_false_iff_eq.mpr c6
        clear c6
        simp only [Option.some.injEq, Prod.mk.injEq] at H
        obtain ⟨rfl, rfl, rfl, rfl, rfl, rfl, rfl, rfl, rfl⟩ := H
        have hcz7_0 : wc.cell? ⟨gb277, 0, none⟩ = some (.int .i64 0) := (blk_cell BK277.out 0).trans rfl
        have hcz7_1 : wc.cell? ⟨gb277, 1, none⟩ = some (.bool false) := (blk_cell BK277.out 1).trans rfl
        have hcz7_2 : wc.cell? ⟨gb277, 2, none⟩ = some (.slice none 0 0) := (blk_cell BK277.out 2).trans rfl
        have hcz7_3 : wc.cell? ⟨gb277, 3, none⟩ = some (.string (⟨#[]⟩ : ByteArray)) := (blk_cell BK277.out 3).trans rfl
        have hcz7_4 : wc.cell? ⟨gb277, 4, none⟩ = some (.int .i64 0) := (blk_cell BK277.out 4).trans rfl
        have hcz7_5 : wc.cell? ⟨gb277, 5, none⟩ = some (.int .i64 0) := (blk_cell BK277.out 5).trans rfl
        have hcz7_6 : wc.cell? ⟨gb277, 6, none⟩ = some (.bool false) := (blk_cell BK277.out 6).trans rfl
        have hcz7_7 : wc.cell? ⟨gb277, 7, none⟩ = some (.bool false) := (blk_cell BK277.out 7).trans rfl
        have hcz7_8 : wc.cell? ⟨gb277, 8, none⟩ = some (.slice none 0 0) := (blk_cell BK277.out 8).trans rfl
        have hfz7_0 := blk_frozen BK277.out 0
        have hfz7_1 := blk_frozen BK277.out 1
        have hfz7_2 := blk_frozen BK277.out 2
        have hfz7_3 := blk_frozen BK277.out 3
        have hfz7_4 := blk_frozen BK277.out 4
        have hfz7_5 := blk_frozen BK277.out 5
        have hfz7_6 := blk_frozen BK277.out 6
        have hfz7_7 := blk_frozen BK277.out 7
        have hfz7_8 := blk_frozen BK277.out 8
        go_wp2
        refine bodyPost_ret (results_cell_row rfl _ _ gb277 29 #[.int .i64 8, .bool false, .slice none 0 0, .string (⟨#[]⟩ : ByteArray), .int .i64 0, .int .i64 0, .bool a1, .bool false, .slice none 0 0] (0, 0) _ rfl (by (with_reducible repeat (first | refine blk_drewN ?_ _ | refine blk_drew ?_ | refine blk_alloc ?_ _)); refine blk_put (cs := #[.int .i64 8, .bool false, .slice none 0 0, .string (⟨#[]⟩ : ByteArray), .int .i64 0, .int .i64 0, .bool a1, .bool false, .slice none 0 0]) ?_ 8 _ rfl; (with_reducible repeat (first | refine blk_drewN ?_ _ | refine blk_drew ?_ | refine blk_alloc ?_ _)); refine blk_put (cs := #[.int .i64 8, .bool false, .slice none 0 0, .string (⟨#[]⟩ : ByteArray), .int .i64 0, .int .i64 0, .bool a1, .bool false, .slice none 0 0]) ?_ 7 _ rfl; (with_reducible repeat (first | refine blk_drewN ?_ _ | refine blk_drew ?_ | refine blk_alloc ?_ _)); refine blk_put (cs := #[.int .i64 8, .bool false, .slice none 0 0, .string (⟨#[]⟩ : ByteArray), .int .i64 0, .int .i64 0, .bool false, .bool false, .slice none 0 0]) ?_ 6 _ rfl; (with_reducible repeat (first | refine blk_drewN ?_ _ | refine blk_drew ?_ | refine blk_alloc ?_ _)); refine blk_put (cs := #[.int .i64 8, .bool false, .slice none 0 0, .string (⟨#[]⟩ : ByteArray), .int .i64 0, .int .i64 0, .bool false, .bool false, .slice none 0 0]) ?_ 5 _ rfl; (with_reducible repeat (first | refine blk_drewN ?_ _ | refine blk_drew ?_ | refine blk_alloc ?_ _)); refine blk_put (cs := #[.int .i64 8, .bool false, .slice none 0 0, .string (⟨#[]⟩ : ByteArray), .int .i64 0, .int .i64 0, .bool false, .bool false, .slice none 0 0]) ?_ 4 _ rfl; (with_reducible repeat (first | refine blk_drewN ?_ _ | refine blk_drew ?_ | refine blk_alloc ?_ _)); refine blk_put (cs := #[.int .i64 8, .bool false, .slice none 0 0, .string (⟨#[]⟩ : ByteArray), .int .i64 0, .int .i64 0, .bool false, .bool false, .slice none 0 0]) ?_ 3 _ rfl; (with_reducible repeat (first | refine blk_drewN ?_ _ | refine blk_drew ?_ | refine blk_alloc ?_ _)); refine blk_put (cs := #[.int .i64 8, .bool false, .slice none 0 0, .string (⟨#[]⟩ : ByteArray), .int .i64 0, .int .i64 0, .bool false, .bool false, .slice none 0 0]) ?_ 2 _ rfl; (with_reducible repeat (first | refine blk_drewN ?_ _ | refine blk_drew ?_ | refine blk_alloc ?_ _)); refine blk_put (cs := #[.int .i64 8, .bool false, .slice none 0 0, .string (⟨#[]⟩ : ByteArray), .int .i64 0, .int .i64 0, .bool false, .bool false, .slice none 0 0]) ?_ 1 _ rfl; (with_reducible repeat (first | refine blk_drewN ?_ _ | refine blk_drew ?_ | refine blk_alloc ?_ _)); refine blk_put (cs := #[.int .i64 0, .bool false, .slice none 0 0, .string (⟨#[]⟩ : ByteArray), .int .i64 0, .int .i64 0, .bool false, .bool false, .slice none 0 0]) ?_ 0 _ rfl; (with_reducible repeat (first | refine blk_drewN ?_ _ | refine blk_drew ?_ | refine blk_alloc ?_ _)); exact BK277.out) Try.underlying29 rfl (by kernel_rfl)) rfl ?_
        exact ⟨_, _, by first | rfl | (simp [errW_none, errW_some] <;> rfl) | (simp [*, errW_none, errW_some] <;> rfl), by first | exact Kd.R_nil _ _ _ _ _ | exact Kd.N_nil _ _ _ _ _ | exact Kd.V_nil _ _ _ _ _ | exact Kd.Q_nil _ _ _ _ _ | exact Kd.S_nil _ _ _ _ _, by first | exact Kd.R_nil _ _ _ _ _ | exact Kd.N_nil _ _ _ _ _ | exact Kd.V_nil _ _ _ _ _ | exact Kd.Q_nil _ _ _ _ _ | exact Kd.S_nil _ _ _ _ _, by repeat (first | (with_reducible first | exact HB.out | apply below_alloc | apply pw_below_drewN | apply below_drew1 | refine below_set ?_ GE277.out) | exact HB.out)⟩
      · rw [if_neg c6] at H
        have c6b0 : ((l0.length : Int) == 0) = false := beq_eq_false_iff_ne.mpr c6
        have c6b1 : ((l0.length : Int) != 0) = true := bne_iff_ne.mpr c6
        have c6b2 : ¬ (l0 = []) := fun h_ => c6 (by rw [h_]; rfl)
        by_cases c8 : 0 < (l0.length : Int)
        · rw [if_pos c8] at H
          have c8b0 : decide (0 < (l0.length : Int)) = true := decide_eq_true c8
          have c8b1 : decide (0 < l0.length) = true := decide_eq_true (by omega)
          clear c8
          replace H := Option.bind_eq_some_iff.mp H
          obtain ⟨⟨t279, t280, t281, t284, t285, t286, t287, t288, t289⟩, A90, H⟩ := H
          replace H : (cylinderref34_Fold.l0 kj2 l0 x5_2 1 t279 t280 t281 t284 t285 t286 t287 t288 t289) = some (r1, r2, r3, r4, r5, r6, r7, r8, r9) := H
          have A9 := Aside0.mk A90
          clear A90
          have H' := Aside0.mk H
          clear H
          have p278 : 0 ≤ (0 : Int) := (by omega)
          have q278 : 0 < (l0.length : Int) := of_decide_eq_true (by first | (with_reducible assumption) | assumption)
          obtain ⟨ad278, A278_2, c278_2, A278_8, c278_8, e278, hx278_0, hx278_1, hx278_2, hx278_3, hx278_4, hx278_5, hx278_6, hx278_7, hx278_8, hl278_2, hi278_2, hl278_8, hi278_8⟩ := at_T29 HR0.out 0 p278 q278
          cases e278
          have qi278 : (0 < l0.length) = True := eq_true (by omega)
          (try rw [show ((0 : Int)).toNat = 0 from rfl] at hx278_0)
          (try rw [show 0 * 9 = 0 from rfl] at hx278_0)
          (try rw [Addr.add_zero'] at hx278_0)
          (try rw [show ((0 : Int)).toNat = 0 from rfl] at hx278_1)
          (try rw [show 0 * 9 = 0 from rfl] at hx278_1)
          (try rw [Addr.add_zero'] at hx278_1)
          (try rw [show ((0 : Int)).toNat = 0 from rfl] at hx278_2)
          (try rw [show 0 * 9 = 0 from rfl] at hx278_2)
          (try rw [Addr.add_zero'] at hx278_2)
          (try rw [show ((0 : Int)).toNat = 0 from rfl] at hx278_3)
          (try rw [show 0 * 9 = 0 from rfl] at hx278_3)
          (try rw [Addr.add_zero'] at hx278_3)
          (try rw [show ((0 : Int)).toNat = 0 from rfl] at hx278_4)
          (try rw [show 0 * 9 = 0 from rfl] at hx278_4)
          (try rw [Addr.add_zero'] at hx278_4)
          (try rw [show ((0 : Int)).toNat = 0 from rfl] at hx278_5)
          (try rw [show 0 * 9 = 0 from rfl] at hx278_5)
          (try rw [Addr.add_zero'] at hx278_5)
          (try rw [show ((0 : Int)).toNat = 0 from rfl] at hx278_6)
          (try rw [show 0 * 9 = 0 from rfl] at hx278_6)
          (try rw [Addr.add_zero'] at hx278_6)
          (try rw [show ((0 : Int)).toNat = 0 from rfl] at hx278_7)
          (try rw [show 0 * 9 = 0 from rfl] at hx278_7)
          (try rw [Addr.add_zero'] at hx278_7)
          (try rw [show ((0 : Int)).toNat = 0 from rfl] at hx278_8)
          (try rw [show 0 * 9 = 0 from rfl] at hx278_8)
          (try rw [Addr.add_zero'] at hx278_8)
          replace hx278_0 := (HB.out.cell (World.block_lt_of_cell? w _ hx278_0)).trans hx278_0
          replace hx278_1 := (HB.out.cell (World.block_lt_of_cell? w _ hx278_1)).trans hx278_1
          replace hx278_2 := (HB.out.cell (World.block_lt_of_cell? w _ hx278_2)).trans hx278_2
          replace hx278_3 := (HB.out.cell (World.block_lt_of_cell? w _ hx278_3)).trans hx278_3
          replace hx278_4 := (HB.out.cell (World.block_lt_of_cell? w _ hx278_4)).trans hx278_4
          replace hx278_5 := (HB.out.cell (World.block_lt_of_cell? w _ hx278_5)).trans hx278_5
          replace hx278_6 := (HB.out.cell (World.block_lt_of_cell? w _ hx278_6)).trans hx278_6
          replace hx278_7 := (HB.out.cell (World.block_lt_of_cell? w _ hx278_7)).trans hx278_7
          replace hx278_8 := (HB.out.cell (World.block_lt_of_cell? w _ hx278_8)).trans hx278_8
          have HR278_2 := Aside0.mk hi278_2
          have HC278_2 := Aside0.mk hl278_2
          clear hi278_2 hl278_2
          have HR278_8 := Aside0.mk hi278_8
          have HC278_8 := Aside0.mk hl278_8
          clear hi278_8 hl278_8
          replace p278 := eq_true p278
          replace q278 := eq_true q278
          go_wp2_with (first | ((with_reducible refine gate_callee (f := 22) rfl ?_); refine goesL_ (some 17) rfl rfl Try.func22 (by kernel_rfl) rfl #[.agg #[.int .i64 ((rd_T29 l0 0).f0), .bool ((rd_T29 l0 0).f1.f0), .slice A278_2 ((rd_T29 l0 0).f1.f1).length c278_2, .string ((rd_T29 l0 0).f2), .int .i64 ((rd_T29 l0 0).f3), .int .i64 ((rd_T29 l0 0).f4), .bool ((rd_T29 l0 0).f5), .bool ((rd_T29 l0 0).f6), .slice A278_8 ((rd_T29 l0 0).f7).length c278_8]] rfl (by (try simp only [List.map_toArray, List.map_cons, List.map_nil]); first | done | rfl | (simp only [List.length_drop, List.length_take]; rfl)) ?_; (with_reducible refine (cylinderref34_Canon.calls kj2 ((rd_T29 l0 0).f0) ((rd_T29 l0 0).f1.f0) _ _ ((rd_T29 l0 0).f1.f1) ((rd_T29 l0 0).f2) ((rd_T29 l0 0).f3) ((rd_T29 l0 0).f4) ((rd_T29 l0 0).f5) ((rd_T29 l0 0).f6) _ _ ((rd_T29 l0 0).f7) t279 t280 t281 t284 t285 t286 t287 t288 t289 _ ?side1 ?side2 ?side3 ?side4 A9.out).mono ?_); (case side1 => repeat (first | exact (Kd.C_below HR278_2.out HB.out) | (with_reducible refine Kd.C_alloc ?_ _) | (with_reducible refine Kd.C_drewN ?_ _) | (with_reducible refine Kd.C_drew ?_))); (case side2 => exact HC278_2.out); (case side3 => repeat (first | exact (Kd.C_below HR278_8.out HB.out) | (with_reducible refine Kd.C_alloc ?_ _) | (with_reducible refine Kd.C_drewN ?_ _) | (with_reducible refine Kd.C_drew ?_))); (case side4 => exact HC278_8.out); rintro e w10 ⟨v282, v290, rfl, ho0, ho1, hb⟩; refine ⟨_, rfl, ?_⟩; have n0_ := Aside0.mk (Kd.R_lower (Kd.R_newM (M := fun k_ => (w.heap.size ≤ k_)) ho0 (below_size (by repeat (first | (with_reducible first | exact HB.out | apply below_alloc | apply pw_below_drewN | apply below_drew1 | refine below_set ?_ GE277.out) | exact HB.out))) (fun k_ h_ => h_)) (below_size (by repeat (first | (with_reducible first | exact HB.out | apply below_alloc | apply pw_below_drewN | apply below_drew1 | refine below_set ?_ GE277.out) | exact HB.out)))); have n1_ := Aside0.mk (Kd.N_lower (Kd.N_mono (ok' := fun k_ => (w.heap.size ≤ k_) ∧ some k_ ≠ (v282 : Value).ownBlock ∧ k_ ≠ gb277) (Kd.R_N (Kd.R_bound ho1)) (fun k_ hk_ => ⟨(Nat.le_trans (below_size (by repeat (first | (with_reducible first | exact HB.out | apply below_alloc | apply pw_below_drewN | apply below_drew1 | refine below_set ?_ GE277.out) | exact HB.out))) hk_.2.1), hk_.1, (Kd.freshB (g := gb277) (o := .cells #[.int .i64 0, .bool false, .slice none 0 0, .string (⟨#[]⟩ : ByteArray), .int .i64 0, .int .i64 0, .bool false, .bool false, .slice none 0 0] 29 (0, 0)) (by (with_reducible repeat (first | refine blk_drewN ?_ _ | refine blk_drew ?_ | refine blk_alloc ?_ _)); exact BK277.out) k_ hk_.2.1)⟩)) (below_size (by repeat (first | (with_reducible first | exact HB.out | apply below_alloc | apply pw_below_drewN | apply below_drew1 | refine below_set ?_ GE277.out) | exact HB.out)))); have n2_ := Aside0.mk (blk_below (g := gb277) (o := .cells #[.int .i64 0, .bool false, .slice none 0 0, .string (⟨#[]⟩ : ByteArray), .int .i64 0, .int .i64 0, .bool false, .bool false, .slice none 0 0] 29 (0, 0)) (by (with_reducible repeat (first | refine blk_drewN ?_ _ | refine blk_drew ?_ | refine blk_alloc ?_ _)); exact BK277.out) hb); have n3_ := Aside0.mk (below_step (by repeat (first | (with_reducible first | exact HB.out | apply below_alloc | apply pw_below_drewN | apply below_drew1 | refine below_set ?_ GE277.out) | exact HB.out)) hb); clear BK277; clear HB; have HO283 := n0_; have HO291 := n1_; have BK277 := n2_; have HB := n3_; clear n0_ n1_ n2_ n3_; (try clear hb); (try clear hb2); (try clear hk); (try clear hi); (try clear ho0); (try clear ho1)) | ((with_reducible refine gate_dst (N := 6) rfl ?_); refine box_event ?hg (N := 6) ?hd (cs := #[.int .i64 0, .bool false, .slice none 0 0, .string (⟨#[]⟩ : ByteArray), .int .i64 0, .int .i64 0, .bool false, .bool false, .slice none 0 0]) (t := 29) ?hr ?_; (case hd => rfl); (case hg => rfl); (case hr => first | (go_simp; done) | (go_simp; rfl)); intro gb292 hg w11 hbox hb; have n0_ := Aside0.mk (Kd.R_below (by (with_reducible repeat (first | apply Kd.R_alloc | apply Kd.R_drewN | apply Kd.R_drew)); exact HO283.out) hb); have n1_ := Aside0.mk (Kd.N_below (Kd.N_elderB (by (with_reducible repeat (first | apply Kd.N_alloc | apply Kd.N_drewN | apply Kd.N_drew)); exact HO291.out) gb292 (Nat.le_of_eq hg.symm)) hb); have n2_ := Aside0.mk (blk_below (g := gb277) (o := .cells #[.int .i64 0, .bool false, .slice none 0 0, .string (⟨#[]⟩ : ByteArray), .int .i64 0, .int .i64 0, .bool false, .bool false, .slice none 0 0] 29 (0, 0)) (by (with_reducible repeat (first | refine blk_drewN ?_ _ | refine blk_drew ?_ | refine blk_alloc ?_ _)); exact BK277.out) hb); have n3_ := Aside0.mk (below_step (by repeat (first | (with_reducible first | exact HB.out | apply below_alloc | apply pw_below_drewN | apply below_drew1 | refine below_set ?_ GE277.out) | exact HB.out)) hb); have n4_ := Aside0.mk (hbox); have n5_ := Aside0.mk ((by rw [hg]; exact (below_size (by repeat (first | (with_reducible first | exact HB.out | apply below_alloc | apply pw_below_drewN | apply below_drew1 | refine below_set ?_ GE277.out) | exact HB.out))) : w.heap.size ≤ gb292)); have n6_ := Aside0.mk ((by rw [hg]; exact (below_size (by repeat (first | (with_reducible first | exact HB.out | apply below_alloc | apply pw_below_drewN | apply below_drew1 | refine below_set ?_ GE277.out) | exact HB.out))) : w.heap.size ≤ gb292)); have n7_ := Aside0.mk ((by rw [hg]; exact Nat.ne_of_lt (blk_lt (g := gb277) (o := .cells #[.int .i64 0, .bool false, .slice none 0 0, .string (⟨#[]⟩ : ByteArray), .int .i64 0, .int .i64 0, .bool false, .bool false, .slice none 0 0] 29 (0, 0)) (by (with_reducible repeat (first | refine blk_drewN ?_ _ | refine blk_drew ?_ | refine blk_alloc ?_ _)); exact BK277.out)) : gb277 ≠ gb292)); have n8_ := Aside0.mk ((by rw [hg]; exact Nat.ne_of_gt (blk_lt (g := gb277) (o := .cells #[.int .i64 0, .bool false, .slice none 0 0, .string (⟨#[]⟩ : ByteArray), .int .i64 0, .int .i64 0, .bool false, .bool false, .slice none 0 0] 29 (0, 0)) (by (with_reducible repeat (first | refine blk_drewN ?_ _ | refine blk_drew ?_ | refine blk_alloc ?_ _)); exact BK277.out)) : gb292 ≠ gb277)); clear HO283; clear HO291; clear BK277; clear HB; have HO283 := n0_; have HO291 := n1_; have BK277 := n2_; have HB := n3_; have BK292 := n4_; have GW292 := n5_; have GE292 := n6_; have NB277_292 := n7_; have NB292_277 := n8_; clear n0_ n1_ n2_ n3_ n4_ n5_ n6_ n7_ n8_; clear hb hbox hg; have hnb12 := NB292_277.out; have hnc12 := NB277_292.out; have hcz13_0 : w11.cell? ⟨gb292, 0, none⟩ = some (.int .i64 0) := (blk_cell BK292.out 0).trans rfl; have hcz13_1 : w11.cell? ⟨gb292, 1, none⟩ = some (.bool false) := (blk_cell BK292.out 1).trans rfl; have hcz13_2 : w11.cell? ⟨gb292, 2, none⟩ = some (.slice none 0 0) := (blk_cell BK292.out 2).trans rfl; have hcz13_3 : w11.cell? ⟨gb292, 3, none⟩ = some (.string (⟨#[]⟩ : ByteArray)) := (blk_cell BK292.out 3).trans rfl; have hcz13_4 : w11.cell? ⟨gb292, 4, none⟩ = some (.int .i64 0) := (blk_cell BK292.out 4).trans rfl; have hcz13_5 : w11.cell? ⟨gb292, 5, none⟩ = some (.int .i64 0) := (blk_cell BK292.out 5).trans rfl; have hcz13_6 : w11.cell? ⟨gb292, 6, none⟩ = some (.bool false) := (blk_cell BK292.out 6).trans rfl; have hcz13_7 : w11.cell? ⟨gb292, 7, none⟩ = some (.bool false) := (blk_cell BK292.out 7).trans rfl; have hcz13_8 : w11.cell? ⟨gb292, 8, none⟩ = some (.slice none 0 0) := (blk_cell BK292.out 8).trans rfl; have hfz13_0 := blk_frozen BK292.out 0; have hfz13_1 := blk_frozen BK292.out 1; have hfz13_2 := blk_frozen BK292.out 2; have hfz13_3 := blk_frozen BK292.out 3; have hfz13_4 := blk_frozen BK292.out 4; have hfz13_5 := blk_frozen BK292.out 5; have hfz13_6 := blk_frozen BK292.out 6; have hfz13_7 := blk_frozen BK292.out 7; have hfz13_8 := blk_frozen BK292.out 8; obtain ⟨Ao14, co14, eo14⟩ := Kd.R_slice HO283.out; subst eo14; obtain ⟨Ao15, co15, eo15⟩ := Kd.N_slice HO291.out; subst eo15))
          go_loopg [7] kj2 (fun kq v7 w' => ∃ (x7_2 : Int) (x293000_2 : Int) (x293001_2 : Bool) (x293002_2 : List Int) (x293003_2 : ByteArray) (x293004_2 : Int) (x293005_2 : Int) (x293006_2 : Bool) (x293007_2 : Bool) (x293008_2 : List (S29)) (u293002 : Value) (u293008 : Value), v7 = .int .i64 x7_2 ∧ Aside0 (cylinderref34_Fold.l0 kq l0 x5_2 x7_2 x293000_2 x293001_2 x293002_2 x293003_2 x293004_2 x293005_2 x293006_2 x293007_2 x293008_2 = some (r1, r2, r3, r4, r5, r6, r7, r8, r9)) ∧ Aside0 (kq ≤ kj2) ∧ Aside0 (Kd.R (Kd.int .u32) 103 w' w.heap.size (fun k_ => (w.heap.size ≤ k_)) u293002 x293002_2) ∧ Aside0 (Kd.N k29 29 w' w.heap.size (fun k_ => (w.heap.size ≤ k_) ∧ some k_ ≠ (u293002 : Value).ownBlock ∧ k_ ≠ gb277 ∧ k_ ≠ gb292) u293008 x293008_2) ∧ Aside0 (w'.heap[gb277]? = some (.cells #[.int .i64 0, .bool false, (.slice none 0 0), .string (⟨#[]⟩ : ByteArray), .int .i64 0, .int .i64 0, .bool false, .bool false, (.slice none 0 0)] 29 (0, 0))) ∧ Aside0 (w'.heap[gb292]? = some (.cells #[.int .i64 x293000_2, .bool x293001_2, u293002, .string x293003_2, .int .i64 x293004_2, .int .i64 x293005_2, .bool x293006_2, .bool x293007_2, u293008] 29 (0, 0))) ∧ Aside0 (Below w.heap.size w w'))
          case atStart => exact ⟨(1), (t279), (t280), (t281), (t284), (t285), (t286), (t287), (t288), (t289), (.slice Ao14 t281.length co14), (.slice Ao15 t289.length co15), (by first | rfl | (simp; done) | (simp [*]; done)), H', ⟨Nat.le_refl _⟩, ⟨by (with_reducible repeat (first | apply Kd.R_alloc | apply Kd.R_drewN | apply Kd.R_drew)); exact Kd.R_mono (Kd.R_far (p := ⟨gb292, 8, none⟩) (Kd.R_far (p := ⟨gb292, 7, none⟩) (Kd.R_far (p := ⟨gb292, 6, none⟩) (Kd.R_far (p := ⟨gb292, 5, none⟩) (Kd.R_far (p := ⟨gb292, 4, none⟩) (Kd.R_far (p := ⟨gb292, 3, none⟩) (Kd.R_far (p := ⟨gb292, 2, none⟩) (Kd.R_far (p := ⟨gb292, 1, none⟩) (Kd.R_far (p := ⟨gb292, 0, none⟩) (Kd.R_types HO283.out BK292.out (by decide)) (fun _ hk => hk.2) (.int .i64 t279)) (fun _ hk => hk.2) (.bool t280)) (fun _ hk => hk.2) (.slice Ao14 t281.length co14)) (fun _ hk => hk.2) (.string t284)) (fun _ hk => hk.2) (.int .i64 t285)) (fun _ hk => hk.2) (.int .i64 t286)) (fun _ hk => hk.2) (.bool t287)) (fun _ hk => hk.2) (.bool t288)) (fun _ hk => hk.2) (.slice Ao15 t289.length co15)) (fun _ hk => hk.1.1)⟩, ⟨by (with_reducible repeat (first | apply Kd.N_alloc | apply Kd.N_drewN | apply Kd.N_drew)); exact Kd.N_mono (Kd.N_far (p := ⟨gb292, 8, none⟩) (Kd.N_far (p := ⟨gb292, 7, none⟩) (Kd.N_far (p := ⟨gb292, 6, none⟩) (Kd.N_far (p := ⟨gb292, 5, none⟩) (Kd.N_far (p := ⟨gb292, 4, none⟩) (Kd.N_far (p := ⟨gb292, 3, none⟩) (Kd.N_far (p := ⟨gb292, 2, none⟩) (Kd.N_far (p := ⟨gb292, 1, none⟩) (Kd.N_far (p := ⟨gb292, 0, none⟩) (Kd.N_mono HO291.out (fun k_ hk => (⟨hk, hk.2⟩ : _ ∧ k_ ≠ gb292))) (fun _ hk => hk.2) (.int .i64 t279)) (fun _ hk => hk.2) (.bool t280)) (fun _ hk => hk.2) (.slice Ao14 t281.length co14)) (fun _ hk => hk.2) (.string t284)) (fun _ hk => hk.2) (.int .i64 t285)) (fun _ hk => hk.2) (.int .i64 t286)) (fun _ hk => hk.2) (.bool t287)) (fun _ hk => hk.2) (.bool t288)) (fun _ hk => hk.2) (.slice Ao15 t289.length co15)) (fun _ hk => ⟨hk.1.1.1, ⟨hk.1.1.2.1, ⟨hk.1.1.2.2, hk.1.2⟩⟩⟩)⟩, ⟨by (with_reducible repeat (first | refine blk_drewN ?_ _ | refine blk_drew ?_ | refine blk_alloc ?_ _)); refine blk_far ?_ NB277_292.out _; (with_reducible repeat (first | refine blk_drewN ?_ _ | refine blk_drew ?_ | refine blk_alloc ?_ _)); refine blk_far ?_ NB277_292.out _; (with_reducible repeat (first | refine blk_drewN ?_ _ | refine blk_drew ?_ | refine blk_alloc ?_ _)); refine blk_far ?_ NB277_292.out _; (with_reducible repeat (first | refine blk_drewN ?_ _ | refine blk_drew ?_ | refine blk_alloc ?_ _)); refine blk_far ?_ NB277_292.out _; (with_reducible repeat (first | refine blk_drewN ?_ _ | refine blk_drew ?_ | refine blk_alloc ?_ _)); refine blk_far ?_ NB277_292.out _; (with_reducible repeat (first | refine blk_drewN ?_ _ | refine blk_drew ?_ | refine blk_alloc ?_ _)); refine blk_far ?_ NB277_292.out _; (with_reducible repeat (first | refine blk_drewN ?_ _ | refine blk_drew ?_ | refine blk_alloc ?_ _)); refine blk_far ?_ NB277_292.out _; (with_reducible repeat (first | refine blk_drewN ?_ _ | refine blk_drew ?_ | refine blk_alloc ?_ _)); refine blk_far ?_ NB277_292.out _; (with_reducible repeat (first | refine blk_drewN ?_ _ | refine blk_drew ?_ | refine blk_alloc ?_ _)); refine blk_far ?_ NB277_292.out _; (with_reducible repeat (first | refine blk_drewN ?_ _ | refine blk_drew ?_ | refine blk_alloc ?_ _)); exact BK277.out⟩, ⟨by (with_reducible repeat (first | refine blk_drewN ?_ _ | refine blk_drew ?_ | refine blk_alloc ?_ _)); refine blk_put (cs := #[.int .i64 t279, .bool t280, .slice Ao14 t281.length co14, .string t284, .int .i64 t285, .int .i64 t286, .bool t287, .bool t288, .slice none 0 0]) ?_ 8 _ rfl; (with_reducible repeat (first | refine blk_drewN ?_ _ | refine blk_drew ?_ | refine blk_alloc ?_ _)); refine blk_put (cs := #[.int .i64 t279, .bool t280, .slice Ao14 t281.length co14, .string t284, .int .i64 t285, .int .i64 t286, .bool t287, .bool false, .slice none 0 0]) ?_ 7 _ rfl; (with_reducible repeat (first | refine blk_drewN ?_ _ | refine blk_drew ?_ | refine blk_alloc ?_ _)); refine blk_put (cs := #[.int .i64 t279, .bool t280, .slice Ao14 t281.length co14, .string t284, .int .i64 t285, .int .i64 t286, .bool false, .bool false, .slice none 0 0]) ?_ 6 _ rfl; (with_reducible repeat (first | refine blk_drewN ?_ _ | refine blk_drew ?_ | refine blk_alloc ?_ _)); refine blk_put (cs := #[.int .i64 t279, .bool t280, .slice Ao14 t281.length co14, .string t284, .int .i64 t285, .int .i64 0, .bool false, .bool false, .slice none 0 0]) ?_ 5 _ rfl; (with_reducible repeat (first | refine blk_drewN ?_ _ | refine blk_drew ?_ | refine blk_alloc ?_ _)); refine blk_put (cs := #[.int .i64 t279, .bool t280, .slice Ao14 t281.length co14, .string t284, .int .i64 0, .int .i64 0, .bool false, .bool false, .slice none 0 0]) ?_ 4 _ rfl; (with_reducible repeat (first | refine blk_drewN ?_ _ | refine blk_drew ?_ | refine blk_alloc ?_ _)); refine blk_put (cs := #[.int .i64 t279, .bool t280, .slice Ao14 t281.length co14, .string (⟨#[]⟩ : ByteArray), .int .i64 0, .int .i64 0, .bool false, .bool false, .slice none 0 0]) ?_ 3 _ rfl; (with_reducible repeat (first | refine blk_drewN ?_ _ | refine blk_drew ?_ | refine blk_alloc ?_ _)); refine blk_put (cs := #[.int .i64 t279, .bool t280, .slice none 0 0, .string (⟨#[]⟩ : ByteArray), .int .i64 0, .int .i64 0, .bool false, .bool false, .slice none 0 0]) ?_ 2 _ rfl; (with_reducible repeat (first | refine blk_drewN ?_ _ | refine blk_drew ?_ | refine blk_alloc ?_ _)); refine blk_put (cs := #[.int .i64 t279, .bool false, .slice none 0 0, .string (⟨#[]⟩ : ByteArray), .int .i64 0, .int .i64 0, .bool false, .bool false, .slice none 0 0]) ?_ 1 _ rfl; (with_reducible repeat (first | refine blk_drewN ?_ _ | refine blk_drew ?_ | refine blk_alloc ?_ _)); refine blk_put (cs := #[.int .i64 0, .bool false, .slice none 0 0, .string (⟨#[]⟩ : ByteArray), .int .i64 0, .int .i64 0, .bool false, .bool false, .slice none 0 0]) ?_ 0 _ rfl; (with_reducible repeat (first | refine blk_drewN ?_ _ | refine blk_drew ?_ | refine blk_alloc ?_ _)); exact BK292.out⟩, ⟨by repeat (first | (with_reducible first | exact HB.out | apply below_alloc | apply pw_below_drewN | apply below_drew1 | refine below_set ?_ GE277.out | refine below_set ?_ GE292.out) | exact HB.out)⟩⟩
          case round =>
            clear H'
            try clear c1
            try clear c2
            try clear p2
            try clear q2
            try clear hx2
            try clear qi2
            try clear c3
            try clear c5
            try clear c6
            try clear c6b0
            try clear c6b1
            try clear c6b2
            try clear c8
            try clear c8b0
            try clear c8b1
            try clear c12
            try clear hcz13_0
            try clear hcz13_1
            try clear hcz13_2
            try clear hcz13_3
            try clear hcz13_4
            try clear hcz13_5
            try clear hcz13_6
            try clear hcz13_7
            try clear hcz13_8
            try clear hcz7_0
            try clear hcz7_1
            try clear hcz7_2
            try clear hcz7_3
            try clear hcz7_4
            try clear hcz7_5
            try clear hcz7_6
            try clear hcz7_7
            try clear hcz7_8
            try clear hfz13_0
            try clear hfz13_1
            try clear hfz13_2
            try clear hfz13_3
            try clear hfz13_4
            try clear hfz13_5
            try clear hfz13_6
            try clear hfz13_7
            try clear hfz13_8
            try clear hfz7_0
            try clear hfz7_1
            try clear hfz7_2
            try clear hfz7_3
            try clear hfz7_4
            try clear hfz7_5
            try clear hfz7_6
            try clear hfz7_7
            try clear hfz7_8
            try clear hx278_0
            try clear hx278_1
            try clear hx278_2
            try clear hx278_3
            try clear hx278_4
            try clear hx278_5
            try clear hx278_6
            try clear hx278_7
            try clear hx278_8
            try clear p2
            try clear p278
            try clear q278
            obtain ⟨x7_2, x293000_2, x293001_2, x293002_2, x293003_2, x293004_2, x293005_2, x293006_2, x293007_2, x293008_2, u293002, u293008, rfl, HA, HK2, HO_293002, HO_293008, BK277, BK292, HB⟩ := hrel
            cases gk with
            | zero => exact absurd HA.out (by simp [cylinderref34_Fold.l0])
            | succ k2 =>
              have H := HA.out
              clear HA
              simp only [cylinderref34_Fold.l0] at H
              by_cases c16 : x7_2 < (l0.length : Int)
              · rw [if_pos c16] at H
                have c16b0 : decide (x7_2 < (l0.length : Int)) = true := decide_eq_true c16
                clear c16
                by_cases c17 : 0 ≤ x7_2
                · rw [if_pos c17] at H
                  have c17b0 : decide (0 ≤ x7_2) = true := decide_eq_true c17
                  clear c17
                  replace H := Option.bind_eq_some_iff.mp H
                  obtain ⟨⟨t294, t295, t296, t299, t300, t301, t302, t303, t304⟩, A180, H⟩ := H
                  replace H : (cylinderref34_Fold.l0 k2 l0 x5_2 (wrap64 (x7_2 + 1)) x5_2 false ([] : List Int) (⟨#[]⟩ : ByteArray) 0 0 false false (([(⟨x293000_2, (⟨x293001_2, x293002_2⟩ : S25), x293003_2, x293004_2, x293005_2, x293006_2, x293007_2, x293008_2⟩ : S29), (⟨t294, (⟨t295, t296⟩ : S25), t299, t300, t301, t302, t303, t304⟩ : S29)] : List (S29)))) = some (r1, r2, r3, r4, r5, r6, r7, r8, r9) := H
                  have A18 := Aside0.mk A180
                  clear A180
                  obtain ⟨y307, hy307⟩ : ∃ y_ : List (S29), y_ = (([(⟨x293000_2, (⟨x293001_2, x293002_2⟩ : S25), x293003_2, x293004_2, x293005_2, x293006_2, x293007_2, x293008_2⟩ : S29), (⟨t294, (⟨t295, t296⟩ : S25), t299, t300, t301, t302, t303, t304⟩ : S29)] : List (S29))) := ⟨_, rfl⟩
                  replace H : (cylinderref34_Fold.l0 k2 l0 x5_2 (wrap64 (x7_2 + 1)) x5_2 false ([] : List Int) (⟨#[]⟩ : ByteArray) 0 0 false false y307) = some (r1, r2, r3, r4, r5, r6, r7, r8, r9) := by first | (rw [hy307]; with_reducible exact H) | (have H2_ := (Option.bind_some _ _).symm.trans H; rw [hy307]; with_reducible exact H2_) | (have H2_ := (Option.bind_some _ _).symm.trans H; with_reducible exact H2_) | with_reducible exact H | (rw [hy307]; exact H) | exact H
                  have Ny307 := Aside0.mk hy307
                  clear hy307
                  have H' := Aside0.mk H
                  clear H
                  try go_wp2
                  have n0_ := Aside0.mk (Kd.R_drew HO_293002.out)
                  have n1_ := Aside0.mk (Kd.N_drew HO_293008.out)
                  have n2_ := Aside0.mk (blk_drew BK277.out)
                  have n3_ := Aside0.mk (blk_drew BK292.out)
                  have n4_ := Aside0.mk (below_drew1 HB.out)
                  clear HO_293002
                  clear HO_293008
                  clear BK277
                  clear BK292
                  clear HB
                  have HO_293002 := n0_
                  have HO_293008 := n1_
                  have BK277 := n2_
                  have BK292 := n3_
                  have HB := n4_
                  clear n0_ n1_ n2_ n3_ n4_
                  have p293 : 0 ≤ (x7_2 : Int) := of_decide_eq_true (by first | (with_reducible assumption) | assumption)
                  have q293 : x7_2 < (l0.length : Int) := of_decide_eq_true (by first | (with_reducible assumption) | assumption)
                  obtain ⟨ad293, A293_2, c293_2, A293_8, c293_8, e293, hx293_0, hx293_1, hx293_2, hx293_3, hx293_4, hx293_5, hx293_6, hx293_7, hx293_8, hl293_2, hi293_2, hl293_8, hi293_8⟩ := at_T29 HR0.out x7_2 p293 q293
                  have hw293_8 := hx293_8
                  have hw293_7 := hx293_7
                  have hw293_6 := hx293_6
                  have hw293_5 := hx293_5
                  have hw293_4 := hx293_4
                  have hw293_3 := hx293_3
                  have hw293_2 := hx293_2
                  have hw293_1 := hx293_1
                  have hw293_0 := hx293_0
                  obtain rfl : ad278 = ad293 := (by injection e293)
                  replace hx293_0 := (HB.out.cell (World.block_lt_of_cell? w _ hx293_0)).trans hx293_0
                  replace hx293_1 := (HB.out.cell (World.block_lt_of_cell? w _ hx293_1)).trans hx293_1
                  replace hx293_2 := (HB.out.cell (World.block_lt_of_cell? w _ hx293_2)).trans hx293_2
                  replace hx293_3 := (HB.out.cell (World.block_lt_of_cell? w _ hx293_3)).trans hx293_3
                  replace hx293_4 := (HB.out.cell (World.block_lt_of_cell? w _ hx293_4)).trans hx293_4
                  replace hx293_5 := (HB.out.cell (World.block_lt_of_cell? w _ hx293_5)).trans hx293_5
                  replace hx293_6 := (HB.out.cell (World.block_lt_of_cell? w _ hx293_6)).trans hx293_6
                  replace hx293_7 := (HB.out.cell (World.block_lt_of_cell? w _ hx293_7)).trans hx293_7
                  replace hx293_8 := (HB.out.cell (World.block_lt_of_cell? w _ hx293_8)).trans hx293_8
                  have HR293_2 := Aside0.mk hi293_2
                  have HC293_2 := Aside0.mk hl293_2
                  clear hi293_2 hl293_2
                  have HR293_8 := Aside0.mk hi293_8
                  have HC293_8 := Aside0.mk hl293_8
                  clear hi293_8 hl293_8
                  replace p293 := eq_true p293
                  replace q293 := eq_true q293
                  refine start_ (n := 10) (S := fun w' => w'.cell? ⟨gb292, 0, none⟩ = some (.int .i64 x293000_2) ∧ w'.cell? ⟨gb292, 1, none⟩ = some (.bool x293001_2) ∧ w'.cell? ⟨gb292, 2, none⟩ = some (u293002) ∧ w'.cell? ⟨gb292, 3, none⟩ = some (.string x293003_2) ∧ w'.cell? ⟨gb292, 4, none⟩ = some (.int .i64 x293004_2) ∧ w'.cell? ⟨gb292, 5, none⟩ = some (.int .i64 x293005_2) ∧ w'.cell? ⟨gb292, 6, none⟩ = some (.bool x293006_2) ∧ w'.cell? ⟨gb292, 7, none⟩ = some (.bool x293007_2) ∧ w'.cell? ⟨gb292, 8, none⟩ = some (u293008) ∧ w'.cell? (ad278.add ((x7_2).toNat * 9)) = some (.int .i64 ((rd_T29 l0 x7_2).f0)) ∧ w'.cell? ⟨(ad278.add ((x7_2).toNat * 9)).block, (ad278.add ((x7_2).toNat * 9)).off + 1, none⟩ = some (.bool ((rd_T29 l0 x7_2).f1.f0)) ∧ w'.cell? ⟨(ad278.add ((x7_2).toNat * 9)).block, (ad278.add ((x7_2).toNat * 9)).off + 2, none⟩ = some (.slice A293_2 ((rd_T29 l0 x7_2).f1.f1).length c293_2) ∧ w'.cell? ⟨(ad278.add ((x7_2).toNat * 9)).block, (ad278.add ((x7_2).toNat * 9)).off + 3, none⟩ = some (.string ((rd_T29 l0 x7_2).f2)) ∧ w'.cell? ⟨(ad278.add ((x7_2).toNat * 9)).block, (ad278.add ((x7_2).toNat * 9)).off + 4, none⟩ = some (.int .i64 ((rd_T29 l0 x7_2).f3)) ∧ w'.cell? ⟨(ad278.add ((x7_2).toNat * 9)).block, (ad278.add ((x7_2).toNat * 9)).off + 5, none⟩ = some (.int .i64 ((rd_T29 l0 x7_2).f4)) ∧ w'.cell? ⟨(ad278.add ((x7_2).toNat * 9)).block, (ad278.add ((x7_2).toNat * 9)).off + 6, none⟩ = some (.bool ((rd_T29 l0 x7_2).f5)) ∧ w'.cell? ⟨(ad278.add ((x7_2).toNat * 9)).block, (ad278.add ((x7_2).toNat * 9)).off + 7, none⟩ = some (.bool ((rd_T29 l0 x7_2).f6)) ∧ w'.cell? ⟨(ad278.add ((x7_2).toNat * 9)).block, (ad278.add ((x7_2).toNat * 9)).off + 8, none⟩ = some (.slice A293_8 ((rd_T29 l0 x7_2).f7).length c293_8)) (ds := [9]) #[false, false, false, false, false, false, false, false, false, false] (by kernel_rfl) rfl rfl ⟨(blk_cell BK292.out 0).trans rfl, (blk_cell BK292.out 1).trans rfl, (blk_cell BK292.out 2).trans rfl, (blk_cell BK292.out 3).trans rfl, (blk_cell BK292.out 4).trans rfl, (blk_cell BK292.out 5).trans rfl, (blk_cell BK292.out 6).trans rfl, (blk_cell BK292.out 7).trans rfl, (blk_cell BK292.out 8).trans rfl, ((HB.out.cell (World.block_lt_of_cell? w _ hw293_0)).trans hw293_0), ((HB.out.cell (World.block_lt_of_cell? w _ hw293_1)).trans hw293_1), ((HB.out.cell (World.block_lt_of_cell? w _ hw293_2)).trans hw293_2), ((HB.out.cell (World.block_lt_of_cell? w _ hw293_3)).trans hw293_3), ((HB.out.cell (World.block_lt_of_cell? w _ hw293_4)).trans hw293_4), ((HB.out.cell (World.block_lt_of_cell? w _ hw293_5)).trans hw293_5), ((HB.out.cell (World.block_lt_of_cell? w _ hw293_6)).trans hw293_6), ((HB.out.cell (World.block_lt_of_cell? w _ hw293_7)).trans hw293_7), ((HB.out.cell (World.block_lt_of_cell? w _ hw293_8)).trans hw293_8)⟩ (fun hHeld => ?_); refine with_tabW cylinderref34_Fold.tab10 cylinderref34_Fold.bits10 (fun HT_ HW_ => ?_)
                  generalize wr.drew = w19 at HO_293002 HO_293008 BK277 BK292 HB HR293_2 HR293_8 hx293_0 hx293_1 hx293_2 hx293_3 hx293_4 hx293_5 hx293_6 hx293_7 hx293_8 hHeld ⊢
                  refine pure_ (i := 0) (N := some 24) (v := ?_) (a' := ?_) #[true, false, false, false, false, false, false, false, false, false] rfl rfl (any_of HT_.out (by kernel_rfl)) (fun _ _ _ h => h) (Or.inl ⟨by rfl, ?_⟩) ?_ ?_
                  rotate_left
                  · intro w'
                    go_simp
                    with_reducible rfl
                  rotate_left
                  · simp only [Act.put, List.setIfInBounds_toArray, List.set_cons_zero, List.set_cons_succ, i64_w, i32_w]
                    rfl
                  refine pure_ (i := 2) (N := some 26) (v := ?_) (a' := ?_) #[true, false, true, false, false, false, false, false, false, false] rfl rfl (any_of HT_.out (by kernel_rfl)) (fun _ _ _ h => h) (Or.inl ⟨by rfl, ?_⟩) ?_ ?_
                  rotate_left
                  · intro w'
                    go_simp
                    with_reducible rfl
                  rotate_left
                  · simp only [Act.put, List.setIfInBounds_toArray, List.set_cons_zero, List.set_cons_succ, i64_w, i32_w]
                    rfl
                  refine pure_ (i := 3) (N := some 27) (v := ?_) (a' := ?_) #[true, false, true, true, false, false, false, false, false, false] rfl rfl (any_of HT_.out (by kernel_rfl)) (fun _ _ _ h => h) (Or.inl ⟨by rfl, ?_⟩) ?_ ?_
                  rotate_left
                  · intro w'
                    go_simp
                    with_reducible rfl
                  rotate_left
                  · simp only [Act.put, List.setIfInBounds_toArray, List.set_cons_zero, List.set_cons_succ, i64_w, i32_w]
                    rfl
                  refine pure_ (i := 4) (N := some 28) (v := ?_) (a' := ?_) #[true, false, true, true, true, false, false, false, false, false] rfl rfl (any_of HT_.out (by kernel_rfl)) (fun _ _ _ h => h) (Or.inl ⟨by rfl, ?_⟩) ?_ ?_
                  rotate_left
                  · intro w'
                    go_simp
                    with_reducible rfl
                  rotate_left
                  · simp only [Act.put, List.setIfInBounds_toArray, List.set_cons_zero, List.set_cons_succ, i64_w, i32_w]
                    rfl
                  refine take_ (i := 1) (N := some 25) (v := ?_) (a' := ?_) #[true, true, true, true, true, false, false, false, false, false] rfl rfl (take_ofW HT_.out HW_.out (by kernel_rfl)) (fun _ _ _ h => h) (Or.inl ⟨by rfl, ?_⟩) hHeld ?_ ?_
                  rotate_left
                  · rintro w' ⟨s0, s1, s2, s3, s4, s5, s6, s7, s8, s9, s10, s11, s12, s13, s14, s15, s16, s17⟩
                    go_simp
                    with_reducible rfl
                  rotate_left
                  · simp only [Act.put, List.setIfInBounds_toArray, List.set_cons_zero, List.set_cons_succ, i64_w, i32_w]
                    rfl
                  refine take_ (i := 5) (N := some 29) (v := ?_) (a' := ?_) #[true, true, true, true, true, true, false, false, false, false] rfl rfl (take_ofW HT_.out HW_.out (by kernel_rfl)) (fun _ _ _ h => h) (Or.inl ⟨by rfl, ?_⟩) hHeld ?_ ?_
                  rotate_left
                  · rintro w' ⟨s0, s1, s2, s3, s4, s5, s6, s7, s8, s9, s10, s11, s12, s13, s14, s15, s16, s17⟩
                    go_simp
                    with_reducible rfl
                  rotate_left
                  · simp only [Act.put, List.setIfInBounds_toArray, List.set_cons_zero, List.set_cons_succ, i64_w, i32_w]
                    rfl
                  refine one_ (i := 6) (N := some 30) #[true, true, true, true, true, true, true, false, false, false] rfl rfl (one_of HT_.out (by kernel_rfl)) (by decide) (fun K hK => ?_)
                  refine goes_ Try.func22 (by kernel_rfl) rfl #[.agg #[.int .i64 ((rd_T29 l0 x7_2).f0), .bool ((rd_T29 l0 x7_2).f1.f0), .slice A293_2 ((rd_T29 l0 x7_2).f1.f1).length c293_2, .string ((rd_T29 l0 x7_2).f2), .int .i64 ((rd_T29 l0 x7_2).f3), .int .i64 ((rd_T29 l0 x7_2).f4), .bool ((rd_T29 l0 x7_2).f5), .bool ((rd_T29 l0 x7_2).f6), .slice A293_8 ((rd_T29 l0 x7_2).f7).length c293_8]] (by rfl) rfl rfl (by (try simp only [List.map_toArray, List.map_cons, List.map_nil]); first | done | rfl | (simp only [List.length_drop, List.length_take]; rfl)) ?_
                  with_reducible refine (cylinderref34_Canon.calls k2 ((rd_T29 l0 x7_2).f0) ((rd_T29 l0 x7_2).f1.f0) _ _ ((rd_T29 l0 x7_2).f1.f1) ((rd_T29 l0 x7_2).f2) ((rd_T29 l0 x7_2).f3) ((rd_T29 l0 x7_2).f4) ((rd_T29 l0 x7_2).f5) ((rd_T29 l0 x7_2).f6) _ _ ((rd_T29 l0 x7_2).f7) t294 t295 t296 t299 t300 t301 t302 t303 t304 _ ?side1 ?side2 ?side3 ?side4 A18.out).mono ?_
                  (case side1 => repeat (first | exact (Kd.C_below HR293_2.out HB.out) | (with_reducible refine Kd.C_alloc ?_ _) | (with_reducible refine Kd.C_drewN ?_ _) | (with_reducible refine Kd.C_drew ?_)))
                  (case side2 => exact HC293_2.out)
                  (case side3 => repeat (first | exact (Kd.C_below HR293_8.out HB.out) | (with_reducible refine Kd.C_alloc ?_ _) | (with_reducible refine Kd.C_drewN ?_ _) | (with_reducible refine Kd.C_drew ?_)))
                  (case side4 => exact HC293_8.out)
                  rintro e w20 ⟨v297, v305, rfl, ho0, ho1, hb⟩
                  refine ⟨_, rfl, ?_⟩
                  have n0_ := Aside0.mk (Kd.R_elder' (by (with_reducible repeat (first | apply Kd.R_alloc | apply Kd.R_drewN | apply Kd.R_drew)); exact HO_293002.out) (Kd.R_base ho0) hb)
                  have n1_ := Aside0.mk (Kd.N_mono (Kd.N_told (Kd.N_told (Kd.N_old (by (with_reducible repeat (first | apply Kd.N_alloc | apply Kd.N_drewN | apply Kd.N_drew)); exact HO_293008.out) hb) (Kd.R_base ho0)) (by first | exact Kd.N_base ho1 | exact Kd.R_base ho1)) (fun _ h_ => h_.1))
                  have n2_ := Aside0.mk (Kd.R_lower (Kd.R_new' (Kd.R_newM (M := fun k_ => (w.heap.size ≤ k_)) ho0 (below_size (by repeat (first | (with_reducible first | exact HB.out | apply below_alloc | apply pw_below_drewN | apply below_drew1 | refine below_set ?_ GE277.out | refine below_set ?_ GE292.out) | exact HB.out))) (fun k_ h_ => h_)) (Kd.R_lt (by (with_reducible repeat (first | apply Kd.R_alloc | apply Kd.R_drewN | apply Kd.R_drew)); exact HO_293002.out))) (below_size (by repeat (first | (with_reducible first | exact HB.out | apply below_alloc | apply pw_below_drewN | apply below_drew1 | refine below_set ?_ GE277.out | refine below_set ?_ GE292.out) | exact HB.out))))
                  have n3_ := Aside0.mk (Kd.N_lower (Kd.N_mono (ok' := fun k_ => (w.heap.size ≤ k_) ∧ some k_ ≠ (v297 : Value).ownBlock ∧ some k_ ≠ (u293002 : Value).ownBlock ∧ some k_ ≠ (u293008 : Value).ownBlock ∧ k_ ≠ gb277 ∧ k_ ≠ gb292) (Kd.R_N (Kd.R_bound ho1)) (fun k_ hk_ => ⟨(Nat.le_trans (below_size (by repeat (first | (with_reducible first | exact HB.out | apply below_alloc | apply pw_below_drewN | apply below_drew1 | refine below_set ?_ GE277.out | refine below_set ?_ GE292.out) | exact HB.out))) hk_.2.1), hk_.1, (Kd.fresh' (Kd.R_lt (by (with_reducible repeat (first | apply Kd.R_alloc | apply Kd.R_drewN | apply Kd.R_drew)); exact HO_293002.out)) k_ hk_.2.1), (Kd.fresh' (Kd.N_lt (by (with_reducible repeat (first | apply Kd.N_alloc | apply Kd.N_drewN | apply Kd.N_drew)); exact HO_293008.out)) k_ hk_.2.1), (Kd.freshB (g := gb277) (o := .cells #[.int .i64 0, .bool false, .slice none 0 0, .string (⟨#[]⟩ : ByteArray), .int .i64 0, .int .i64 0, .bool false, .bool false, .slice none 0 0] 29 (0, 0)) (by (with_reducible repeat (first | refine blk_drewN ?_ _ | refine blk_drew ?_ | refine blk_alloc ?_ _)); exact BK277.out) k_ hk_.2.1), (Kd.freshB (g := gb292) (o := .cells #[.int .i64 x293000_2, .bool x293001_2, u293002, .string x293003_2, .int .i64 x293004_2, .int .i64 x293005_2, .bool x293006_2, .bool x293007_2, u293008] 29 (0, 0)) (by (with_reducible repeat (first | refine blk_drewN ?_ _ | refine blk_drew ?_ | refine blk_alloc ?_ _)); exact BK292.out) k_ hk_.2.1)⟩)) (below_size (by repeat (first | (with_reducible first | exact HB.out | apply below_alloc | apply pw_below_drewN | apply below_drew1 | refine below_set ?_ GE277.out | refine below_set ?_ GE292.out) | exact HB.out))))
                  have n4_ := Aside0.mk (blk_below (g := gb277) (o := .cells #[.int .i64 0, .bool false, .slice none 0 0, .string (⟨#[]⟩ : ByteArray), .int .i64 0, .int .i64 0, .bool false, .bool false, .slice none 0 0] 29 (0, 0)) (by (with_reducible repeat (first | refine blk_drewN ?_ _ | refine blk_drew ?_ | refine blk_alloc ?_ _)); exact BK277.out) hb)
                  have n5_ := Aside0.mk (blk_below (g := gb292) (o := .cells #[.int .i64 x293000_2, .bool x293001_2, u293002, .string x293003_2, .int .i64 x293004_2, .int .i64 x293005_2, .bool x293006_2, .bool x293007_2, u293008] 29 (0, 0)) (by (with_reducible repeat (first | refine blk_drewN ?_ _ | refine blk_drew ?_ | refine blk_alloc ?_ _)); exact BK292.out) hb)
                  have n6_ := Aside0.mk (below_step (by repeat (first | (with_reducible first | exact HB.out | apply below_alloc | apply pw_below_drewN | apply below_drew1 | refine below_set ?_ GE277.out | refine below_set ?_ GE292.out) | exact HB.out)) hb)
                  clear HO_293002
                  clear HO_293008
                  clear BK277
                  clear BK292
                  clear HB
                  have HO_293002 := n0_
                  have HO_293008 := n1_
                  have HO298 := n2_
                  have HO306 := n3_
                  have BK277 := n4_
                  have BK292 := n5_
                  have HB := n6_
                  clear n0_ n1_ n2_ n3_ n4_ n5_ n6_
                  (try clear hb)
                  (try clear hb2)
                  (try clear hk)
                  (try clear hi)
                  (try clear ho0)
                  (try clear ho1)
                  obtain ⟨Ao21, co21, eo21⟩ := Kd.R_slice HO_293002.out
                  (first | subst eo21 | (injection eo21 with f1_ f2_ f3_; have f4_ := f1_.symm; have f5_ := f3_.symm; clear f1_ f2_ f3_; subst f4_; subst f5_))
                  obtain ⟨Ao22, co22, eo22⟩ := Kd.N_slice HO_293008.out
                  (first | subst eo22 | (injection eo22 with f1_ f2_ f3_; have f4_ := f1_.symm; have f5_ := f3_.symm; clear f1_ f2_ f3_; subst f4_; subst f5_))
                  obtain ⟨Ao23, co23, eo23⟩ := Kd.R_slice HO298.out
                  (first | subst eo23 | (injection eo23 with f1_ f2_ f3_; have f4_ := f1_.symm; have f5_ := f3_.symm; clear f1_ f2_ f3_; subst f4_; subst f5_))
                  obtain ⟨Ao24, co24, eo24⟩ := Kd.N_slice HO306.out
                  (first | subst eo24 | (injection eo24 with f1_ f2_ f3_; have f4_ := f1_.symm; have f5_ := f3_.symm; clear f1_ f2_ f3_; subst f4_; subst f5_))
                  refine hK.out _ _ ⟨(blk_cell BK292.out 0).trans rfl, (blk_cell BK292.out 1).trans rfl, (blk_cell BK292.out 2).trans rfl, (blk_cell BK292.out 3).trans rfl, (blk_cell BK292.out 4).trans rfl, (blk_cell BK292.out 5).trans rfl, (blk_cell BK292.out 6).trans rfl, (blk_cell BK292.out 7).trans rfl, (blk_cell BK292.out 8).trans rfl, ((HB.out.cell (World.block_lt_of_cell? w _ hw293_0)).trans hw293_0), ((HB.out.cell (World.block_lt_of_cell? w _ hw293_1)).trans hw293_1), ((HB.out.cell (World.block_lt_of_cell? w _ hw293_2)).trans hw293_2), ((HB.out.cell (World.block_lt_of_cell? w _ hw293_3)).trans hw293_3), ((HB.out.cell (World.block_lt_of_cell? w _ hw293_4)).trans hw293_4), ((HB.out.cell (World.block_lt_of_cell? w _ hw293_5)).trans hw293_5), ((HB.out.cell (World.block_lt_of_cell? w _ hw293_6)).trans hw293_6), ((HB.out.cell (World.block_lt_of_cell? w _ hw293_7)).trans hw293_7), ((HB.out.cell (World.block_lt_of_cell? w _ hw293_8)).trans hw293_8)⟩ (fun hHeld => ?_)
                  clear hK K
                  refine norm_ (a' := ?_) ?_ ?_
                  rotate_left
                  · show Act.put _ (some 30) _ = _
                    simp only [Act.put, List.setIfInBounds_toArray, List.set_cons_zero, List.set_cons_succ, i64_w, i32_w]
                    rfl
                  refine one_ (i := 7) (N := some 31) #[true, true, true, true, true, true, true, true, false, false] rfl rfl (one_of HT_.out (by kernel_rfl)) (by decide) (fun K hK => ?_)
                  refine Kd.N_lit_step k29 _ 29 ?hg (N' := 31) ?hd (xs := ([(⟨x293000_2, (⟨x293001_2, x293002_2⟩ : S25), x293003_2, x293004_2, x293005_2, x293006_2, x293007_2, x293008_2⟩ : S29), (⟨t294, (⟨t295, t296⟩ : S25), t299, t300, t301, t302, t303, t304⟩ : S29)] : List (S29))) (inner := [.int .i64 x293000_2, .bool x293001_2, .slice Ao21 x293002_2.length co21, .string x293003_2, .int .i64 x293004_2, .int .i64 x293005_2, .bool x293006_2, .bool x293007_2, .slice Ao22 x293008_2.length co22, .int .i64 t294, .bool t295, .slice Ao23 t296.length co23, .string t299, .int .i64 t300, .int .i64 t301, .bool t302, .bool t303, .slice Ao24 t304.length co24]) (ok := (fun k_ => (w.heap.size ≤ k_) ∧ k_ ≠ gb277 ∧ k_ ≠ gb292)) (okp := (fun k_ => (w.heap.size ≤ k_) ∧ k_ ≠ gb277 ∧ k_ ≠ gb292)) ?hr ?hp (fun _ hk => hk) ((show ∀ k_, w20.heap.size ≤ k_ → (fun k_ => (w.heap.size ≤ k_) ∧ k_ ≠ gb277 ∧ k_ ≠ gb292) k_ from fun k_ hk => ⟨(Nat.le_trans (below_size (by repeat (first | (with_reducible first | exact HB.out | apply below_alloc | apply pw_below_drewN | apply below_drew1 | refine below_set ?_ GE277.out | refine below_set ?_ GE292.out) | exact HB.out))) hk), Kd.freshB (g := gb277) (o := .cells #[.int .i64 0, .bool false, .slice none 0 0, .string (⟨#[]⟩ : ByteArray), .int .i64 0, .int .i64 0, .bool false, .bool false, .slice none 0 0] 29 (0, 0)) (by (with_reducible repeat (first | refine blk_drewN ?_ _ | refine blk_drew ?_ | refine blk_alloc ?_ _)); exact BK277.out) k_ hk, Kd.freshB (g := gb292) (o := .cells #[.int .i64 x293000_2, .bool x293001_2, .slice Ao21 x293002_2.length co21, .string x293003_2, .int .i64 x293004_2, .int .i64 x293005_2, .bool x293006_2, .bool x293007_2, .slice Ao22 x293008_2.length co22] 29 (0, 0)) (by (with_reducible repeat (first | refine blk_drewN ?_ _ | refine blk_drew ?_ | refine blk_alloc ?_ _)); exact BK292.out) k_ hk⟩) _ (Nat.le_refl _)) (Below.refl _ _) (Nat.le_refl _) (by simp) ?_; (case hd => rfl); (case hg => rfl); (case hr => first | (go_simp; done) | (go_simp; rfl)); (case hp => exact (Reps.c9 (show Kd.FK k29 _ _ (⟨x293000_2, (⟨x293001_2, x293002_2⟩ : S25), x293003_2, x293004_2, x293005_2, x293006_2, x293007_2, x293008_2⟩ : S29) [.int .i64 x293000_2, .bool x293001_2, .slice Ao21 x293002_2.length co21, .string x293003_2, .int .i64 x293004_2, .int .i64 x293005_2, .bool x293006_2, .bool x293007_2, .slice Ao22 x293008_2.length co22] from (k29_mkF _ _ (⟨x293000_2, (⟨x293001_2, x293002_2⟩ : S25), x293003_2, x293004_2, x293005_2, x293006_2, x293007_2, x293008_2⟩ : S29) (Kd.R_reads' (Kd.R_mono (ok' := (fun k_ => (w.heap.size ≤ k_) ∧ k_ ≠ gb277 ∧ k_ ≠ gb292)) (Kd.R_types (Kd.R_types (HO_293002.out) BK277.out (by decide)) BK292.out (by decide)) (fun k_ hk => ⟨hk.1.1.1, ⟨hk.1.2, hk.2⟩⟩))).2.1 (Kd.R_F (Kd.R_mono (ok' := (fun k_ => (w.heap.size ≤ k_) ∧ k_ ≠ gb277 ∧ k_ ≠ gb292)) (Kd.R_types (Kd.R_types (HO_293002.out) BK277.out (by decide)) BK292.out (by decide)) (fun k_ hk => ⟨hk.1.1.1, ⟨hk.1.2, hk.2⟩⟩))) (Kd.N_reads' (Kd.N_mono (ok' := (fun k_ => (w.heap.size ≤ k_) ∧ k_ ≠ gb277 ∧ k_ ≠ gb292)) (HO_293008.out) (fun k_ hk => ⟨hk.1.1.1, ⟨hk.1.1.2.2.1, hk.1.1.2.2.2⟩⟩))).2.1 (Kd.N_F (Kd.N_mono (ok' := (fun k_ => (w.heap.size ≤ k_) ∧ k_ ≠ gb277 ∧ k_ ≠ gb292)) (HO_293008.out) (fun k_ hk => ⟨hk.1.1.1, ⟨hk.1.1.2.2.1, hk.1.1.2.2.2⟩⟩))))) (Reps.c9 (show Kd.FK k29 _ _ (⟨t294, (⟨t295, t296⟩ : S25), t299, t300, t301, t302, t303, t304⟩ : S29) [.int .i64 t294, .bool t295, .slice Ao23 t296.length co23, .string t299, .int .i64 t300, .int .i64 t301, .bool t302, .bool t303, .slice Ao24 t304.length co24] from (k29_mkF _ _ (⟨t294, (⟨t295, t296⟩ : S25), t299, t300, t301, t302, t303, t304⟩ : S29) (Kd.R_reads' (Kd.R_mono (ok' := (fun k_ => (w.heap.size ≤ k_) ∧ k_ ≠ gb277 ∧ k_ ≠ gb292)) (Kd.R_types (Kd.R_types (HO298.out) BK277.out (by decide)) BK292.out (by decide)) (fun k_ hk => ⟨hk.1.1.1.1, ⟨hk.1.2, hk.2⟩⟩))).2.1 (Kd.R_F (Kd.R_mono (ok' := (fun k_ => (w.heap.size ≤ k_) ∧ k_ ≠ gb277 ∧ k_ ≠ gb292)) (Kd.R_types (Kd.R_types (HO298.out) BK277.out (by decide)) BK292.out (by decide)) (fun k_ hk => ⟨hk.1.1.1.1, ⟨hk.1.2, hk.2⟩⟩))) (Kd.N_reads' (Kd.N_mono (ok' := (fun k_ => (w.heap.size ≤ k_) ∧ k_ ≠ gb277 ∧ k_ ≠ gb292)) (HO306.out) (fun k_ hk => ⟨hk.1, ⟨hk.2.2.2.2.1, hk.2.2.2.2.2⟩⟩))).2.1 (Kd.N_F (Kd.N_mono (ok' := (fun k_ => (w.heap.size ≤ k_) ∧ k_ ≠ gb277 ∧ k_ ≠ gb292)) (HO306.out) (fun k_ hk => ⟨hk.1, ⟨hk.2.2.2.2.1, hk.2.2.2.2.2⟩⟩))))) (Reps.none _ _))))
                  intro v308 w25 ho26 hb hg_ hnew_
                  clear hg_ hnew_
                  (first | rw [← Ny307.out] at ho26 | (simp only [Int.reduceToNat] at ho26; rw [← Ny307.out] at ho26))
                  have n0_ := Aside0.mk (Kd.N_lower ho26 (below_size (by repeat (first | (with_reducible first | exact HB.out | apply below_alloc | apply pw_below_drewN | apply below_drew1 | refine below_set ?_ GE277.out | refine below_set ?_ GE292.out) | exact HB.out))))
                  have n1_ := Aside0.mk (blk_below (g := gb277) (o := .cells #[.int .i64 0, .bool false, .slice none 0 0, .string (⟨#[]⟩ : ByteArray), .int .i64 0, .int .i64 0, .bool false, .bool false, .slice none 0 0] 29 (0, 0)) (by (with_reducible repeat (first | refine blk_drewN ?_ _ | refine blk_drew ?_ | refine blk_alloc ?_ _)); exact BK277.out) hb)
                  have n2_ := Aside0.mk (blk_below (g := gb292) (o := .cells #[.int .i64 x293000_2, .bool x293001_2, .slice Ao21 x293002_2.length co21, .string x293003_2, .int .i64 x293004_2, .int .i64 x293005_2, .bool x293006_2, .bool x293007_2, .slice Ao22 x293008_2.length co22] 29 (0, 0)) (by (with_reducible repeat (first | refine blk_drewN ?_ _ | refine blk_drew ?_ | refine blk_alloc ?_ _)); exact BK292.out) hb)
                  have n3_ := Aside0.mk (below_step (by repeat (first | (with_reducible first | exact HB.out | apply below_alloc | apply pw_below_drewN | apply below_drew1 | refine below_set ?_ GE277.out | refine below_set ?_ GE292.out) | exact HB.out)) hb)
                  clear BK277
                  clear BK292
                  clear HB
                  clear HO298
                  clear HO306
                  clear HO_293002
                  clear HO_293008
                  have HO309 := n0_
                  have BK277 := n1_
                  have BK292 := n2_
                  have HB := n3_
                  clear n0_ n1_ n2_ n3_
                  clear hb ho26
                  obtain ⟨Ao27, co27, eo27⟩ := Kd.N_slice HO309.out
                  (first | subst eo27 | (injection eo27 with f1_ f2_ f3_; have f4_ := f1_.symm; have f5_ := f3_.symm; clear f1_ f2_ f3_; subst f4_; subst f5_))
                  refine hK.out _ _ ⟨(blk_cell BK292.out 0).trans rfl, (blk_cell BK292.out 1).trans rfl, (blk_cell BK292.out 2).trans rfl, (blk_cell BK292.out 3).trans rfl, (blk_cell BK292.out 4).trans rfl, (blk_cell BK292.out 5).trans rfl, (blk_cell BK292.out 6).trans rfl, (blk_cell BK292.out 7).trans rfl, (blk_cell BK292.out 8).trans rfl, ((HB.out.cell (World.block_lt_of_cell? w _ hw293_0)).trans hw293_0), ((HB.out.cell (World.block_lt_of_cell? w _ hw293_1)).trans hw293_1), ((HB.out.cell (World.block_lt_of_cell? w _ hw293_2)).trans hw293_2), ((HB.out.cell (World.block_lt_of_cell? w _ hw293_3)).trans hw293_3), ((HB.out.cell (World.block_lt_of_cell? w _ hw293_4)).trans hw293_4), ((HB.out.cell (World.block_lt_of_cell? w _ hw293_5)).trans hw293_5), ((HB.out.cell (World.block_lt_of_cell? w _ hw293_6)).trans hw293_6), ((HB.out.cell (World.block_lt_of_cell? w _ hw293_7)).trans hw293_7), ((HB.out.cell (World.block_lt_of_cell? w _ hw293_8)).trans hw293_8)⟩ (fun hHeld => ?_)
                  clear hK K
                  refine norm_ (a' := ?_) ?_ ?_
                  rotate_left
                  · show Act.put _ (some 31) _ = _
                    simp only [Act.put, List.setIfInBounds_toArray, List.set_cons_zero, List.set_cons_succ, i64_w, i32_w]
                    rfl
                  refine pure_ (i := 8) (N := some 32) (v := ?_) (a' := ?_) #[true, true, true, true, true, true, true, true, true, false] rfl rfl (any_of HT_.out (by kernel_rfl)) (fun _ _ _ h => h) (Or.inl ⟨by rfl, ?_⟩) ?_ ?_
                  rotate_left
                  · intro w'
                    go_simp
                    with_reducible rfl
                  rotate_left
                  · simp only [Act.put, List.setIfInBounds_toArray, List.set_cons_zero, List.set_cons_succ, i64_w, i32_w]
                    rfl
                  refine last_ (i := 9) (N := none) #[true, true, true, true, true, true, true, true, true, true] rfl rfl (one_of HT_.out (by kernel_rfl)) (by decide) (fun K hK => ?_)
                  have hs28 : w25.cell? ⟨gb292, 0, none⟩ = some (.int .i64 x293000_2) := (blk_cell BK292.out 0).trans rfl
                  have hfs28 := blk_frozen BK292.out 0
                  have hns28_0 := NB277_292.out
                  have hms28_0 := NB292_277.out
                  have hs29 : w25.cell? ⟨gb292, 1, none⟩ = some (.bool x293001_2) := (blk_cell BK292.out 1).trans rfl
                  have hfs29 := blk_frozen BK292.out 1
                  have hns29_0 := NB277_292.out
                  have hms29_0 := NB292_277.out
                  have hs30 : w25.cell? ⟨gb292, 2, none⟩ = some (.slice Ao21 x293002_2.length co21) := (blk_cell BK292.out 2).trans rfl
                  have hfs30 := blk_frozen BK292.out 2
                  have hns30_0 := NB277_292.out
                  have hms30_0 := NB292_277.out
                  have hs31 : w25.cell? ⟨gb292, 3, none⟩ = some (.string x293003_2) := (blk_cell BK292.out 3).trans rfl
                  have hfs31 := blk_frozen BK292.out 3
                  have hns31_0 := NB277_292.out
                  have hms31_0 := NB292_277.out
                  have hs32 : w25.cell? ⟨gb292, 4, none⟩ = some (.int .i64 x293004_2) := (blk_cell BK292.out 4).trans rfl
                  have hfs32 := blk_frozen BK292.out 4
                  have hns32_0 := NB277_292.out
                  have hms32_0 := NB292_277.out
                  have hs33 : w25.cell? ⟨gb292, 5, none⟩ = some (.int .i64 x293005_2) := (blk_cell BK292.out 5).trans rfl
                  have hfs33 := blk_frozen BK292.out 5
                  have hns33_0 := NB277_292.out
                  have hms33_0 := NB292_277.out
                  have hs34 : w25.cell? ⟨gb292, 6, none⟩ = some (.bool x293006_2) := (blk_cell BK292.out 6).trans rfl
                  have hfs34 := blk_frozen BK292.out 6
                  have hns34_0 := NB277_292.out
                  have hms34_0 := NB292_277.out
                  have hs35 : w25.cell? ⟨gb292, 7, none⟩ = some (.bool x293007_2) := (blk_cell BK292.out 7).trans rfl
                  have hfs35 := blk_frozen BK292.out 7
                  have hns35_0 := NB277_292.out
                  have hms35_0 := NB292_277.out
                  have hs36 : w25.cell? ⟨gb292, 8, none⟩ = some (.slice Ao22 x293008_2.length co22) := (blk_cell BK292.out 8).trans rfl
                  have hfs36 := blk_frozen BK292.out 8
                  have hns36_0 := NB277_292.out
                  have hms36_0 := NB292_277.out
                  refine skip_ (w1 := ?_) (by rfl) rfl ?_ ?_
                  rotate_left
                  · go_simp
                    rfl
                  refine hK.out _ _ ?_
                  clear hK K
                  refine done_ (done_of HT_.out (by kernel_rfl)) ?_
                  try go_wp2
                  go_roundg k2
                  case measure => have := HJ2.out; have := HK2.out; omega
                  case rel => exact ⟨(wrap64 (x7_2 + 1)), (x5_2), (false), (([] : List Int)), ((⟨#[]⟩ : ByteArray)), (0), (0), (false), (false), (y307), (.slice none 0 0), (.slice Ao27 y307.length co27), (by first | rfl | (simp; done) | (simp [*]; done)), H', ⟨by have := HJ2.out; have := HK2.out; omega⟩, ⟨by first | exact Kd.R_nil _ _ _ _ _ | exact Kd.N_nil _ _ _ _ _ | exact Kd.V_nil _ _ _ _ _ | exact Kd.Q_nil _ _ _ _ _ | exact Kd.S_nil _ _ _ _ _⟩, ⟨by (with_reducible repeat (first | apply Kd.N_alloc | apply Kd.N_drewN | apply Kd.N_drew)); exact Kd.N_mono (Kd.N_far (p := ⟨gb292, 8, none⟩) (Kd.N_far (p := ⟨gb292, 7, none⟩) (Kd.N_far (p := ⟨gb292, 6, none⟩) (Kd.N_far (p := ⟨gb292, 5, none⟩) (Kd.N_far (p := ⟨gb292, 4, none⟩) (Kd.N_far (p := ⟨gb292, 3, none⟩) (Kd.N_far (p := ⟨gb292, 2, none⟩) (Kd.N_far (p := ⟨gb292, 1, none⟩) (Kd.N_far (p := ⟨gb292, 0, none⟩) (Kd.N_mono HO309.out (fun k_ hk => (⟨hk, hk.2.2⟩ : _ ∧ k_ ≠ gb292))) (fun _ hk => hk.2) (.int .i64 x5_2)) (fun _ hk => hk.2) (.bool false)) (fun _ hk => hk.2) (.slice none 0 0)) (fun _ hk => hk.2) (.string (⟨#[]⟩ : ByteArray))) (fun _ hk => hk.2) (.int .i64 0)) (fun _ hk => hk.2) (.int .i64 0)) (fun _ hk => hk.2) (.bool false)) (fun _ hk => hk.2) (.bool false)) (fun _ hk => hk.2) (.slice Ao27 y307.length co27)) (fun _ hk => ⟨hk.1.1, ⟨(by simp [Value.ownBlock]), ⟨hk.1.2.1, hk.1.2.2⟩⟩⟩)⟩, ⟨by (with_reducible repeat (first | refine blk_drewN ?_ _ | refine blk_drew ?_ | refine blk_alloc ?_ _)); refine blk_far ?_ NB277_292.out _; (with_reducible repeat (first | refine blk_drewN ?_ _ | refine blk_drew ?_ | refine blk_alloc ?_ _)); refine blk_far ?_ NB277_292.out _; (with_reducible repeat (first | refine blk_drewN ?_ _ | refine blk_drew ?_ | refine blk_alloc ?_ _)); refine blk_far ?_ NB277_292.out _; (with_reducible repeat (first | refine blk_drewN ?_ _ | refine blk_drew ?_ | refine blk_alloc ?_ _)); refine blk_far ?_ NB277_292.out _; (with_reducible repeat (first | refine blk_drewN ?_ _ | refine blk_drew ?_ | refine blk_alloc ?_ _)); refine blk_far ?_ NB277_292.out _; (with_reducible repeat (first | refine blk_drewN ?_ _ | refine blk_drew ?_ | refine blk_alloc ?_ _)); refine blk_far ?_ NB277_292.out _; (with_reducible repeat (first | refine blk_drewN ?_ _ | refine blk_drew ?_ | refine blk_alloc ?_ _)); refine blk_far ?_ NB277_292.out _; (with_reducible repeat (first | refine blk_drewN ?_ _ | refine blk_drew ?_ | refine blk_alloc ?_ _)); refine blk_far ?_ NB277_292.out _; (with_reducible repeat (first | refine blk_drewN ?_ _ | refine blk_drew ?_ | refine blk_alloc ?_ _)); refine blk_far ?_ NB277_292.out _; (with_reducible repeat (first | refine blk_drewN ?_ _ | refine blk_drew ?_ | refine blk_alloc ?_ _)); exact BK277.out⟩, ⟨by (with_reducible repeat (first | refine blk_drewN ?_ _ | refine blk_drew ?_ | refine blk_alloc ?_ _)); refine blk_put (cs := #[.int .i64 x5_2, .bool false, .slice none 0 0, .string (⟨#[]⟩ : ByteArray), .int .i64 0, .int .i64 0, .bool false, .bool false, .slice Ao22 x293008_2.length co22]) ?_ 8 _ rfl; (with_reducible repeat (first | refine blk_drewN ?_ _ | refine blk_drew ?_ | refine blk_alloc ?_ _)); refine blk_put (cs := #[.int .i64 x5_2, .bool false, .slice none 0 0, .string (⟨#[]⟩ : ByteArray), .int .i64 0, .int .i64 0, .bool false, .bool x293007_2, .slice Ao22 x293008_2.length co22]) ?_ 7 _ rfl; (with_reducible repeat (first | refine blk_drewN ?_ _ | refine blk_drew ?_ | refine blk_alloc ?_ _)); refine blk_put (cs := #[.int .i64 x5_2, .bool false, .slice none 0 0, .string (⟨#[]⟩ : ByteArray), .int .i64 0, .int .i64 0, .bool x293006_2, .bool x293007_2, .slice Ao22 x293008_2.length co22]) ?_ 6 _ rfl; (with_reducible repeat (first | refine blk_drewN ?_ _ | refine blk_drew ?_ | refine blk_alloc ?_ _)); refine blk_put (cs := #[.int .i64 x5_2, .bool false, .slice none 0 0, .string (⟨#[]⟩ : ByteArray), .int .i64 0, .int .i64 x293005_2, .bool x293006_2, .bool x293007_2, .slice Ao22 x293008_2.length co22]) ?_ 5 _ rfl; (with_reducible repeat (first | refine blk_drewN ?_ _ | refine blk_drew ?_ | refine blk_alloc ?_ _)); refine blk_put (cs := #[.int .i64 x5_2, .bool false, .slice none 0 0, .string (⟨#[]⟩ : ByteArray), .int .i64 x293004_2, .int .i64 x293005_2, .bool x293006_2, .bool x293007_2, .slice Ao22 x293008_2.length co22]) ?_ 4 _ rfl; (with_reducible repeat (first | refine blk_drewN ?_ _ | refine blk_drew ?_ | refine blk_alloc ?_ _)); refine blk_put (cs := #[.int .i64 x5_2, .bool false, .slice none 0 0, .string x293003_2, .int .i64 x293004_2, .int .i64 x293005_2, .bool x293006_2, .bool x293007_2, .slice Ao22 x293008_2.length co22]) ?_ 3 _ rfl; (with_reducible repeat (first | refine blk_drewN ?_ _ | refine blk_drew ?_ | refine blk_alloc ?_ _)); refine blk_put (cs := #[.int .i64 x5_2, .bool false, .slice Ao21 x293002_2.length co21, .string x293003_2, .int .i64 x293004_2, .int .i64 x293005_2, .bool x293006_2, .bool x293007_2, .slice Ao22 x293008_2.length co22]) ?_ 2 _ rfl; (with_reducible repeat (first | refine blk_drewN ?_ _ | refine blk_drew ?_ | refine blk_alloc ?_ _)); refine blk_put (cs := #[.int .i64 x5_2, .bool x293001_2, .slice Ao21 x293002_2.length co21, .string x293003_2, .int .i64 x293004_2, .int .i64 x293005_2, .bool x293006_2, .bool x293007_2, .slice Ao22 x293008_2.length co22]) ?_ 1 _ rfl; (with_reducible repeat (first | refine blk_drewN ?_ _ | refine blk_drew ?_ | refine blk_alloc ?_ _)); refine blk_put (cs := #[.int .i64 x293000_2, .bool x293001_2, .slice Ao21 x293002_2.length co21, .string x293003_2, .int .i64 x293004_2, .int .i64 x293005_2, .bool x293006_2, .bool x293007_2, .slice Ao22 x293008_2.length co22]) ?_ 0 _ rfl; (with_reducible repeat (first | refine blk_drewN ?_ _ | refine blk_drew ?_ | refine blk_alloc ?_ _)); exact BK292.out⟩, ⟨by repeat (first | (with_reducible first | exact HB.out | apply below_alloc | apply pw_below_drewN | apply below_drew1 | refine below_set ?_ GE277.out | refine below_set ?_ GE292.out) | exact HB.out)⟩⟩
                · rw [if_neg c17] at H
                  exact absurd H (by simp)
              · rw [if_neg c16] at H
                have c16b0 : decide (x7_2 < (l0.length : Int)) = false := decide_eq_false c16
                clear c16
                simp only [Option.some.injEq, Prod.mk.injEq] at H
                obtain ⟨rfl, rfl, rfl, rfl, rfl, rfl, rfl, rfl, rfl⟩ := H
                have hnb37 := NB292_277.out
                have hnc37 := NB277_292.out
                have hcz38_0 : wr.cell? ⟨gb292, 0, none⟩ = some (.int .i64 x293000_2) := (blk_cell BK292.out 0).trans rfl
                have hcz38_1 : wr.cell? ⟨gb292, 1, none⟩ = some (.bool x293001_2) := (blk_cell BK292.out 1).trans rfl
                have hcz38_2 : wr.cell? ⟨gb292, 2, none⟩ = some (u293002) := (blk_cell BK292.out 2).trans rfl
                have hcz38_3 : wr.cell? ⟨gb292, 3, none⟩ = some (.string x293003_2) := (blk_cell BK292.out 3).trans rfl
                have hcz38_4 : wr.cell? ⟨gb292, 4, none⟩ = some (.int .i64 x293004_2) := (blk_cell BK292.out 4).trans rfl
                have hcz38_5 : wr.cell? ⟨gb292, 5, none⟩ = some (.int .i64 x293005_2) := (blk_cell BK292.out 5).trans rfl
                have hcz38_6 : wr.cell? ⟨gb292, 6, none⟩ = some (.bool x293006_2) := (blk_cell BK292.out 6).trans rfl
                have hcz38_7 : wr.cell? ⟨gb292, 7, none⟩ = some (.bool x293007_2) := (blk_cell BK292.out 7).trans rfl
                have hcz38_8 : wr.cell? ⟨gb292, 8, none⟩ = some (u293008) := (blk_cell BK292.out 8).trans rfl
                have hfz38_0 := blk_frozen BK292.out 0
                have hfz38_1 := blk_frozen BK292.out 1
                have hfz38_2 := blk_frozen BK292.out 2
                have hfz38_3 := blk_frozen BK292.out 3
                have hfz38_4 := blk_frozen BK292.out 4
                have hfz38_5 := blk_frozen BK292.out 5
                have hfz38_6 := blk_frozen BK292.out 6
                have hfz38_7 := blk_frozen BK292.out 7
                have hfz38_8 := blk_frozen BK292.out 8
                have hcz39_0 : wr.cell? ⟨gb277, 0, none⟩ = some (.int .i64 0) := (blk_cell BK277.out 0).trans rfl
                have hcz39_1 : wr.cell? ⟨gb277, 1, none⟩ = some (.bool false) := (blk_cell BK277.out 1).trans rfl
                have hcz39_2 : wr.cell? ⟨gb277, 2, none⟩ = some (.slice none 0 0) := (blk_cell BK277.out 2).trans rfl
                have hcz39_3 : wr.cell? ⟨gb277, 3, none⟩ = some (.string (⟨#[]⟩ : ByteArray)) := (blk_cell BK277.out 3).trans rfl
                have hcz39_4 : wr.cell? ⟨gb277, 4, none⟩ = some (.int .i64 0) := (blk_cell BK277.out 4).trans rfl
                have hcz39_5 : wr.cell? ⟨gb277, 5, none⟩ = some (.int .i64 0) := (blk_cell BK277.out 5).trans rfl
                have hcz39_6 : wr.cell? ⟨gb277, 6, none⟩ = some (.bool false) := (blk_cell BK277.out 6).trans rfl
                have hcz39_7 : wr.cell? ⟨gb277, 7, none⟩ = some (.bool false) := (blk_cell BK277.out 7).trans rfl
                have hcz39_8 : wr.cell? ⟨gb277, 8, none⟩ = some (.slice none 0 0) := (blk_cell BK277.out 8).trans rfl
                have hfz39_0 := blk_frozen BK277.out 0
                have hfz39_1 := blk_frozen BK277.out 1
                have hfz39_2 := blk_frozen BK277.out 2
                have hfz39_3 := blk_frozen BK277.out 3
                have hfz39_4 := blk_frozen BK277.out 4
                have hfz39_5 := blk_frozen BK277.out 5
                have hfz39_6 := blk_frozen BK277.out 6
                have hfz39_7 := blk_frozen BK277.out 7
                have hfz39_8 := blk_frozen BK277.out 8
                obtain ⟨Ao40, co40, eo40⟩ := Kd.R_slice HO_293002.out
                subst eo40
                obtain ⟨Ao41, co41, eo41⟩ := Kd.N_slice HO_293008.out
                subst eo41
                go_wp2
                refine bodyPost_ret (results_cell_row rfl _ _ gb277 29 #[.int .i64 x293000_2, .bool x293001_2, .slice Ao40 x293002_2.length co40, .string x293003_2, .int .i64 x293004_2, .int .i64 x293005_2, .bool x293006_2, .bool x293007_2, .slice Ao41 x293008_2.length co41] (0, 0) _ rfl (by (with_reducible repeat (first | refine blk_drewN ?_ _ | refine blk_drew ?_ | refine blk_alloc ?_ _)); refine blk_put (cs := #[.int .i64 x293000_2, .bool x293001_2, .slice Ao40 x293002_2.length co40, .string x293003_2, .int .i64 x293004_2, .int .i64 x293005_2, .bool x293006_2, .bool x293007_2, .slice none 0 0]) ?_ 8 _ rfl; (with_reducible repeat (first | refine blk_drewN ?_ _ | refine blk_drew ?_ | refine blk_alloc ?_ _)); refine blk_put (cs := #[.int .i64 x293000_2, .bool x293001_2, .slice Ao40 x293002_2.length co40, .string x293003_2, .int .i64 x293004_2, .int .i64 x293005_2, .bool x293006_2, .bool false, .slice none 0 0]) ?_ 7 _ rfl; (with_reducible repeat (first | refine blk_drewN ?_ _ | refine blk_drew ?_ | refine blk_alloc ?_ _)); refine blk_put (cs := #[.int .i64 x293000_2, .bool x293001_2, .slice Ao40 x293002_2.length co40, .string x293003_2, .int .i64 x293004_2, .int .i64 x293005_2, .bool false, .bool false, .slice none 0 0]) ?_ 6 _ rfl; (with_reducible repeat (first | refine blk_drewN ?_ _ | refine blk_drew ?_ | refine blk_alloc ?_ _)); refine blk_put (cs := #[.int .i64 x293000_2, .bool x293001_2, .slice Ao40 x293002_2.length co40, .string x293003_2, .int .i64 x293004_2, .int .i64 0, .bool false, .bool false, .slice none 0 0]) ?_ 5 _ rfl; (with_reducible repeat (first | refine blk_drewN ?_ _ | refine blk_drew ?_ | refine blk_alloc ?_ _)); refine blk_put (cs := #[.int .i64 x293000_2, .bool x293001_2, .slice Ao40 x293002_2.length co40, .string x293003_2, .int .i64 0, .int .i64 0, .bool false, .bool false, .slice none 0 0]) ?_ 4 _ rfl; (with_reducible repeat (first | refine blk_drewN ?_ _ | refine blk_drew ?_ | refine blk_alloc ?_ _)); refine blk_put (cs := #[.int .i64 x293000_2, .bool x293001_2, .slice Ao40 x293002_2.length co40, .string (⟨#[]⟩ : ByteArray), .int .i64 0, .int .i64 0, .bool false, .bool false, .slice none 0 0]) ?_ 3 _ rfl; (with_reducible repeat (first | refine blk_drewN ?_ _ | refine blk_drew ?_ | refine blk_alloc ?_ _)); refine blk_put (cs := #[.int .i64 x293000_2, .bool x293001_2, .slice none 0 0, .string (⟨#[]⟩ : ByteArray), .int .i64 0, .int .i64 0, .bool false, .bool false, .slice none 0 0]) ?_ 2 _ rfl; (with_reducible repeat (first | refine blk_drewN ?_ _ | refine blk_drew ?_ | refine blk_alloc ?_ _)); refine blk_put (cs := #[.int .i64 x293000_2, .bool false, .slice none 0 0, .string (⟨#[]⟩ : ByteArray), .int .i64 0, .int .i64 0, .bool false, .bool false, .slice none 0 0]) ?_ 1 _ rfl; (with_reducible repeat (first | refine blk_drewN ?_ _ | refine blk_drew ?_ | refine blk_alloc ?_ _)); refine blk_put (cs := #[.int .i64 0, .bool false, .slice none 0 0, .string (⟨#[]⟩ : ByteArray), .int .i64 0, .int .i64 0, .bool false, .bool false, .slice none 0 0]) ?_ 0 _ rfl; (with_reducible repeat (first | refine blk_drewN ?_ _ | refine blk_drew ?_ | refine blk_alloc ?_ _)); exact BK277.out) Try.underlying29 rfl (by kernel_rfl)) rfl ?_
                exact ⟨_, _, by first | rfl | (simp [errW_none, errW_some] <;> rfl) | (simp [*, errW_none, errW_some] <;> rfl), by (with_reducible repeat (first | apply Kd.R_alloc | apply Kd.R_drewN | apply Kd.R_drew)); exact Kd.R_mono (Kd.R_far (p := ⟨gb277, 8, none⟩) (Kd.R_far (p := ⟨gb277, 7, none⟩) (Kd.R_far (p := ⟨gb277, 6, none⟩) (Kd.R_far (p := ⟨gb277, 5, none⟩) (Kd.R_far (p := ⟨gb277, 4, none⟩) (Kd.R_far (p := ⟨gb277, 3, none⟩) (Kd.R_far (p := ⟨gb277, 2, none⟩) (Kd.R_far (p := ⟨gb277, 1, none⟩) (Kd.R_far (p := ⟨gb277, 0, none⟩) (Kd.R_types HO_293002.out BK277.out (by decide)) (fun _ hk => hk.2) (.int .i64 x293000_2)) (fun _ hk => hk.2) (.bool x293001_2)) (fun _ hk => hk.2) (.slice Ao40 x293002_2.length co40)) (fun _ hk => hk.2) (.string x293003_2)) (fun _ hk => hk.2) (.int .i64 x293004_2)) (fun _ hk => hk.2) (.int .i64 x293005_2)) (fun _ hk => hk.2) (.bool x293006_2)) (fun _ hk => hk.2) (.bool x293007_2)) (fun _ hk => hk.2) (.slice Ao41 x293008_2.length co41)) (fun _ hk => hk.1), by (with_reducible repeat (first | apply Kd.N_alloc | apply Kd.N_drewN | apply Kd.N_drew)); exact Kd.N_mono (Kd.N_far (p := ⟨gb277, 8, none⟩) (Kd.N_far (p := ⟨gb277, 7, none⟩) (Kd.N_far (p := ⟨gb277, 6, none⟩) (Kd.N_far (p := ⟨gb277, 5, none⟩) (Kd.N_far (p := ⟨gb277, 4, none⟩) (Kd.N_far (p := ⟨gb277, 3, none⟩) (Kd.N_far (p := ⟨gb277, 2, none⟩) (Kd.N_far (p := ⟨gb277, 1, none⟩) (Kd.N_far (p := ⟨gb277, 0, none⟩) (Kd.N_mono HO_293008.out (fun k_ hk => (⟨hk, hk.2.2.1⟩ : _ ∧ k_ ≠ gb277))) (fun _ hk => hk.2) (.int .i64 x293000_2)) (fun _ hk => hk.2) (.bool x293001_2)) (fun _ hk => hk.2) (.slice Ao40 x293002_2.length co40)) (fun _ hk => hk.2) (.string x293003_2)) (fun _ hk => hk.2) (.int .i64 x293004_2)) (fun _ hk => hk.2) (.int .i64 x293005_2)) (fun _ hk => hk.2) (.bool x293006_2)) (fun _ hk => hk.2) (.bool x293007_2)) (fun _ hk => hk.2) (.slice Ao41 x293008_2.length co41)) (fun _ hk => ⟨hk.1.1, hk.1.2.1⟩), by repeat (first | (with_reducible first | exact HB.out | apply below_alloc | apply pw_below_drewN | apply below_drew1 | refine below_set ?_ GE277.out | refine below_set ?_ GE292.out) | exact HB.out)⟩
        · rw [if_neg c8] at H
          exact absurd H (by simp)

end Go.Proofs.Ytddpojinlapmfaa.PRef
