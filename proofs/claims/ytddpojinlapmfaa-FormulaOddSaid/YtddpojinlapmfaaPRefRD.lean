-- printed by wip/tools/xprint.py (the kit's print program, with stubs); checked by Lean
import Derived.Test.YtddpojinlapmfaaPRefx0
namespace Go.Proofs.Ytddpojinlapmfaa.PRef
open Go.RowKit Go.Proofs.YtddpojinlapmfaaW.PrintWords Go.Proofs.YtddpojinlapmfaaW.PrintLast Go.Proofs.YtddpojinlapmfaaW.PrintMore
attribute [local go_sem] max2_int min2_int max_two min_two max_three min_three max_four min_four   -- for this text's walks alone
set_option linter.unusedVariables false
set_option linter.unusedSimpArgs false

/-! ### cylinderref34_SameInt: function 58 -/
mutual
def cylinderref34_SameInt.j0 : Nat → Bool → Bool → List Int → Bool → List Int → Option (Bool)
  | 0, _, _, _, _, _ => none
  | k + 1, x19, x144000, x144001, x145000, x145001 => if x19 = true then (some false) else (cylinderref34_SameInt.l0 k (x144001.length : Int) 0 x144000 x144001 x145000 x145001)
def cylinderref34_SameInt.l0 : Nat → Int → Int → Bool → List Int → Bool → List Int → Option (Bool)
  | 0, _, _, _, _, _, _ => none
  | k + 1, x22, x23, x144000, x144001, x145000, x145001 => if x23 < x22 then (if 0 ≤ x23 then (if x23 < (x144001.length : Int) then (if x23 < (x145001.length : Int) then (if (rd x144001 x23) = (rd x145001 x23) then (cylinderref34_SameInt.l0 k x22 (wrap64 (x23 + 1)) x144000 x144001 x145000 x145001) else (some false)) else (none)) else (none)) else (none)) else (some true)
end
def cylinderref34_SameInt.f (k : Nat) (a0_0 : Bool) (l0_1 : List Int) (a1_0 : Bool) (l1_1 : List Int) : Option (Bool) := if (a0_0 != a1_0) = true then (cylinderref34_SameInt.j0 k true a0_0 l0_1 a1_0 l1_1) else (cylinderref34_SameInt.j0 k ((l0_1.length : Int) != (l1_1.length : Int)) a0_0 l0_1 a1_0 l1_1)
theorem cylinderref34_SameInt.mono_l : ∀ k, (∀ y0 y1 y2 y3 y4, LeO (cylinderref34_SameInt.j0 k y0 y1 y2 y3 y4) (cylinderref34_SameInt.j0 (k + 1) y0 y1 y2 y3 y4)) ∧ (∀ y0 y1 y2 y3 y4 y5, LeO (cylinderref34_SameInt.l0 k y0 y1 y2 y3 y4 y5) (cylinderref34_SameInt.l0 (k + 1) y0 y1 y2 y3 y4 y5))
  | 0 => ⟨fun _ _ _ _ _ r h => by simp [cylinderref34_SameInt.j0] at h, fun _ _ _ _ _ _ r h => by simp [cylinderref34_SameInt.l0] at h⟩
  | k + 1 => by
    obtain ⟨ih0, ih1⟩ := cylinderref34_SameInt.mono_l k
    refine ⟨?_, ?_⟩
    · intro y0 y1 y2 y3 y4
      unfold cylinderref34_SameInt.j0
      repeat' first
      | (with_reducible exact ih0 _ _ _ _ _)
      | (with_reducible exact ih1 _ _ _ _ _ _)
      | (with_reducible exact LeO.refl _)
      | (with_reducible exact LeO.none _)
      | (with_reducible refine LeO.ite ?_ ?_)
      | (with_reducible refine LeO.bind ?_ (fun _ => ?_))
      | exact ih0 _ _ _ _ _
      | exact ih1 _ _ _ _ _ _
      | exact LeO.none _
      | refine LeO.ite ?_ ?_
      | refine LeO.bind ?_ (fun _ => ?_)
    · intro y0 y1 y2 y3 y4 y5
      unfold cylinderref34_SameInt.l0
      repeat' first
      | (with_reducible exact ih0 _ _ _ _ _)
      | (with_reducible exact ih1 _ _ _ _ _ _)
      | (with_reducible exact LeO.refl _)
      | (with_reducible exact LeO.none _)
      | (with_reducible refine LeO.ite ?_ ?_)
      | (with_reducible refine LeO.bind ?_ (fun _ => ?_))
      | exact ih0 _ _ _ _ _
      | exact ih1 _ _ _ _ _ _
      | exact LeO.none _
      | refine LeO.ite ?_ ?_
      | refine LeO.bind ?_ (fun _ => ?_)
theorem cylinderref34_SameInt.mono : ∀ a0 a1 a2 a3 k, LeO (cylinderref34_SameInt.f k a0 a1 a2 a3) (cylinderref34_SameInt.f (k + 1) a0 a1 a2 a3) := by
  intro a0 a1 a2 a3 k
  obtain ⟨ih0, ih1⟩ := cylinderref34_SameInt.mono_l k
  unfold cylinderref34_SameInt.f
  repeat' first
      | (with_reducible exact ih0 _ _ _ _ _)
      | (with_reducible exact ih1 _ _ _ _ _ _)
      | (with_reducible exact LeO.refl _)
      | (with_reducible exact LeO.none _)
      | (with_reducible refine LeO.ite ?_ ?_)
      | (with_reducible refine LeO.bind ?_ (fun _ => ?_))
      | exact ih0 _ _ _ _ _
      | exact ih1 _ _ _ _ _ _
      | exact LeO.none _
      | refine LeO.ite ?_ ?_
      | refine LeO.bind ?_ (fun _ => ?_)
set_option maxHeartbeats 8000000 in
set_option maxRecDepth 100000 in
theorem cylinderref34_SameInt.calls (k : Nat) (a0_0 : Bool) (A0_1 : Option Addr) (c0_1 : Nat) (l0_1 : List Int) (a1_0 : Bool) (A1_1 : Option Addr) (c1_1 : Nat) (l1_1 : List Int) (r : Bool) (w : World) (hr0_1 : Kd.C (Kd.int .u32) w A0_1 l0_1.length l0_1) (hc0_1 : l0_1.length ≤ c0_1) (hr1_1 : Kd.C (Kd.int .u32) w A1_1 l1_1.length l1_1) (hc1_1 : l1_1.length ≤ c1_1) (h : cylinderref34_SameInt.f k a0_0 l0_1 a1_0 l1_1 = some r) :
    Calls Try.prog 58 #[.agg #[.bool a0_0, .slice A0_1 l0_1.length c0_1], .agg #[.bool a1_0, .slice A1_1 l1_1.length c1_1]] w fun e w' => e = .returned (.bool r) ∧ Below w.heap.size w w' := by
  have hu25 := Try.underlying25
  have HR0_1 := Aside0.mk hr0_1
  have HC0_1 := Aside0.mk hc0_1
  clear hr0_1 hc0_1
  have HR1_1 := Aside0.mk hr1_1
  have HC1_1 := Aside0.mk hc1_1
  clear hr1_1 hc1_1
  have HB := Aside0.mk (Below.refl w.heap.size w)
  have H : (if (a0_0 != a1_0) = true then (cylinderref34_SameInt.j0 k true a0_0 l0_1 a1_0 l1_1) else (cylinderref34_SameInt.j0 k ((l0_1.length : Int) != (l1_1.length : Int)) a0_0 l0_1 a1_0 l1_1)) = some r := h
  clear h
  have HC3 := Aside0.mk H
  clear H
  go_enter Try.func58, Try.ntmps58
  go_upto_region 1 with (first | ((with_reducible refine gate_dst (N := 2) rfl ?_); (try (refine gate_guard (by rfl) ?_; dsimp only)); refine box_event ?hg (N := 2) ?hd (cs := #[.bool a0_0, .slice A0_1 l0_1.length c0_1]) (t := 25) ?hr ?_; (case hd => rfl); (case hg => rfl); (case hr => first | (go_simp; done) | (go_simp; rfl)); intro gb143 hg w4 hbox hb; have n0_ := Aside0.mk (below_step (by repeat (first | (with_reducible first | exact HB.out | apply below_alloc | apply pw_below_drewN | apply below_drew1) | exact HB.out)) hb); have n1_ := Aside0.mk (hbox); have n2_ := Aside0.mk ((by rw [hg]; exact (below_size (by repeat (first | (with_reducible first | exact HB.out | apply below_alloc | apply pw_below_drewN | apply below_drew1) | exact HB.out))) : w.heap.size ≤ gb143)); have n3_ := Aside0.mk ((by rw [hg]; exact (below_size (by repeat (first | (with_reducible first | exact HB.out | apply below_alloc | apply pw_below_drewN | apply below_drew1) | exact HB.out))) : w.heap.size ≤ gb143)); clear HB; have HB := n0_; have BK143 := n1_; have GW143 := n2_; have GE143 := n3_; clear n0_ n1_ n2_ n3_; clear hb hbox hg) | ((with_reducible refine gate_dst (N := 3) rfl ?_); (try (refine gate_guard (by rfl) ?_; dsimp only)); refine box_event ?hg (N := 3) ?hd (cs := #[.bool a1_0, .slice A1_1 l1_1.length c1_1]) (t := 25) ?hr ?_; (case hd => rfl); (case hg => rfl); (case hr => first | (go_simp; done) | (go_simp; rfl)); intro gb144 hg w5 hbox hb; have n0_ := Aside0.mk (blk_below (g := gb143) (o := .cells #[.bool a0_0, .slice A0_1 l0_1.length c0_1] 25 (0, 0)) (by (with_reducible repeat (first | refine blk_drewN ?_ _ | refine blk_drew ?_ | refine blk_alloc ?_ _)); exact BK143.out) hb); have n1_ := Aside0.mk (below_step (by repeat (first | (with_reducible first | exact HB.out | apply below_alloc | apply pw_below_drewN | apply below_drew1 | refine below_set ?_ GE143.out) | exact HB.out)) hb); have n2_ := Aside0.mk (hbox); have n3_ := Aside0.mk ((by rw [hg]; exact (below_size (by repeat (first | (with_reducible first | exact HB.out | apply below_alloc | apply pw_below_drewN | apply below_drew1 | refine below_set ?_ GE143.out) | exact HB.out))) : w.heap.size ≤ gb144)); have n4_ := Aside0.mk ((by rw [hg]; exact (below_size (by repeat (first | (with_reducible first | exact HB.out | apply below_alloc | apply pw_below_drewN | apply below_drew1 | refine below_set ?_ GE143.out) | exact HB.out))) : w.heap.size ≤ gb144)); have n5_ := Aside0.mk ((by rw [hg]; exact Nat.ne_of_lt (blk_lt (g := gb143) (o := .cells #[.bool a0_0, .slice A0_1 l0_1.length c0_1] 25 (0, 0)) (by (with_reducible repeat (first | refine blk_drewN ?_ _ | refine blk_drew ?_ | refine blk_alloc ?_ _)); exact BK143.out)) : gb143 ≠ gb144)); have n6_ := Aside0.mk ((by rw [hg]; exact Nat.ne_of_gt (blk_lt (g := gb143) (o := .cells #[.bool a0_0, .slice A0_1 l0_1.length c0_1] 25 (0, 0)) (by (with_reducible repeat (first | refine blk_drewN ?_ _ | refine blk_drew ?_ | refine blk_alloc ?_ _)); exact BK143.out)) : gb144 ≠ gb143)); clear BK143; clear HB; have BK143 := n0_; have HB := n1_; have BK144 := n2_; have GW144 := n3_; have GE144 := n4_; have NB143_144 := n5_; have NB144_143 := n6_; clear n0_ n1_ n2_ n3_ n4_ n5_ n6_; clear hb hbox hg))
  repeat (go_quiet (first | ((with_reducible refine gate_dst (N := 2) rfl ?_); (try (refine gate_guard (by rfl) ?_; dsimp only)); refine box_event ?hg (N := 2) ?hd (cs := #[.bool a0_0, .slice A0_1 l0_1.length c0_1]) (t := 25) ?hr ?_; (case hd => rfl); (case hg => rfl); (case hr => first | (go_simp; done) | (go_simp; rfl)); intro gb143 hg w4 hbox hb; have n0_ := Aside0.mk (below_step (by repeat (first | (with_reducible first | exact HB.out | apply below_alloc | apply pw_below_drewN | apply below_drew1) | exact HB.out)) hb); have n1_ := Aside0.mk (hbox); have n2_ := Aside0.mk ((by rw [hg]; exact (below_size (by repeat (first | (with_reducible first | exact HB.out | apply below_alloc | apply pw_below_drewN | apply below_drew1) | exact HB.out))) : w.heap.size ≤ gb143)); have n3_ := Aside0.mk ((by rw [hg]; exact (below_size (by repeat (first | (with_reducible first | exact HB.out | apply below_alloc | apply pw_below_drewN | apply below_drew1) | exact HB.out))) : w.heap.size ≤ gb143)); clear HB; have HB := n0_; have BK143 := n1_; have GW143 := n2_; have GE143 := n3_; clear n0_ n1_ n2_ n3_; clear hb hbox hg) | ((with_reducible refine gate_dst (N := 3) rfl ?_); (try (refine gate_guard (by rfl) ?_; dsimp only)); refine box_event ?hg (N := 3) ?hd (cs := #[.bool a1_0, .slice A1_1 l1_1.length c1_1]) (t := 25) ?hr ?_; (case hd => rfl); (case hg => rfl); (case hr => first | (go_simp; done) | (go_simp; rfl)); intro gb144 hg w5 hbox hb; have n0_ := Aside0.mk (blk_below (g := gb143) (o := .cells #[.bool a0_0, .slice A0_1 l0_1.length c0_1] 25 (0, 0)) (by (with_reducible repeat (first | refine blk_drewN ?_ _ | refine blk_drew ?_ | refine blk_alloc ?_ _)); exact BK143.out) hb); have n1_ := Aside0.mk (below_step (by repeat (first | (with_reducible first | exact HB.out | apply below_alloc | apply pw_below_drewN | apply below_drew1 | refine below_set ?_ GE143.out) | exact HB.out)) hb); have n2_ := Aside0.mk (hbox); have n3_ := Aside0.mk ((by rw [hg]; exact (below_size (by repeat (first | (with_reducible first | exact HB.out | apply below_alloc | apply pw_below_drewN | apply below_drew1 | refine below_set ?_ GE143.out) | exact HB.out))) : w.heap.size ≤ gb144)); have n4_ := Aside0.mk ((by rw [hg]; exact (below_size (by repeat (first | (with_reducible first | exact HB.out | apply below_alloc | apply pw_below_drewN | apply below_drew1 | refine below_set ?_ GE143.out) | exact HB.out))) : w.heap.size ≤ gb144)); have n5_ := Aside0.mk ((by rw [hg]; exact Nat.ne_of_lt (blk_lt (g := gb143) (o := .cells #[.bool a0_0, .slice A0_1 l0_1.length c0_1] 25 (0, 0)) (by (with_reducible repeat (first | refine blk_drewN ?_ _ | refine blk_drew ?_ | refine blk_alloc ?_ _)); exact BK143.out)) : gb143 ≠ gb144)); have n6_ := Aside0.mk ((by rw [hg]; exact Nat.ne_of_gt (blk_lt (g := gb143) (o := .cells #[.bool a0_0, .slice A0_1 l0_1.length c0_1] 25 (0, 0)) (by (with_reducible repeat (first | refine blk_drewN ?_ _ | refine blk_drew ?_ | refine blk_alloc ?_ _)); exact BK143.out)) : gb144 ≠ gb143)); clear BK143; clear HB; have BK143 := n0_; have HB := n1_; have BK144 := n2_; have GW144 := n3_; have GE144 := n4_; have NB143_144 := n5_; have NB144_143 := n6_; clear n0_ n1_ n2_ n3_ n4_ n5_ n6_; clear hb hbox hg)); go_upto_region 1 with (first | ((with_reducible refine gate_dst (N := 2) rfl ?_); (try (refine gate_guard (by rfl) ?_; dsimp only)); refine box_event ?hg (N := 2) ?hd (cs := #[.bool a0_0, .slice A0_1 l0_1.length c0_1]) (t := 25) ?hr ?_; (case hd => rfl); (case hg => rfl); (case hr => first | (go_simp; done) | (go_simp; rfl)); intro gb143 hg w4 hbox hb; have n0_ := Aside0.mk (below_step (by repeat (first | (with_reducible first | exact HB.out | apply below_alloc | apply pw_below_drewN | apply below_drew1) | exact HB.out)) hb); have n1_ := Aside0.mk (hbox); have n2_ := Aside0.mk ((by rw [hg]; exact (below_size (by repeat (first | (with_reducible first | exact HB.out | apply below_alloc | apply pw_below_drewN | apply below_drew1) | exact HB.out))) : w.heap.size ≤ gb143)); have n3_ := Aside0.mk ((by rw [hg]; exact (below_size (by repeat (first | (with_reducible first | exact HB.out | apply below_alloc | apply pw_below_drewN | apply below_drew1) | exact HB.out))) : w.heap.size ≤ gb143)); clear HB; have HB := n0_; have BK143 := n1_; have GW143 := n2_; have GE143 := n3_; clear n0_ n1_ n2_ n3_; clear hb hbox hg) | ((with_reducible refine gate_dst (N := 3) rfl ?_); (try (refine gate_guard (by rfl) ?_; dsimp only)); refine box_event ?hg (N := 3) ?hd (cs := #[.bool a1_0, .slice A1_1 l1_1.length c1_1]) (t := 25) ?hr ?_; (case hd => rfl); (case hg => rfl); (case hr => first | (go_simp; done) | (go_simp; rfl)); intro gb144 hg w5 hbox hb; have n0_ := Aside0.mk (blk_below (g := gb143) (o := .cells #[.bool a0_0, .slice A0_1 l0_1.length c0_1] 25 (0, 0)) (by (with_reducible repeat (first | refine blk_drewN ?_ _ | refine blk_drew ?_ | refine blk_alloc ?_ _)); exact BK143.out) hb); have n1_ := Aside0.mk (below_step (by repeat (first | (with_reducible first | exact HB.out | apply below_alloc | apply pw_below_drewN | apply below_drew1 | refine below_set ?_ GE143.out) | exact HB.out)) hb); have n2_ := Aside0.mk (hbox); have n3_ := Aside0.mk ((by rw [hg]; exact (below_size (by repeat (first | (with_reducible first | exact HB.out | apply below_alloc | apply pw_below_drewN | apply below_drew1 | refine below_set ?_ GE143.out) | exact HB.out))) : w.heap.size ≤ gb144)); have n4_ := Aside0.mk ((by rw [hg]; exact (below_size (by repeat (first | (with_reducible first | exact HB.out | apply below_alloc | apply pw_below_drewN | apply below_drew1 | refine below_set ?_ GE143.out) | exact HB.out))) : w.heap.size ≤ gb144)); have n5_ := Aside0.mk ((by rw [hg]; exact Nat.ne_of_lt (blk_lt (g := gb143) (o := .cells #[.bool a0_0, .slice A0_1 l0_1.length c0_1] 25 (0, 0)) (by (with_reducible repeat (first | refine blk_drewN ?_ _ | refine blk_drew ?_ | refine blk_alloc ?_ _)); exact BK143.out)) : gb143 ≠ gb144)); have n6_ := Aside0.mk ((by rw [hg]; exact Nat.ne_of_gt (blk_lt (g := gb143) (o := .cells #[.bool a0_0, .slice A0_1 l0_1.length c0_1] 25 (0, 0)) (by (with_reducible repeat (first | refine blk_drewN ?_ _ | refine blk_drew ?_ | refine blk_alloc ?_ _)); exact BK143.out)) : gb144 ≠ gb143)); clear BK143; clear HB; have BK143 := n0_; have HB := n1_; have BK144 := n2_; have GW144 := n3_; have GE144 := n4_; have NB143_144 := n5_; have NB144_143 := n6_; clear n0_ n1_ n2_ n3_ n4_ n5_ n6_; clear hb hbox hg)))
  (try simp only [Act.put, List.setIfInBounds_toArray, List.set_cons_zero, List.set_cons_succ])
  go_cut [19] (fun v19 wc => ∃ (kq : Nat) (x19_2 : Bool), v19 = .bool x19_2 ∧ Aside0 (cylinderref34_SameInt.j0 kq x19_2 a0_0 l0_1 a1_0 l1_1 = some r) ∧ Aside0 (kq ≤ k) ∧ Aside0 (wc.heap[gb143]? = some (.cells #[.bool a0_0, (.slice A0_1 l0_1.length c0_1)] 25 (0, 0))) ∧ Aside0 (wc.heap[gb144]? = some (.cells #[.bool a1_0, (.slice A1_1 l1_1.length c1_1)] 25 (0, 0))) ∧ Aside0 (Below w.heap.size w wc))
  case first =>
    have H := HC3.out
    clear HC3
    by_cases c6 : (a0_0 != a1_0) = true
    · rw [if_pos c6] at H
      have c6b0 : (a0_0 != a1_0) = true := c6
      (try (have c6b1 : decide (a0_0 = a1_0) = false := by simpa using c6))
      (try (have c6b2 : (a0_0 == a1_0) = false := by simpa using c6))
      (try (have c6b3 : ¬ (a0_0 = a1_0) := by simpa using c6))
      clear c6
      (first | rw [c6b0] | (simp only [i64_w, i32_w]; rw [c6b0]) | skip)
      have H' := Aside0.mk H
      clear H
      have hnb7 := NB143_144.out
      have hnc7 := NB144_143.out
      have hcz8_0 : w5.cell? ⟨gb143, 0, none⟩ = some (.bool a0_0) := (blk_cell BK143.out 0).trans rfl
      have hcz8_1 : w5.cell? ⟨gb143, 1, none⟩ = some (.slice A0_1 l0_1.length c0_1) := (blk_cell BK143.out 1).trans rfl
      have hfz8_0 := blk_frozen BK143.out 0
      have hfz8_1 := blk_frozen BK143.out 1
      have hcz9_0 : w5.cell? ⟨gb144, 0, none⟩ = some (.bool a1_0) := (blk_cell BK144.out 0).trans rfl
      have hcz9_1 : w5.cell? ⟨gb144, 1, none⟩ = some (.slice A1_1 l1_1.length c1_1) := (blk_cell BK144.out 1).trans rfl
      have hfz9_0 := blk_frozen BK144.out 0
      have hfz9_1 := blk_frozen BK144.out 1
      go_wp2
      repeat (go_quiet (fail); try go_wp2)
      go_meet
      case rel => exact ⟨_, (true), (by first | rfl | (simp; done) | (simp [*]; done)), H', ⟨by first | omega | exact Nat.le_refl _⟩, ⟨by (with_reducible repeat (first | refine blk_drewN ?_ _ | refine blk_drew ?_ | refine blk_alloc ?_ _)); exact BK143.out⟩, ⟨by (with_reducible repeat (first | refine blk_drewN ?_ _ | refine blk_drew ?_ | refine blk_alloc ?_ _)); exact BK144.out⟩, ⟨by repeat (first | (with_reducible first | exact HB.out | apply below_alloc | apply pw_below_drewN | apply below_drew1 | refine below_set ?_ GE143.out | refine below_set ?_ GE144.out) | exact HB.out)⟩⟩
    · rw [if_neg c6] at H
      have c6b0 : (a0_0 != a1_0) = false := by simpa using c6
      (try (have c6b1 : decide (a0_0 = a1_0) = true := by simpa using c6))
      (try (have c6b2 : (a0_0 == a1_0) = true := by simpa using c6))
      clear c6
      (first | rw [c6b0] | (simp only [i64_w, i32_w]; rw [c6b0]) | skip)
      have H' := Aside0.mk H
      clear H
      have hnb10 := NB143_144.out
      have hnc10 := NB144_143.out
      have hcz11_0 : w5.cell? ⟨gb143, 0, none⟩ = some (.bool a0_0) := (blk_cell BK143.out 0).trans rfl
      have hcz11_1 : w5.cell? ⟨gb143, 1, none⟩ = some (.slice A0_1 l0_1.length c0_1) := (blk_cell BK143.out 1).trans rfl
      have hfz11_0 := blk_frozen BK143.out 0
      have hfz11_1 := blk_frozen BK143.out 1
      have hcz12_0 : w5.cell? ⟨gb144, 0, none⟩ = some (.bool a1_0) := (blk_cell BK144.out 0).trans rfl
      have hcz12_1 : w5.cell? ⟨gb144, 1, none⟩ = some (.slice A1_1 l1_1.length c1_1) := (blk_cell BK144.out 1).trans rfl
      have hfz12_0 := blk_frozen BK144.out 0
      have hfz12_1 := blk_frozen BK144.out 1
      go_wp2
      repeat (go_quiet (fail); try go_wp2)
      go_meet
      case rel => exact ⟨_, (((l0_1.length : Int) != (l1_1.length : Int))), (by first | rfl | (simp; done) | (simp [*]; done)), H', ⟨by first | omega | exact Nat.le_refl _⟩, ⟨by (with_reducible repeat (first | refine blk_drewN ?_ _ | refine blk_drew ?_ | refine blk_alloc ?_ _)); exact BK143.out⟩, ⟨by (with_reducible repeat (first | refine blk_drewN ?_ _ | refine blk_drew ?_ | refine blk_alloc ?_ _)); exact BK144.out⟩, ⟨by repeat (first | (with_reducible first | exact HB.out | apply below_alloc | apply pw_below_drewN | apply below_drew1 | refine below_set ?_ GE143.out | refine below_set ?_ GE144.out) | exact HB.out)⟩⟩
  case rest =>
    clear HC3
    try clear c1
    try clear p2
    try clear c5
    try clear c6
    try clear c6b0
    try clear c6b1
    try clear c6b2
    try clear c7
    try clear c10
    try clear hcz11_0
    try clear hcz11_1
    try clear hcz12_0
    try clear hcz12_1
    try clear hcz8_0
    try clear hcz8_1
    try clear hcz9_0
    try clear hcz9_1
    try clear hfz11_0
    try clear hfz11_1
    try clear hfz12_0
    try clear hfz12_1
    try clear hfz8_0
    try clear hfz8_1
    try clear hfz9_0
    try clear hfz9_1
    obtain ⟨kq, x19_2, rfl, HA, HJ2, BK143, BK144, HB⟩ := hcut
    cases kq with
    | zero => exact absurd HA.out (by simp [cylinderref34_SameInt.j0])
    | succ kj2 =>
      have H := HA.out
      clear HA
      simp only [cylinderref34_SameInt.j0] at H
      by_cases c13 : x19_2 = true
      · subst c13
        have H1 : (some false) = some r := by rw [if_pos rfl] at H; exact H
        clear H
        have H := H1
        clear H1
        obtain rfl := Option.some.inj H
        go_wp2
        repeat (go_quiet (fail); try go_wp2)
        go_ret
        exact ⟨by first | rfl | (simp [errW_none, errW_some] <;> rfl) | (simp [*, errW_none, errW_some] <;> rfl), by repeat (first | (with_reducible first | exact HB.out | apply below_alloc | apply pw_below_drewN | apply below_drew1 | refine below_set ?_ GE143.out | refine below_set ?_ GE144.out) | exact HB.out)⟩
      · replace c13 := Bool.eq_false_iff.mpr c13
        subst c13
        have H1 : (cylinderref34_SameInt.l0 kj2 (l0_1.length : Int) 0 a0_0 l0_1 a1_0 l1_1) = some r := by rw [if_neg (show ¬ (false = true) by decide)] at H; exact H
        clear H
        have H := H1
        clear H1
        have H' := Aside0.mk H
        clear H
        have hnb14 := NB143_144.out
        have hnc14 := NB144_143.out
        have hcz15_0 : wc.cell? ⟨gb143, 0, none⟩ = some (.bool a0_0) := (blk_cell BK143.out 0).trans rfl
        have hcz15_1 : wc.cell? ⟨gb143, 1, none⟩ = some (.slice A0_1 l0_1.length c0_1) := (blk_cell BK143.out 1).trans rfl
        have hfz15_0 := blk_frozen BK143.out 0
        have hfz15_1 := blk_frozen BK143.out 1
        go_wp2
        repeat (go_quiet (fail); try go_wp2)
        go_loopg [23] kj2 (fun kq v23 w' => ∃ (x23_2 : Int), v23 = .int .i64 x23_2 ∧ Aside0 (cylinderref34_SameInt.l0 kq (l0_1.length : Int) x23_2 a0_0 l0_1 a1_0 l1_1 = some r) ∧ Aside0 (kq ≤ kj2) ∧ Aside0 (w'.heap[gb143]? = some (.cells #[.bool a0_0, (.slice A0_1 l0_1.length c0_1)] 25 (0, 0))) ∧ Aside0 (w'.heap[gb144]? = some (.cells #[.bool a1_0, (.slice A1_1 l1_1.length c1_1)] 25 (0, 0))) ∧ Aside0 (Below w.heap.size w w'))
        case atStart => exact ⟨(0), (by first | rfl | (simp; done) | (simp [*]; done)), H', ⟨Nat.le_refl _⟩, ⟨by (with_reducible repeat (first | refine blk_drewN ?_ _ | refine blk_drew ?_ | refine blk_alloc ?_ _)); exact BK143.out⟩, ⟨by (with_reducible repeat (first | refine blk_drewN ?_ _ | refine blk_drew ?_ | refine blk_alloc ?_ _)); exact BK144.out⟩, ⟨by repeat (first | (with_reducible first | exact HB.out | apply below_alloc | apply pw_below_drewN | apply below_drew1 | refine below_set ?_ GE143.out | refine below_set ?_ GE144.out) | exact HB.out)⟩⟩
        case round =>
          clear H'
          try clear c1
          try clear p2
          try clear c5
          try clear c6
          try clear c6b0
          try clear c6b1
          try clear c6b2
          try clear c7
          try clear c10
          try clear c13
          try clear c14
          try clear hcz11_0
          try clear hcz11_1
          try clear hcz12_0
          try clear hcz12_1
          try clear hcz15_0
          try clear hcz15_1
          try clear hcz8_0
          try clear hcz8_1
          try clear hcz9_0
          try clear hcz9_1
          try clear hfz11_0
          try clear hfz11_1
          try clear hfz12_0
          try clear hfz12_1
          try clear hfz15_0
          try clear hfz15_1
          try clear hfz8_0
          try clear hfz8_1
          try clear hfz9_0
          try clear hfz9_1
          try clear p2
          obtain ⟨x23_2, rfl, HA, HK2, BK143, BK144, HB⟩ := hrel
          cases gk with
          | zero => exact absurd HA.out (by simp [cylinderref34_SameInt.l0])
          | succ k2 =>
            have H := HA.out
            clear HA
            simp only [cylinderref34_SameInt.l0] at H
            by_cases c16 : x23_2 < (l0_1.length : Int)
            · rw [if_pos c16] at H
              have c16b0 : decide (x23_2 < (l0_1.length : Int)) = true := decide_eq_true c16
              clear c16
              by_cases c17 : 0 ≤ x23_2
              · rw [if_pos c17] at H
                have c17b0 : decide (0 ≤ x23_2) = true := decide_eq_true c17
                clear c17
                by_cases c18 : x23_2 < (l0_1.length : Int)
                · rw [if_pos c18] at H
                  have c18b0 : decide (x23_2 < (l0_1.length : Int)) = true := decide_eq_true c18
                  clear c18
                  by_cases c19 : x23_2 < (l1_1.length : Int)
                  · rw [if_pos c19] at H
                    have c19b0 : decide (x23_2 < (l1_1.length : Int)) = true := decide_eq_true c19
                    clear c19
                    by_cases c20 : (rd l0_1 x23_2) = (rd l1_1 x23_2)
                    · rw [if_pos c20] at H
                      have c20b0 : ((rd l0_1 x23_2) == (rd l1_1 x23_2)) = true := beq_iff_eq.mpr c20
                      have c20b1 : ((rd l0_1 x23_2) != (rd l1_1 x23_2)) = false := bne_eq_false_iff_eq.mpr c20
                      clear c20
                      have H' := Aside0.mk H
                      clear H
                      have hnb21 := NB143_144.out
                      have hnc21 := NB144_143.out
                      have hcz22_0 : wr.cell? ⟨gb143, 0, none⟩ = some (.bool a0_0) := (blk_cell BK143.out 0).trans rfl
                      have hcz22_1 : wr.cell? ⟨gb143, 1, none⟩ = some (.slice A0_1 l0_1.length c0_1) := (blk_cell BK143.out 1).trans rfl
                      have hfz22_0 := blk_frozen BK143.out 0
                      have hfz22_1 := blk_frozen BK143.out 1
                      have p145 : 0 ≤ (x23_2 : Int) := of_decide_eq_true (by first | (with_reducible assumption) | assumption)
                      have q145 : x23_2 < (l0_1.length : Int) := of_decide_eq_true (by first | (with_reducible assumption) | assumption)
                      obtain ⟨ad145, e145, hx145_0⟩ := Kd.at_int HR0_1.out x23_2 p145 q145
                      cases e145
                      replace hx145_0 := (HB.out.cell (World.block_lt_of_cell? w _ hx145_0)).trans hx145_0
                      replace p145 := eq_true p145
                      replace q145 := eq_true q145
                      have hcz23_0 : wr.cell? ⟨gb144, 0, none⟩ = some (.bool a1_0) := (blk_cell BK144.out 0).trans rfl
                      have hcz23_1 : wr.cell? ⟨gb144, 1, none⟩ = some (.slice A1_1 l1_1.length c1_1) := (blk_cell BK144.out 1).trans rfl
                      have hfz23_0 := blk_frozen BK144.out 0
                      have hfz23_1 := blk_frozen BK144.out 1
                      have p146 : 0 ≤ (x23_2 : Int) := of_decide_eq_true (by first | (with_reducible assumption) | assumption)
                      have q146 : x23_2 < (l1_1.length : Int) := of_decide_eq_true (by first | (with_reducible assumption) | assumption)
                      obtain ⟨ad146, e146, hx146_0⟩ := Kd.at_int HR1_1.out x23_2 p146 q146
                      cases e146
                      replace hx146_0 := (HB.out.cell (World.block_lt_of_cell? w _ hx146_0)).trans hx146_0
                      replace p146 := eq_true p146
                      replace q146 := eq_true q146
                      go_wp2
                      repeat (go_quiet (fail); try go_wp2)
                      go_roundg k2
                      case measure => have := HJ2.out; have := HK2.out; omega
                      case rel => exact ⟨(wrap64 (x23_2 + 1)), (by first | rfl | (simp; done) | (simp [*]; done)), H', ⟨by have := HJ2.out; have := HK2.out; omega⟩, ⟨by (with_reducible repeat (first | refine blk_drewN ?_ _ | refine blk_drew ?_ | refine blk_alloc ?_ _)); exact BK143.out⟩, ⟨by (with_reducible repeat (first | refine blk_drewN ?_ _ | refine blk_drew ?_ | refine blk_alloc ?_ _)); exact BK144.out⟩, ⟨by repeat (first | (with_reducible first | exact HB.out | apply below_alloc | apply pw_below_drewN | apply below_drew1 | refine below_set ?_ GE143.out | refine below_set ?_ GE144.out) | exact HB.out)⟩⟩
                    · rw [if_neg c20] at H
                      have c20b0 : ((rd l0_1 x23_2) == (rd l1_1 x23_2)) = false := beq_eq_false_iff_ne.mpr c20
                      have c20b1 : ((rd l0_1 x23_2) != (rd l1_1 x23_2)) = true := bne_iff_ne.mpr c20
                      obtain rfl := Option.some.inj H
                      have hnb24 := NB143_144.out
                      have hnc24 := NB144_143.out
                      have hcz25_0 : wr.cell? ⟨gb143, 0, none⟩ = some (.bool a0_0) := (blk_cell BK143.out 0).trans rfl
                      have hcz25_1 : wr.cell? ⟨gb143, 1, none⟩ = some (.slice A0_1 l0_1.length c0_1) := (blk_cell BK143.out 1).trans rfl
                      have hfz25_0 := blk_frozen BK143.out 0
                      have hfz25_1 := blk_frozen BK143.out 1
                      have p145 : 0 ≤ (x23_2 : Int) := of_decide_eq_true (by first | (with_reducible assumption) | assumption)
                      have q145 : x23_2 < (l0_1.length : Int) := of_decide_eq_true (by first | (with_reducible assumption) | assumption)
                      obtain ⟨ad145, e145, hx145_0⟩ := Kd.at_int HR0_1.out x23_2 p145 q145
                      cases e145
                      replace hx145_0 := (HB.out.cell (World.block_lt_of_cell? w _ hx145_0)).trans hx145_0
                      replace p145 := eq_true p145
                      replace q145 := eq_true q145
                      have hcz26_0 : wr.cell? ⟨gb144, 0, none⟩ = some (.bool a1_0) := (blk_cell BK144.out 0).trans rfl
                      have hcz26_1 : wr.cell? ⟨gb144, 1, none⟩ = some (.slice A1_1 l1_1.length c1_1) := (blk_cell BK144.out 1).trans rfl
                      have hfz26_0 := blk_frozen BK144.out 0
                      have hfz26_1 := blk_frozen BK144.out 1
                      have p146 : 0 ≤ (x23_2 : Int) := of_decide_eq_true (by first | (with_reducible assumption) | assumption)
                      have q146 : x23_2 < (l1_1.length : Int) := of_decide_eq_true (by first | (with_reducible assumption) | assumption)
                      obtain ⟨ad146, e146, hx146_0⟩ := Kd.at_int HR1_1.out x23_2 p146 q146
                      cases e146
                      replace hx146_0 := (HB.out.cell (World.block_lt_of_cell? w _ hx146_0)).trans hx146_0
                      replace p146 := eq_true p146
                      replace q146 := eq_true q146
                      go_wp2
                      repeat (go_quiet (fail); try go_wp2)
                      go_ret
                      exact ⟨by first | rfl | (simp [errW_none, errW_some] <;> rfl) | (simp [*, errW_none, errW_some] <;> rfl), by repeat (first | (with_reducible first | exact HB.out | apply below_alloc | apply pw_below_drewN | apply below_drew1 | refine below_set ?_ GE143.out | refine below_set ?_ GE144.out) | exact HB.out)⟩
                  · rw [if_neg c19] at H
                    exact absurd H (by simp)
                · rw [if_neg c18] at H
                  exact absurd H (by simp)
              · rw [if_neg c17] at H
                exact absurd H (by simp)
            · rw [if_neg c16] at H
              have c16b0 : decide (x23_2 < (l0_1.length : Int)) = false := decide_eq_false c16
              clear c16
              obtain rfl := Option.some.inj H
              go_wp2
              repeat (go_quiet (fail); try go_wp2)
              go_ret
              exact ⟨by first | rfl | (simp [errW_none, errW_some] <;> rfl) | (simp [*, errW_none, errW_some] <;> rfl), by repeat (first | (with_reducible first | exact HB.out | apply below_alloc | apply pw_below_drewN | apply below_drew1 | refine below_set ?_ GE143.out | refine below_set ?_ GE144.out) | exact HB.out)⟩

/-! ### cylinderref34_Same: function 20 -/
mutual
def cylinderref34_Same.j0 : Nat → Bool → Int → Bool → List Int → ByteArray → Int → Int → Bool → Bool → List (S29) → Int → Bool → List Int → ByteArray → Int → Int → Bool → Bool → List (S29) → Option (Bool)
  | 0, _, _, _, _, _, _, _, _, _, _, _, _, _, _, _, _, _, _, _ => none
  | k + 1, x62, x148000, x148001, x148002, x148003, x148004, x148005, x148006, x148007, x148008, x149000, x149001, x149002, x149003, x149004, x149005, x149006, x149007, x149008 => if x62 = true then (some false) else (cylinderref34_Same.l0 k (x148008.length : Int) 0 x148000 x148001 x148002 x148003 x148004 x148005 x148006 x148007 x148008 x149000 x149001 x149002 x149003 x149004 x149005 x149006 x149007 x149008)
def cylinderref34_Same.l0 : Nat → Int → Int → Int → Bool → List Int → ByteArray → Int → Int → Bool → Bool → List (S29) → Int → Bool → List Int → ByteArray → Int → Int → Bool → Bool → List (S29) → Option (Bool)
  | 0, _, _, _, _, _, _, _, _, _, _, _, _, _, _, _, _, _, _, _, _ => none
  | k + 1, x65, x66, x148000, x148001, x148002, x148003, x148004, x148005, x148006, x148007, x148008, x149000, x149001, x149002, x149003, x149004, x149005, x149006, x149007, x149008 => if x66 < x65 then (if 0 ≤ x66 then (if x66 < (x148008.length : Int) then (if x66 < (x149008.length : Int) then ((cylinderref34_Same.f k ((rd_T29 x148008 x66).f0) ((rd_T29 x148008 x66).f1.f0) ((rd_T29 x148008 x66).f1.f1) ((rd_T29 x148008 x66).f2) ((rd_T29 x148008 x66).f3) ((rd_T29 x148008 x66).f4) ((rd_T29 x148008 x66).f5) ((rd_T29 x148008 x66).f6) ((rd_T29 x148008 x66).f7) ((rd_T29 x149008 x66).f0) ((rd_T29 x149008 x66).f1.f0) ((rd_T29 x149008 x66).f1.f1) ((rd_T29 x149008 x66).f2) ((rd_T29 x149008 x66).f3) ((rd_T29 x149008 x66).f4) ((rd_T29 x149008 x66).f5) ((rd_T29 x149008 x66).f6) ((rd_T29 x149008 x66).f7)).bind fun t152 => (if t152 = true then (cylinderref34_Same.l0 k x65 (wrap64 (x66 + 1)) x148000 x148001 x148002 x148003 x148004 x148005 x148006 x148007 x148008 x149000 x149001 x149002 x149003 x149004 x149005 x149006 x149007 x149008) else (some false))) else (none)) else (none)) else (none)) else (some true)
def cylinderref34_Same.f : Nat → Int → Bool → List Int → ByteArray → Int → Int → Bool → Bool → List (S29) → Int → Bool → List Int → ByteArray → Int → Int → Bool → Bool → List (S29) → Option (Bool)
  | 0, _, _, _, _, _, _, _, _, _, _, _, _, _, _, _, _, _, _ => none
  | k + 1, a0_0, a0_1, l0_2, a0_3, a0_4, a0_5, a0_6, a0_7, l0_8, a1_0, a1_1, l1_2, a1_3, a1_4, a1_5, a1_6, a1_7, l1_8 => if a0_0 = a1_0 then (if a0_3.toList = a1_3.toList then (if a0_4 = a1_4 then (if a0_5 = a1_5 then (if (a0_6 != a1_6) = true then (cylinderref34_Same.j0 k true a0_0 a0_1 l0_2 a0_3 a0_4 a0_5 a0_6 a0_7 l0_8 a1_0 a1_1 l1_2 a1_3 a1_4 a1_5 a1_6 a1_7 l1_8) else (if (a0_7 != a1_7) = true then (cylinderref34_Same.j0 k true a0_0 a0_1 l0_2 a0_3 a0_4 a0_5 a0_6 a0_7 l0_8 a1_0 a1_1 l1_2 a1_3 a1_4 a1_5 a1_6 a1_7 l1_8) else ((cylinderref34_SameInt.f k a0_1 l0_2 a1_1 l1_2).bind fun t149 => (if t149 = true then (cylinderref34_Same.j0 k ((l0_8.length : Int) != (l1_8.length : Int)) a0_0 a0_1 l0_2 a0_3 a0_4 a0_5 a0_6 a0_7 l0_8 a1_0 a1_1 l1_2 a1_3 a1_4 a1_5 a1_6 a1_7 l1_8) else (cylinderref34_Same.j0 k true a0_0 a0_1 l0_2 a0_3 a0_4 a0_5 a0_6 a0_7 l0_8 a1_0 a1_1 l1_2 a1_3 a1_4 a1_5 a1_6 a1_7 l1_8))))) else (cylinderref34_Same.j0 k true a0_0 a0_1 l0_2 a0_3 a0_4 a0_5 a0_6 a0_7 l0_8 a1_0 a1_1 l1_2 a1_3 a1_4 a1_5 a1_6 a1_7 l1_8)) else (cylinderref34_Same.j0 k true a0_0 a0_1 l0_2 a0_3 a0_4 a0_5 a0_6 a0_7 l0_8 a1_0 a1_1 l1_2 a1_3 a1_4 a1_5 a1_6 a1_7 l1_8)) else (cylinderref34_Same.j0 k true a0_0 a0_1 l0_2 a0_3 a0_4 a0_5 a0_6 a0_7 l0_8 a1_0 a1_1 l1_2 a1_3 a1_4 a1_5 a1_6 a1_7 l1_8)) else (cylinderref34_Same.j0 k true a0_0 a0_1 l0_2 a0_3 a0_4 a0_5 a0_6 a0_7 l0_8 a1_0 a1_1 l1_2 a1_3 a1_4 a1_5 a1_6 a1_7 l1_8)
end
theorem cylinderref34_Same.mono_l : ∀ k, (∀ y0 y1 y2 y3 y4 y5 y6 y7 y8 y9 y10 y11 y12 y13 y14 y15 y16 y17, LeO (cylinderref34_Same.f k y0 y1 y2 y3 y4 y5 y6 y7 y8 y9 y10 y11 y12 y13 y14 y15 y16 y17) (cylinderref34_Same.f (k + 1) y0 y1 y2 y3 y4 y5 y6 y7 y8 y9 y10 y11 y12 y13 y14 y15 y16 y17)) ∧ (∀ y0 y1 y2 y3 y4 y5 y6 y7 y8 y9 y10 y11 y12 y13 y14 y15 y16 y17 y18, LeO (cylinderref34_Same.j0 k y0 y1 y2 y3 y4 y5 y6 y7 y8 y9 y10 y11 y12 y13 y14 y15 y16 y17 y18) (cylinderref34_Same.j0 (k + 1) y0 y1 y2 y3 y4 y5 y6 y7 y8 y9 y10 y11 y12 y13 y14 y15 y16 y17 y18)) ∧ (∀ y0 y1 y2 y3 y4 y5 y6 y7 y8 y9 y10 y11 y12 y13 y14 y15 y16 y17 y18 y19, LeO (cylinderref34_Same.l0 k y0 y1 y2 y3 y4 y5 y6 y7 y8 y9 y10 y11 y12 y13 y14 y15 y16 y17 y18 y19) (cylinderref34_Same.l0 (k + 1) y0 y1 y2 y3 y4 y5 y6 y7 y8 y9 y10 y11 y12 y13 y14 y15 y16 y17 y18 y19))
  | 0 => ⟨fun _ _ _ _ _ _ _ _ _ _ _ _ _ _ _ _ _ _ r h => by simp [cylinderref34_Same.f] at h, fun _ _ _ _ _ _ _ _ _ _ _ _ _ _ _ _ _ _ _ r h => by simp [cylinderref34_Same.j0] at h, fun _ _ _ _ _ _ _ _ _ _ _ _ _ _ _ _ _ _ _ _ r h => by simp [cylinderref34_Same.l0] at h⟩
  | k + 1 => by
    obtain ⟨ih0, ih1, ih2⟩ := cylinderref34_Same.mono_l k
    refine ⟨?_, ?_, ?_⟩
    · intro y0 y1 y2 y3 y4 y5 y6 y7 y8 y9 y10 y11 y12 y13 y14 y15 y16 y17
      unfold cylinderref34_Same.f
      repeat' first
      | (with_reducible exact ih0 _ _ _ _ _ _ _ _ _ _ _ _ _ _ _ _ _ _)
      | (with_reducible exact ih1 _ _ _ _ _ _ _ _ _ _ _ _ _ _ _ _ _ _ _)
      | (with_reducible exact ih2 _ _ _ _ _ _ _ _ _ _ _ _ _ _ _ _ _ _ _ _)
      | (with_reducible exact cylinderref34_SameInt.mono _ _ _ _ _)
      | (with_reducible exact LeO.refl _)
      | (with_reducible exact LeO.none _)
      | (with_reducible refine LeO.ite ?_ ?_)
      | (with_reducible refine LeO.bind ?_ (fun _ => ?_))
      | exact ih0 _ _ _ _ _ _ _ _ _ _ _ _ _ _ _ _ _ _
      | exact ih1 _ _ _ _ _ _ _ _ _ _ _ _ _ _ _ _ _ _ _
      | exact ih2 _ _ _ _ _ _ _ _ _ _ _ _ _ _ _ _ _ _ _ _
      | exact cylinderref34_SameInt.mono _ _ _ _ _
      | exact LeO.none _
      | refine LeO.ite ?_ ?_
      | refine LeO.bind ?_ (fun _ => ?_)
    · intro y0 y1 y2 y3 y4 y5 y6 y7 y8 y9 y10 y11 y12 y13 y14 y15 y16 y17 y18
      unfold cylinderref34_Same.j0
      repeat' first
      | (with_reducible exact ih0 _ _ _ _ _ _ _ _ _ _ _ _ _ _ _ _ _ _)
      | (with_reducible exact ih1 _ _ _ _ _ _ _ _ _ _ _ _ _ _ _ _ _ _ _)
      | (with_reducible exact ih2 _ _ _ _ _ _ _ _ _ _ _ _ _ _ _ _ _ _ _ _)
      | (with_reducible exact cylinderref34_SameInt.mono _ _ _ _ _)
      | (with_reducible exact LeO.refl _)
      | (with_reducible exact LeO.none _)
      | (with_reducible refine LeO.ite ?_ ?_)
      | (with_reducible refine LeO.bind ?_ (fun _ => ?_))
      | exact ih0 _ _ _ _ _ _ _ _ _ _ _ _ _ _ _ _ _ _
      | exact ih1 _ _ _ _ _ _ _ _ _ _ _ _ _ _ _ _ _ _ _
      | exact ih2 _ _ _ _ _ _ _ _ _ _ _ _ _ _ _ _ _ _ _ _
      | exact cylinderref34_SameInt.mono _ _ _ _ _
      | exact LeO.none _
      | refine LeO.ite ?_ ?_
      | refine LeO.bind ?_ (fun _ => ?_)
    · intro y0 y1 y2 y3 y4 y5 y6 y7 y8 y9 y10 y11 y12 y13 y14 y15 y16 y17 y18 y19
      unfold cylinderref34_Same.l0
      repeat' first
      | (with_reducible exact ih0 _ _ _ _ _ _ _ _ _ _ _ _ _ _ _ _ _ _)
      | (with_reducible exact ih1 _ _ _ _ _ _ _ _ _ _ _ _ _ _ _ _ _ _ _)
      | (with_reducible exact ih2 _ _ _ _ _ _ _ _ _ _ _ _ _ _ _ _ _ _ _ _)
      | (with_reducible exact cylinderref34_SameInt.mono _ _ _ _ _)
      | (with_reducible exact LeO.refl _)
      | (with_reducible exact LeO.none _)
      | (with_reducible refine LeO.ite ?_ ?_)
      | (with_reducible refine LeO.bind ?_ (fun _ => ?_))
      | exact ih0 _ _ _ _ _ _ _ _ _ _ _ _ _ _ _ _ _ _
      | exact ih1 _ _ _ _ _ _ _ _ _ _ _ _ _ _ _ _ _ _ _
      | exact ih2 _ _ _ _ _ _ _ _ _ _ _ _ _ _ _ _ _ _ _ _
      | exact cylinderref34_SameInt.mono _ _ _ _ _
      | exact LeO.none _
      | refine LeO.ite ?_ ?_
      | refine LeO.bind ?_ (fun _ => ?_)
theorem cylinderref34_Same.mono : ∀ a0 a1 a2 a3 a4 a5 a6 a7 a8 a9 a10 a11 a12 a13 a14 a15 a16 a17 k, LeO (cylinderref34_Same.f k a0 a1 a2 a3 a4 a5 a6 a7 a8 a9 a10 a11 a12 a13 a14 a15 a16 a17) (cylinderref34_Same.f (k + 1) a0 a1 a2 a3 a4 a5 a6 a7 a8 a9 a10 a11 a12 a13 a14 a15 a16 a17) := by
  intro a0 a1 a2 a3 a4 a5 a6 a7 a8 a9 a10 a11 a12 a13 a14 a15 a16 a17 k
  obtain ⟨ih0, ih1, ih2⟩ := cylinderref34_Same.mono_l k
  exact ih0 a0 a1 a2 a3 a4 a5 a6 a7 a8 a9 a10 a11 a12 a13 a14 a15 a16 a17
def cylinderref34_Same.T6 : Bool × List (List Nat × List Nat) := (true, [([], []), ([0], [0]), ([], []), ([1, 2], [1, 2]), ([3], [3]), ([], []), ([5], [5]), ([], []), ([6, 7], [6, 7]), ([8], [8]), ([4, 9], [4, 9]), ([10], [10])])
def cylinderref34_Same.B6 : List Nat := [0, 1, 0, 7, 15, 0, 32, 0, 224, 480, 1023, 2047]
theorem cylinderref34_Same.tab6 : rtab .any (opsOf Try.f20 6) = cylinderref34_Same.T6 := by kernel_rfl
theorem cylinderref34_Same.bits6 : waitsOk cylinderref34_Same.T6.2 cylinderref34_Same.B6 = true := by kernel_rfl
set_option maxHeartbeats 8000000 in
set_option maxRecDepth 100000 in
theorem cylinderref34_Same.calls (k : Nat) : ∀ (a0_0 : Int) (a0_1 : Bool) (A0_2 : Option Addr) (c0_2 : Nat) (l0_2 : List Int) (a0_3 : ByteArray) (a0_4 : Int) (a0_5 : Int) (a0_6 : Bool) (a0_7 : Bool) (A0_8 : Option Addr) (c0_8 : Nat) (l0_8 : List (S29)) (a1_0 : Int) (a1_1 : Bool) (A1_2 : Option Addr) (c1_2 : Nat) (l1_2 : List Int) (a1_3 : ByteArray) (a1_4 : Int) (a1_5 : Int) (a1_6 : Bool) (a1_7 : Bool) (A1_8 : Option Addr) (c1_8 : Nat) (l1_8 : List (S29)) (r : Bool) (w : World) (hr0_2 : Kd.C (Kd.int .u32) w A0_2 l0_2.length l0_2) (hc0_2 : l0_2.length ≤ c0_2) (hr0_8 : Kd.C k29 w A0_8 l0_8.length l0_8) (hc0_8 : l0_8.length ≤ c0_8) (hr1_2 : Kd.C (Kd.int .u32) w A1_2 l1_2.length l1_2) (hc1_2 : l1_2.length ≤ c1_2) (hr1_8 : Kd.C k29 w A1_8 l1_8.length l1_8) (hc1_8 : l1_8.length ≤ c1_8) (h : cylinderref34_Same.f k a0_0 a0_1 l0_2 a0_3 a0_4 a0_5 a0_6 a0_7 l0_8 a1_0 a1_1 l1_2 a1_3 a1_4 a1_5 a1_6 a1_7 l1_8 = some r),
    Calls Try.prog 20 #[.agg #[.int .i64 a0_0, .bool a0_1, .slice A0_2 l0_2.length c0_2, .string a0_3, .int .i64 a0_4, .int .i64 a0_5, .bool a0_6, .bool a0_7, .slice A0_8 l0_8.length c0_8], .agg #[.int .i64 a1_0, .bool a1_1, .slice A1_2 l1_2.length c1_2, .string a1_3, .int .i64 a1_4, .int .i64 a1_5, .bool a1_6, .bool a1_7, .slice A1_8 l1_8.length c1_8]] w fun e w' => e = .returned (.bool r) ∧ Below w.heap.size w w' := by
  induction k using Nat.strongRecOn with
  | _ k ih =>
  intro a0_0 a0_1 A0_2 c0_2 l0_2 a0_3 a0_4 a0_5 a0_6 a0_7 A0_8 c0_8 l0_8 a1_0 a1_1 A1_2 c1_2 l1_2 a1_3 a1_4 a1_5 a1_6 a1_7 A1_8 c1_8 l1_8 r w hr0_2 hc0_2 hr0_8 hc0_8 hr1_2 hc1_2 hr1_8 hc1_8 h
  cases k with
  | zero => exact absurd h (by simp [cylinderref34_Same.f])
  | succ k =>
  simp only [cylinderref34_Same.f] at h
  have hu29 := Try.underlying29
  have hu25 := Try.underlying25
  have HR0_2 := Aside0.mk hr0_2
  have HC0_2 := Aside0.mk hc0_2
  clear hr0_2 hc0_2
  have HR0_8 := Aside0.mk hr0_8
  have HC0_8 := Aside0.mk hc0_8
  clear hr0_8 hc0_8
  have HR1_2 := Aside0.mk hr1_2
  have HC1_2 := Aside0.mk hc1_2
  clear hr1_2 hc1_2
  have HR1_8 := Aside0.mk hr1_8
  have HC1_8 := Aside0.mk hc1_8
  clear hr1_8 hc1_8
  have HB := Aside0.mk (Below.refl w.heap.size w)
  have H : (if a0_0 = a1_0 then (if a0_3.toList = a1_3.toList then (if a0_4 = a1_4 then (if a0_5 = a1_5 then (if (a0_6 != a1_6) = true then (cylinderref34_Same.j0 k true a0_0 a0_1 l0_2 a0_3 a0_4 a0_5 a0_6 a0_7 l0_8 a1_0 a1_1 l1_2 a1_3 a1_4 a1_5 a1_6 a1_7 l1_8) else (if (a0_7 != a1_7) = true then (cylinderref34_Same.j0 k true a0_0 a0_1 l0_2 a0_3 a0_4 a0_5 a0_6 a0_7 l0_8 a1_0 a1_1 l1_2 a1_3 a1_4 a1_5 a1_6 a1_7 l1_8) else ((cylinderref34_SameInt.f k a0_1 l0_2 a1_1 l1_2).bind fun t149 => (if t149 = true then (cylinderref34_Same.j0 k ((l0_8.length : Int) != (l1_8.length : Int)) a0_0 a0_1 l0_2 a0_3 a0_4 a0_5 a0_6 a0_7 l0_8 a1_0 a1_1 l1_2 a1_3 a1_4 a1_5 a1_6 a1_7 l1_8) else (cylinderref34_Same.j0 k true a0_0 a0_1 l0_2 a0_3 a0_4 a0_5 a0_6 a0_7 l0_8 a1_0 a1_1 l1_2 a1_3 a1_4 a1_5 a1_6 a1_7 l1_8))))) else (cylinderref34_Same.j0 k true a0_0 a0_1 l0_2 a0_3 a0_4 a0_5 a0_6 a0_7 l0_8 a1_0 a1_1 l1_2 a1_3 a1_4 a1_5 a1_6 a1_7 l1_8)) else (cylinderref34_Same.j0 k true a0_0 a0_1 l0_2 a0_3 a0_4 a0_5 a0_6 a0_7 l0_8 a1_0 a1_1 l1_2 a1_3 a1_4 a1_5 a1_6 a1_7 l1_8)) else (cylinderref34_Same.j0 k true a0_0 a0_1 l0_2 a0_3 a0_4 a0_5 a0_6 a0_7 l0_8 a1_0 a1_1 l1_2 a1_3 a1_4 a1_5 a1_6 a1_7 l1_8)) else (cylinderref34_Same.j0 k true a0_0 a0_1 l0_2 a0_3 a0_4 a0_5 a0_6 a0_7 l0_8 a1_0 a1_1 l1_2 a1_3 a1_4 a1_5 a1_6 a1_7 l1_8)) = some r := h
  clear h
  have HC3 := Aside0.mk H
  clear H
  go_enter Try.func20, Try.ntmps20
  go_upto_region 1 with (first | ((with_reducible refine gate_dst (N := 2) rfl ?_); (try (refine gate_guard (by rfl) ?_; dsimp only)); refine box_event ?hg (N := 2) ?hd (cs := #[.int .i64 a0_0, .bool a0_1, .slice A0_2 l0_2.length c0_2, .string a0_3, .int .i64 a0_4, .int .i64 a0_5, .bool a0_6, .bool a0_7, .slice A0_8 l0_8.length c0_8]) (t := 29) ?hr ?_; (case hd => rfl); (case hg => rfl); (case hr => first | (go_simp; done) | (go_simp; rfl)); intro gb147 hg w4 hbox hb; have n0_ := Aside0.mk (below_step (by repeat (first | (with_reducible first | exact HB.out | apply below_alloc | apply pw_below_drewN | apply below_drew1) | exact HB.out)) hb); have n1_ := Aside0.mk (hbox); have n2_ := Aside0.mk ((by rw [hg]; exact (below_size (by repeat (first | (with_reducible first | exact HB.out | apply below_alloc | apply pw_below_drewN | apply below_drew1) | exact HB.out))) : w.heap.size ≤ gb147)); have n3_ := Aside0.mk ((by rw [hg]; exact (below_size (by repeat (first | (with_reducible first | exact HB.out | apply below_alloc | apply pw_below_drewN | apply below_drew1) | exact HB.out))) : w.heap.size ≤ gb147)); clear HB; have HB := n0_; have BK147 := n1_; have GW147 := n2_; have GE147 := n3_; clear n0_ n1_ n2_ n3_; clear hb hbox hg) | ((with_reducible refine gate_dst (N := 3) rfl ?_); (try (refine gate_guard (by rfl) ?_; dsimp only)); refine box_event ?hg (N := 3) ?hd (cs := #[.int .i64 a1_0, .bool a1_1, .slice A1_2 l1_2.length c1_2, .string a1_3, .int .i64 a1_4, .int .i64 a1_5, .bool a1_6, .bool a1_7, .slice A1_8 l1_8.length c1_8]) (t := 29) ?hr ?_; (case hd => rfl); (case hg => rfl); (case hr => first | (go_simp; done) | (go_simp; rfl)); intro gb148 hg w5 hbox hb; have n0_ := Aside0.mk (blk_below (g := gb147) (o := .cells #[.int .i64 a0_0, .bool a0_1, .slice A0_2 l0_2.length c0_2, .string a0_3, .int .i64 a0_4, .int .i64 a0_5, .bool a0_6, .bool a0_7, .slice A0_8 l0_8.length c0_8] 29 (0, 0)) (by (with_reducible repeat (first | refine blk_drewN ?_ _ | refine blk_drew ?_ | refine blk_alloc ?_ _)); exact BK147.out) hb); have n1_ := Aside0.mk (below_step (by repeat (first | (with_reducible first | exact HB.out | apply below_alloc | apply pw_below_drewN | apply below_drew1 | refine below_set ?_ GE147.out) | exact HB.out)) hb); have n2_ := Aside0.mk (hbox); have n3_ := Aside0.mk ((by rw [hg]; exact (below_size (by repeat (first | (with_reducible first | exact HB.out | apply below_alloc | apply pw_below_drewN | apply below_drew1 | refine below_set ?_ GE147.out) | exact HB.out))) : w.heap.size ≤ gb148)); have n4_ := Aside0.mk ((by rw [hg]; exact (below_size (by repeat (first | (with_reducible first | exact HB.out | apply below_alloc | apply pw_below_drewN | apply below_drew1 | refine below_set ?_ GE147.out) | exact HB.out))) : w.heap.size ≤ gb148)); have n5_ := Aside0.mk ((by rw [hg]; exact Nat.ne_of_lt (blk_lt (g := gb147) (o := .cells #[.int .i64 a0_0, .bool a0_1, .slice A0_2 l0_2.length c0_2, .string a0_3, .int .i64 a0_4, .int .i64 a0_5, .bool a0_6, .bool a0_7, .slice A0_8 l0_8.length c0_8] 29 (0, 0)) (by (with_reducible repeat (first | refine blk_drewN ?_ _ | refine blk_drew ?_ | refine blk_alloc ?_ _)); exact BK147.out)) : gb147 ≠ gb148)); have n6_ := Aside0.mk ((by rw [hg]; exact Nat.ne_of_gt (blk_lt (g := gb147) (o := .cells #[.int .i64 a0_0, .bool a0_1, .slice A0_2 l0_2.length c0_2, .string a0_3, .int .i64 a0_4, .int .i64 a0_5, .bool a0_6, .bool a0_7, .slice A0_8 l0_8.length c0_8] 29 (0, 0)) (by (with_reducible repeat (first | refine blk_drewN ?_ _ | refine blk_drew ?_ | refine blk_alloc ?_ _)); exact BK147.out)) : gb148 ≠ gb147)); clear BK147; clear HB; have BK147 := n0_; have HB := n1_; have BK148 := n2_; have GW148 := n3_; have GE148 := n4_; have NB147_148 := n5_; have NB148_147 := n6_; clear n0_ n1_ n2_ n3_ n4_ n5_ n6_; clear hb hbox hg))
  (try simp only [Act.put, List.setIfInBounds_toArray, List.set_cons_zero, List.set_cons_succ])
  go_cut [62] (fun v62 wc => ∃ (kq : Nat) (x62_2 : Bool), v62 = .bool x62_2 ∧ Aside0 (cylinderref34_Same.j0 kq x62_2 a0_0 a0_1 l0_2 a0_3 a0_4 a0_5 a0_6 a0_7 l0_8 a1_0 a1_1 l1_2 a1_3 a1_4 a1_5 a1_6 a1_7 l1_8 = some r) ∧ Aside0 (kq ≤ k) ∧ Aside0 (wc.heap[gb147]? = some (.cells #[.int .i64 a0_0, .bool a0_1, (.slice A0_2 l0_2.length c0_2), .string a0_3, .int .i64 a0_4, .int .i64 a0_5, .bool a0_6, .bool a0_7, (.slice A0_8 l0_8.length c0_8)] 29 (0, 0))) ∧ Aside0 (wc.heap[gb148]? = some (.cells #[.int .i64 a1_0, .bool a1_1, (.slice A1_2 l1_2.length c1_2), .string a1_3, .int .i64 a1_4, .int .i64 a1_5, .bool a1_6, .bool a1_7, (.slice A1_8 l1_8.length c1_8)] 29 (0, 0))) ∧ Aside0 (Below w.heap.size w wc))
  case first =>
    have H := HC3.out
    clear HC3
    by_cases c6 : a0_0 = a1_0
    · rw [if_pos c6] at H
      have c6b0 : (a0_0 == a1_0) = true := beq_iff_eq.mpr c6
      have c6b1 : (a0_0 != a1_0) = false := bne_eq_false_iff_eq.mpr c6
      clear c6
      (first | rw [c6b0] | (simp only [i64_w, i32_w]; rw [c6b0]) | skip)
      by_cases c7 : a0_3.toList = a1_3.toList
      · rw [if_pos c7] at H
        have c7b0 : (a0_3.toList == a1_3.toList) = true := beq_iff_eq.mpr c7
        have c7b1 : (a0_3.toList != a1_3.toList) = false := bne_eq_false_iff_eq.mpr c7
        clear c7
        by_cases c8 : a0_4 = a1_4
        · rw [if_pos c8] at H
          have c8b0 : (a0_4 == a1_4) = true := beq_iff_eq.mpr c8
          have c8b1 : (a0_4 != a1_4) = false := bne_eq_false_iff_eq.mpr c8
          clear c8
          by_cases c9 : a0_5 = a1_5
          · rw [if_pos c9] at H
            have c9b0 : (a0_5 == a1_5) = true := beq_iff_eq.mpr c9
            have c9b1 : (a0_5 != a1_5) = false := bne_eq_false_iff_eq.mpr c9
            clear c9
            by_cases c10 : (a0_6 != a1_6) = true
            · rw [if_pos c10] at H
              have c10b0 : (a0_6 != a1_6) = true := c10
              (try (have c10b1 : decide (a0_6 = a1_6) = false := by simpa using c10))
              (try (have c10b2 : (a0_6 == a1_6) = false := by simpa using c10))
              (try (have c10b3 : ¬ (a0_6 = a1_6) := by simpa using c10))
              clear c10
              have H' := Aside0.mk H
              clear H
              have hnb11 := NB147_148.out
              have hnc11 := NB148_147.out
              have hcz12_0 : w5.cell? ⟨gb147, 0, none⟩ = some (.int .i64 a0_0) := (blk_cell BK147.out 0).trans rfl
              have hcz12_1 : w5.cell? ⟨gb147, 1, none⟩ = some (.bool a0_1) := (blk_cell BK147.out 1).trans rfl
              have hcz12_2 : w5.cell? ⟨gb147, 2, none⟩ = some (.slice A0_2 l0_2.length c0_2) := (blk_cell BK147.out 2).trans rfl
              have hcz12_3 : w5.cell? ⟨gb147, 3, none⟩ = some (.string a0_3) := (blk_cell BK147.out 3).trans rfl
              have hcz12_4 : w5.cell? ⟨gb147, 4, none⟩ = some (.int .i64 a0_4) := (blk_cell BK147.out 4).trans rfl
              have hcz12_5 : w5.cell? ⟨gb147, 5, none⟩ = some (.int .i64 a0_5) := (blk_cell BK147.out 5).trans rfl
              have hcz12_6 : w5.cell? ⟨gb147, 6, none⟩ = some (.bool a0_6) := (blk_cell BK147.out 6).trans rfl
              have hcz12_7 : w5.cell? ⟨gb147, 7, none⟩ = some (.bool a0_7) := (blk_cell BK147.out 7).trans rfl
              have hcz12_8 : w5.cell? ⟨gb147, 8, none⟩ = some (.slice A0_8 l0_8.length c0_8) := (blk_cell BK147.out 8).trans rfl
              have hfz12_0 := blk_frozen BK147.out 0
              have hfz12_1 := blk_frozen BK147.out 1
              have hfz12_2 := blk_frozen BK147.out 2
              have hfz12_3 := blk_frozen BK147.out 3
              have hfz12_4 := blk_frozen BK147.out 4
              have hfz12_5 := blk_frozen BK147.out 5
              have hfz12_6 := blk_frozen BK147.out 6
              have hfz12_7 := blk_frozen BK147.out 7
              have hfz12_8 := blk_frozen BK147.out 8
              have hcz13_0 : w5.cell? ⟨gb148, 0, none⟩ = some (.int .i64 a1_0) := (blk_cell BK148.out 0).trans rfl
              have hcz13_1 : w5.cell? ⟨gb148, 1, none⟩ = some (.bool a1_1) := (blk_cell BK148.out 1).trans rfl
              have hcz13_2 : w5.cell? ⟨gb148, 2, none⟩ = some (.slice A1_2 l1_2.length c1_2) := (blk_cell BK148.out 2).trans rfl
              have hcz13_3 : w5.cell? ⟨gb148, 3, none⟩ = some (.string a1_3) := (blk_cell BK148.out 3).trans rfl
              have hcz13_4 : w5.cell? ⟨gb148, 4, none⟩ = some (.int .i64 a1_4) := (blk_cell BK148.out 4).trans rfl
              have hcz13_5 : w5.cell? ⟨gb148, 5, none⟩ = some (.int .i64 a1_5) := (blk_cell BK148.out 5).trans rfl
              have hcz13_6 : w5.cell? ⟨gb148, 6, none⟩ = some (.bool a1_6) := (blk_cell BK148.out 6).trans rfl
              have hcz13_7 : w5.cell? ⟨gb148, 7, none⟩ = some (.bool a1_7) := (blk_cell BK148.out 7).trans rfl
              have hcz13_8 : w5.cell? ⟨gb148, 8, none⟩ = some (.slice A1_8 l1_8.length c1_8) := (blk_cell BK148.out 8).trans rfl
              have hfz13_0 := blk_frozen BK148.out 0
              have hfz13_1 := blk_frozen BK148.out 1
              have hfz13_2 := blk_frozen BK148.out 2
              have hfz13_3 := blk_frozen BK148.out 3
              have hfz13_4 := blk_frozen BK148.out 4
              have hfz13_5 := blk_frozen BK148.out 5
              have hfz13_6 := blk_frozen BK148.out 6
              have hfz13_7 := blk_frozen BK148.out 7
              have hfz13_8 := blk_frozen BK148.out 8
              go_wp2
              go_meet
              case rel => exact ⟨_, (true), (by first | rfl | (simp; done) | (simp [*]; done)), H', ⟨by first | omega | exact Nat.le_refl _⟩, ⟨by (with_reducible repeat (first | refine blk_drewN ?_ _ | refine blk_drew ?_ | refine blk_alloc ?_ _)); exact BK147.out⟩, ⟨by (with_reducible repeat (first | refine blk_drewN ?_ _ | refine blk_drew ?_ | refine blk_alloc ?_ _)); exact BK148.out⟩, ⟨by repeat (first | (with_reducible first | exact HB.out | apply below_alloc | apply pw_below_drewN | apply below_drew1 | refine below_set ?_ GE147.out | refine below_set ?_ GE148.out) | exact HB.out)⟩⟩
            · rw [if_neg c10] at H
              have c10b0 : (a0_6 != a1_6) = false := by simpa using c10
              (try (have c10b1 : decide (a0_6 = a1_6) = true := by simpa using c10))
              (try (have c10b2 : (a0_6 == a1_6) = true := by simpa using c10))
              clear c10
              by_cases c14 : (a0_7 != a1_7) = true
              · rw [if_pos c14] at H
                have c14b0 : (a0_7 != a1_7) = true := c14
                (try (have c14b1 : decide (a0_7 = a1_7) = false := by simpa using c14))
                (try (have c14b2 : (a0_7 == a1_7) = false := by simpa using c14))
                (try (have c14b3 : ¬ (a0_7 = a1_7) := by simpa using c14))
                clear c14
                have H' := Aside0.mk H
                clear H
                have hnb15 := NB147_148.out
                have hnc15 := NB148_147.out
                have hcz16_0 : w5.cell? ⟨gb147, 0, none⟩ = some (.int .i64 a0_0) := (blk_cell BK147.out 0).trans rfl
                have hcz16_1 : w5.cell? ⟨gb147, 1, none⟩ = some (.bool a0_1) := (blk_cell BK147.out 1).trans rfl
                have hcz16_2 : w5.cell? ⟨gb147, 2, none⟩ = some (.slice A0_2 l0_2.length c0_2) := (blk_cell BK147.out 2).trans rfl
                have hcz16_3 : w5.cell? ⟨gb147, 3, none⟩ = some (.string a0_3) := (blk_cell BK147.out 3).trans rfl
                have hcz16_4 : w5.cell? ⟨gb147, 4, none⟩ = some (.int .i64 a0_4) := (blk_cell BK147.out 4).trans rfl
                have hcz16_5 : w5.cell? ⟨gb147, 5, none⟩ = some (.int .i64 a0_5) := (blk_cell BK147.out 5).trans rfl
                have hcz16_6 : w5.cell? ⟨gb147, 6, none⟩ = some (.bool a0_6) := (blk_cell BK147.out 6).trans rfl
                have hcz16_7 : w5.cell? ⟨gb147, 7, none⟩ = some (.bool a0_7) := (blk_cell BK147.out 7).trans rfl
                have hcz16_8 : w5.cell? ⟨gb147, 8, none⟩ = some (.slice A0_8 l0_8.length c0_8) := (blk_cell BK147.out 8).trans rfl
                have hfz16_0 := blk_frozen BK147.out 0
                have hfz16_1 := blk_frozen BK147.out 1
                have hfz16_2 := blk_frozen BK147.out 2
                have hfz16_3 := blk_frozen BK147.out 3
                have hfz16_4 := blk_frozen BK147.out 4
                have hfz16_5 := blk_frozen BK147.out 5
                have hfz16_6 := blk_frozen BK147.out 6
                have hfz16_7 := blk_frozen BK147.out 7
                have hfz16_8 := blk_frozen BK147.out 8
                have hcz17_0 : w5.cell? ⟨gb148, 0, none⟩ = some (.int .i64 a1_0) := (blk_cell BK148.out 0).trans rfl
                have hcz17_1 : w5.cell? ⟨gb148, 1, none⟩ = some (.bool a1_1) := (blk_cell BK148.out 1).trans rfl
                have hcz17_2 : w5.cell? ⟨gb148, 2, none⟩ = some (.slice A1_2 l1_2.length c1_2) := (blk_cell BK148.out 2).trans rfl
                have hcz17_3 : w5.cell? ⟨gb148, 3, none⟩ = some (.string a1_3) := (blk_cell BK148.out 3).trans rfl
                have hcz17_4 : w5.cell? ⟨gb148, 4, none⟩ = some (.int .i64 a1_4) := (blk_cell BK148.out 4).trans rfl
                have hcz17_5 : w5.cell? ⟨gb148, 5, none⟩ = some (.int .i64 a1_5) := (blk_cell BK148.out 5).trans rfl
                have hcz17_6 : w5.cell? ⟨gb148, 6, none⟩ = some (.bool a1_6) := (blk_cell BK148.out 6).trans rfl
                have hcz17_7 : w5.cell? ⟨gb148, 7, none⟩ = some (.bool a1_7) := (blk_cell BK148.out 7).trans rfl
                have hcz17_8 : w5.cell? ⟨gb148, 8, none⟩ = some (.slice A1_8 l1_8.length c1_8) := (blk_cell BK148.out 8).trans rfl
                have hfz17_0 := blk_frozen BK148.out 0
                have hfz17_1 := blk_frozen BK148.out 1
                have hfz17_2 := blk_frozen BK148.out 2
                have hfz17_3 := blk_frozen BK148.out 3
                have hfz17_4 := blk_frozen BK148.out 4
                have hfz17_5 := blk_frozen BK148.out 5
                have hfz17_6 := blk_frozen BK148.out 6
                have hfz17_7 := blk_frozen BK148.out 7
                have hfz17_8 := blk_frozen BK148.out 8
                go_wp2
                go_meet
                case rel => exact ⟨_, (true), (by first | rfl | (simp; done) | (simp [*]; done)), H', ⟨by first | omega | exact Nat.le_refl _⟩, ⟨by (with_reducible repeat (first | refine blk_drewN ?_ _ | refine blk_drew ?_ | refine blk_alloc ?_ _)); exact BK147.out⟩, ⟨by (with_reducible repeat (first | refine blk_drewN ?_ _ | refine blk_drew ?_ | refine blk_alloc ?_ _)); exact BK148.out⟩, ⟨by repeat (first | (with_reducible first | exact HB.out | apply below_alloc | apply pw_below_drewN | apply below_drew1 | refine below_set ?_ GE147.out | refine below_set ?_ GE148.out) | exact HB.out)⟩⟩
              · rw [if_neg c14] at H
                have c14b0 : (a0_7 != a1_7) = false := by simpa using c14
                (try (have c14b1 : decide (a0_7 = a1_7) = true := by simpa using c14))
                (try (have c14b2 : (a0_7 == a1_7) = true := by simpa using c14))
                clear c14
                replace H := Option.bind_eq_some_iff.mp H
                obtain ⟨t149, A180, H⟩ := H
                replace H : (if t149 = true then (cylinderref34_Same.j0 k ((l0_8.length : Int) != (l1_8.length : Int)) a0_0 a0_1 l0_2 a0_3 a0_4 a0_5 a0_6 a0_7 l0_8 a1_0 a1_1 l1_2 a1_3 a1_4 a1_5 a1_6 a1_7 l1_8) else (cylinderref34_Same.j0 k true a0_0 a0_1 l0_2 a0_3 a0_4 a0_5 a0_6 a0_7 l0_8 a1_0 a1_1 l1_2 a1_3 a1_4 a1_5 a1_6 a1_7 l1_8)) = some r := H
                have A18 := Aside0.mk A180
                clear A180
                by_cases c19 : t149 = true
                · subst c19
                  have H1 : (cylinderref34_Same.j0 k ((l0_8.length : Int) != (l1_8.length : Int)) a0_0 a0_1 l0_2 a0_3 a0_4 a0_5 a0_6 a0_7 l0_8 a1_0 a1_1 l1_2 a1_3 a1_4 a1_5 a1_6 a1_7 l1_8) = some r := by rw [if_pos rfl] at H; exact H
                  clear H
                  have H := H1
                  clear H1
                  have H' := Aside0.mk H
                  clear H
                  have hnb20 := NB147_148.out
                  have hnc20 := NB148_147.out
                  have hcz21_0 : w5.cell? ⟨gb147, 0, none⟩ = some (.int .i64 a0_0) := (blk_cell BK147.out 0).trans rfl
                  have hcz21_1 : w5.cell? ⟨gb147, 1, none⟩ = some (.bool a0_1) := (blk_cell BK147.out 1).trans rfl
                  have hcz21_2 : w5.cell? ⟨gb147, 2, none⟩ = some (.slice A0_2 l0_2.length c0_2) := (blk_cell BK147.out 2).trans rfl
                  have hcz21_3 : w5.cell? ⟨gb147, 3, none⟩ = some (.string a0_3) := (blk_cell BK147.out 3).trans rfl
                  have hcz21_4 : w5.cell? ⟨gb147, 4, none⟩ = some (.int .i64 a0_4) := (blk_cell BK147.out 4).trans rfl
                  have hcz21_5 : w5.cell? ⟨gb147, 5, none⟩ = some (.int .i64 a0_5) := (blk_cell BK147.out 5).trans rfl
                  have hcz21_6 : w5.cell? ⟨gb147, 6, none⟩ = some (.bool a0_6) := (blk_cell BK147.out 6).trans rfl
                  have hcz21_7 : w5.cell? ⟨gb147, 7, none⟩ = some (.bool a0_7) := (blk_cell BK147.out 7).trans rfl
                  have hcz21_8 : w5.cell? ⟨gb147, 8, none⟩ = some (.slice A0_8 l0_8.length c0_8) := (blk_cell BK147.out 8).trans rfl
                  have hfz21_0 := blk_frozen BK147.out 0
                  have hfz21_1 := blk_frozen BK147.out 1
                  have hfz21_2 := blk_frozen BK147.out 2
                  have hfz21_3 := blk_frozen BK147.out 3
                  have hfz21_4 := blk_frozen BK147.out 4
                  have hfz21_5 := blk_frozen BK147.out 5
                  have hfz21_6 := blk_frozen BK147.out 6
                  have hfz21_7 := blk_frozen BK147.out 7
                  have hfz21_8 := blk_frozen BK147.out 8
                  have hcz22_0 : w5.cell? ⟨gb148, 0, none⟩ = some (.int .i64 a1_0) := (blk_cell BK148.out 0).trans rfl
                  have hcz22_1 : w5.cell? ⟨gb148, 1, none⟩ = some (.bool a1_1) := (blk_cell BK148.out 1).trans rfl
                  have hcz22_2 : w5.cell? ⟨gb148, 2, none⟩ = some (.slice A1_2 l1_2.length c1_2) := (blk_cell BK148.out 2).trans rfl
                  have hcz22_3 : w5.cell? ⟨gb148, 3, none⟩ = some (.string a1_3) := (blk_cell BK148.out 3).trans rfl
                  have hcz22_4 : w5.cell? ⟨gb148, 4, none⟩ = some (.int .i64 a1_4) := (blk_cell BK148.out 4).trans rfl
                  have hcz22_5 : w5.cell? ⟨gb148, 5, none⟩ = some (.int .i64 a1_5) := (blk_cell BK148.out 5).trans rfl
                  have hcz22_6 : w5.cell? ⟨gb148, 6, none⟩ = some (.bool a1_6) := (blk_cell BK148.out 6).trans rfl
                  have hcz22_7 : w5.cell? ⟨gb148, 7, none⟩ = some (.bool a1_7) := (blk_cell BK148.out 7).trans rfl
                  have hcz22_8 : w5.cell? ⟨gb148, 8, none⟩ = some (.slice A1_8 l1_8.length c1_8) := (blk_cell BK148.out 8).trans rfl
                  have hfz22_0 := blk_frozen BK148.out 0
                  have hfz22_1 := blk_frozen BK148.out 1
                  have hfz22_2 := blk_frozen BK148.out 2
                  have hfz22_3 := blk_frozen BK148.out 3
                  have hfz22_4 := blk_frozen BK148.out 4
                  have hfz22_5 := blk_frozen BK148.out 5
                  have hfz22_6 := blk_frozen BK148.out 6
                  have hfz22_7 := blk_frozen BK148.out 7
                  have hfz22_8 := blk_frozen BK148.out 8
                  go_wp2_with (first | (go_at_call 58; (with_reducible refine (cylinderref34_SameInt.calls k a0_1 _ _ l0_2 a1_1 _ _ l1_2 true _ ?side1 ?side2 ?side3 ?side4 A18.out).mono ?_); (case side1 => repeat (first | exact (Kd.C_below HR0_2.out HB.out) | (with_reducible refine Kd.C_alloc ?_ _) | (with_reducible refine Kd.C_drewN ?_ _) | (with_reducible refine Kd.C_drew ?_))); (case side2 => exact HC0_2.out); (case side3 => repeat (first | exact (Kd.C_below HR1_2.out HB.out) | (with_reducible refine Kd.C_alloc ?_ _) | (with_reducible refine Kd.C_drewN ?_ _) | (with_reducible refine Kd.C_drew ?_))); (case side4 => exact HC1_2.out); rintro e w23 ⟨rfl, hb⟩; have n0_ := Aside0.mk (blk_below (g := gb147) (o := .cells #[.int .i64 a0_0, .bool a0_1, .slice A0_2 l0_2.length c0_2, .string a0_3, .int .i64 a0_4, .int .i64 a0_5, .bool a0_6, .bool a0_7, .slice A0_8 l0_8.length c0_8] 29 (0, 0)) (by (with_reducible repeat (first | refine blk_drewN ?_ _ | refine blk_drew ?_ | refine blk_alloc ?_ _)); exact BK147.out) hb); have n1_ := Aside0.mk (blk_below (g := gb148) (o := .cells #[.int .i64 a1_0, .bool a1_1, .slice A1_2 l1_2.length c1_2, .string a1_3, .int .i64 a1_4, .int .i64 a1_5, .bool a1_6, .bool a1_7, .slice A1_8 l1_8.length c1_8] 29 (0, 0)) (by (with_reducible repeat (first | refine blk_drewN ?_ _ | refine blk_drew ?_ | refine blk_alloc ?_ _)); exact BK148.out) hb); have n2_ := Aside0.mk (below_step (by repeat (first | (with_reducible first | exact HB.out | apply below_alloc | apply pw_below_drewN | apply below_drew1 | refine below_set ?_ GE147.out | refine below_set ?_ GE148.out) | exact HB.out)) hb); clear BK147; clear BK148; clear HB; have BK147 := n0_; have BK148 := n1_; have HB := n2_; clear n0_ n1_ n2_; (try clear hb); (try clear hb2); (try clear hk); (try clear hi); have hcz24_0 : w23.cell? ⟨gb147, 0, none⟩ = some (.int .i64 a0_0) := (blk_cell BK147.out 0).trans rfl; have hcz24_1 : w23.cell? ⟨gb147, 1, none⟩ = some (.bool a0_1) := (blk_cell BK147.out 1).trans rfl; have hcz24_2 : w23.cell? ⟨gb147, 2, none⟩ = some (.slice A0_2 l0_2.length c0_2) := (blk_cell BK147.out 2).trans rfl; have hcz24_3 : w23.cell? ⟨gb147, 3, none⟩ = some (.string a0_3) := (blk_cell BK147.out 3).trans rfl; have hcz24_4 : w23.cell? ⟨gb147, 4, none⟩ = some (.int .i64 a0_4) := (blk_cell BK147.out 4).trans rfl; have hcz24_5 : w23.cell? ⟨gb147, 5, none⟩ = some (.int .i64 a0_5) := (blk_cell BK147.out 5).trans rfl; have hcz24_6 : w23.cell? ⟨gb147, 6, none⟩ = some (.bool a0_6) := (blk_cell BK147.out 6).trans rfl; have hcz24_7 : w23.cell? ⟨gb147, 7, none⟩ = some (.bool a0_7) := (blk_cell BK147.out 7).trans rfl; have hcz24_8 : w23.cell? ⟨gb147, 8, none⟩ = some (.slice A0_8 l0_8.length c0_8) := (blk_cell BK147.out 8).trans rfl; have hfz24_0 := blk_frozen BK147.out 0; have hfz24_1 := blk_frozen BK147.out 1; have hfz24_2 := blk_frozen BK147.out 2; have hfz24_3 := blk_frozen BK147.out 3; have hfz24_4 := blk_frozen BK147.out 4; have hfz24_5 := blk_frozen BK147.out 5; have hfz24_6 := blk_frozen BK147.out 6; have hfz24_7 := blk_frozen BK147.out 7; have hfz24_8 := blk_frozen BK147.out 8; have hcz25_0 : w23.cell? ⟨gb148, 0, none⟩ = some (.int .i64 a1_0) := (blk_cell BK148.out 0).trans rfl; have hcz25_1 : w23.cell? ⟨gb148, 1, none⟩ = some (.bool a1_1) := (blk_cell BK148.out 1).trans rfl; have hcz25_2 : w23.cell? ⟨gb148, 2, none⟩ = some (.slice A1_2 l1_2.length c1_2) := (blk_cell BK148.out 2).trans rfl; have hcz25_3 : w23.cell? ⟨gb148, 3, none⟩ = some (.string a1_3) := (blk_cell BK148.out 3).trans rfl; have hcz25_4 : w23.cell? ⟨gb148, 4, none⟩ = some (.int .i64 a1_4) := (blk_cell BK148.out 4).trans rfl; have hcz25_5 : w23.cell? ⟨gb148, 5, none⟩ = some (.int .i64 a1_5) := (blk_cell BK148.out 5).trans rfl; have hcz25_6 : w23.cell? ⟨gb148, 6, none⟩ = some (.bool a1_6) := (blk_cell BK148.out 6).trans rfl; have hcz25_7 : w23.cell? ⟨gb148, 7, none⟩ = some (.bool a1_7) := (blk_cell BK148.out 7).trans rfl; have hcz25_8 : w23.cell? ⟨gb148, 8, none⟩ = some (.slice A1_8 l1_8.length c1_8) := (blk_cell BK148.out 8).trans rfl; have hfz25_0 := blk_frozen BK148.out 0; have hfz25_1 := blk_frozen BK148.out 1; have hfz25_2 := blk_frozen BK148.out 2; have hfz25_3 := blk_frozen BK148.out 3; have hfz25_4 := blk_frozen BK148.out 4; have hfz25_5 := blk_frozen BK148.out 5; have hfz25_6 := blk_frozen BK148.out 6; have hfz25_7 := blk_frozen BK148.out 7; have hfz25_8 := blk_frozen BK148.out 8))
                  go_meet
                  case rel => exact ⟨_, (((l0_8.length : Int) != (l1_8.length : Int))), (by first | rfl | (simp; done) | (simp [*]; done)), H', ⟨by first | omega | exact Nat.le_refl _⟩, ⟨by (with_reducible repeat (first | refine blk_drewN ?_ _ | refine blk_drew ?_ | refine blk_alloc ?_ _)); exact BK147.out⟩, ⟨by (with_reducible repeat (first | refine blk_drewN ?_ _ | refine blk_drew ?_ | refine blk_alloc ?_ _)); exact BK148.out⟩, ⟨by repeat (first | (with_reducible first | exact HB.out | apply below_alloc | apply pw_below_drewN | apply below_drew1 | refine below_set ?_ GE147.out | refine below_set ?_ GE148.out) | exact HB.out)⟩⟩
                · replace c19 := Bool.eq_false_iff.mpr c19
                  subst c19
                  have H1 : (cylinderref34_Same.j0 k true a0_0 a0_1 l0_2 a0_3 a0_4 a0_5 a0_6 a0_7 l0_8 a1_0 a1_1 l1_2 a1_3 a1_4 a1_5 a1_6 a1_7 l1_8) = some r := by rw [if_neg (show ¬ (false = true) by decide)] at H; exact H
                  clear H
                  have H := H1
                  clear H1
                  have H' := Aside0.mk H
                  clear H
                  have hnb26 := NB147_148.out
                  have hnc26 := NB148_147.out
                  have hcz27_0 : w5.cell? ⟨gb147, 0, none⟩ = some (.int .i64 a0_0) := (blk_cell BK147.out 0).trans rfl
                  have hcz27_1 : w5.cell? ⟨gb147, 1, none⟩ = some (.bool a0_1) := (blk_cell BK147.out 1).trans rfl
                  have hcz27_2 : w5.cell? ⟨gb147, 2, none⟩ = some (.slice A0_2 l0_2.length c0_2) := (blk_cell BK147.out 2).trans rfl
                  have hcz27_3 : w5.cell? ⟨gb147, 3, none⟩ = some (.string a0_3) := (blk_cell BK147.out 3).trans rfl
                  have hcz27_4 : w5.cell? ⟨gb147, 4, none⟩ = some (.int .i64 a0_4) := (blk_cell BK147.out 4).trans rfl
                  have hcz27_5 : w5.cell? ⟨gb147, 5, none⟩ = some (.int .i64 a0_5) := (blk_cell BK147.out 5).trans rfl
                  have hcz27_6 : w5.cell? ⟨gb147, 6, none⟩ = some (.bool a0_6) := (blk_cell BK147.out 6).trans rfl
                  have hcz27_7 : w5.cell? ⟨gb147, 7, none⟩ = some (.bool a0_7) := (blk_cell BK147.out 7).trans rfl
                  have hcz27_8 : w5.cell? ⟨gb147, 8, none⟩ = some (.slice A0_8 l0_8.length c0_8) := (blk_cell BK147.out 8).trans rfl
                  have hfz27_0 := blk_frozen BK147.out 0
                  have hfz27_1 := blk_frozen BK147.out 1
                  have hfz27_2 := blk_frozen BK147.out 2
                  have hfz27_3 := blk_frozen BK147.out 3
                  have hfz27_4 := blk_frozen BK147.out 4
                  have hfz27_5 := blk_frozen BK147.out 5
                  have hfz27_6 := blk_frozen BK147.out 6
                  have hfz27_7 := blk_frozen BK147.out 7
                  have hfz27_8 := blk_frozen BK147.out 8
                  have hcz28_0 : w5.cell? ⟨gb148, 0, none⟩ = some (.int .i64 a1_0) := (blk_cell BK148.out 0).trans rfl
                  have hcz28_1 : w5.cell? ⟨gb148, 1, none⟩ = some (.bool a1_1) := (blk_cell BK148.out 1).trans rfl
                  have hcz28_2 : w5.cell? ⟨gb148, 2, none⟩ = some (.slice A1_2 l1_2.length c1_2) := (blk_cell BK148.out 2).trans rfl
                  have hcz28_3 : w5.cell? ⟨gb148, 3, none⟩ = some (.string a1_3) := (blk_cell BK148.out 3).trans rfl
                  have hcz28_4 : w5.cell? ⟨gb148, 4, none⟩ = some (.int .i64 a1_4) := (blk_cell BK148.out 4).trans rfl
                  have hcz28_5 : w5.cell? ⟨gb148, 5, none⟩ = some (.int .i64 a1_5) := (blk_cell BK148.out 5).trans rfl
                  have hcz28_6 : w5.cell? ⟨gb148, 6, none⟩ = some (.bool a1_6) := (blk_cell BK148.out 6).trans rfl
                  have hcz28_7 : w5.cell? ⟨gb148, 7, none⟩ = some (.bool a1_7) := (blk_cell BK148.out 7).trans rfl
                  have hcz28_8 : w5.cell? ⟨gb148, 8, none⟩ = some (.slice A1_8 l1_8.length c1_8) := (blk_cell BK148.out 8).trans rfl
                  have hfz28_0 := blk_frozen BK148.out 0
                  have hfz28_1 := blk_frozen BK148.out 1
                  have hfz28_2 := blk_frozen BK148.out 2
                  have hfz28_3 := blk_frozen BK148.out 3
                  have hfz28_4 := blk_frozen BK148.out 4
                  have hfz28_5 := blk_frozen BK148.out 5
                  have hfz28_6 := blk_frozen BK148.out 6
                  have hfz28_7 := blk_frozen BK148.out 7
                  have hfz28_8 := blk_frozen BK148.out 8
                  go_wp2_with (first | (go_at_call 58; (with_reducible refine (cylinderref34_SameInt.calls k a0_1 _ _ l0_2 a1_1 _ _ l1_2 false _ ?side1 ?side2 ?side3 ?side4 A18.out).mono ?_); (case side1 => repeat (first | exact (Kd.C_below HR0_2.out HB.out) | (with_reducible refine Kd.C_alloc ?_ _) | (with_reducible refine Kd.C_drewN ?_ _) | (with_reducible refine Kd.C_drew ?_))); (case side2 => exact HC0_2.out); (case side3 => repeat (first | exact (Kd.C_below HR1_2.out HB.out) | (with_reducible refine Kd.C_alloc ?_ _) | (with_reducible refine Kd.C_drewN ?_ _) | (with_reducible refine Kd.C_drew ?_))); (case side4 => exact HC1_2.out); rintro e w29 ⟨rfl, hb⟩; have n0_ := Aside0.mk (blk_below (g := gb147) (o := .cells #[.int .i64 a0_0, .bool a0_1, .slice A0_2 l0_2.length c0_2, .string a0_3, .int .i64 a0_4, .int .i64 a0_5, .bool a0_6, .bool a0_7, .slice A0_8 l0_8.length c0_8] 29 (0, 0)) (by (with_reducible repeat (first | refine blk_drewN ?_ _ | refine blk_drew ?_ | refine blk_alloc ?_ _)); exact BK147.out) hb); have n1_ := Aside0.mk (blk_below (g := gb148) (o := .cells #[.int .i64 a1_0, .bool a1_1, .slice A1_2 l1_2.length c1_2, .string a1_3, .int .i64 a1_4, .int .i64 a1_5, .bool a1_6, .bool a1_7, .slice A1_8 l1_8.length c1_8] 29 (0, 0)) (by (with_reducible repeat (first | refine blk_drewN ?_ _ | refine blk_drew ?_ | refine blk_alloc ?_ _)); exact BK148.out) hb); have n2_ := Aside0.mk (below_step (by repeat (first | (with_reducible first | exact HB.out | apply below_alloc | apply pw_below_drewN | apply below_drew1 | refine below_set ?_ GE147.out | refine below_set ?_ GE148.out) | exact HB.out)) hb); clear BK147; clear BK148; clear HB; have BK147 := n0_; have BK148 := n1_; have HB := n2_; clear n0_ n1_ n2_; (try clear hb); (try clear hb2); (try clear hk); (try clear hi)))
                  go_meet
                  case rel => exact ⟨_, (true), (by first | rfl | (simp; done) | (simp [*]; done)), H', ⟨by first | omega | exact Nat.le_refl _⟩, ⟨by (with_reducible repeat (first | refine blk_drewN ?_ _ | refine blk_drew ?_ | refine blk_alloc ?_ _)); exact BK147.out⟩, ⟨by (with_reducible repeat (first | refine blk_drewN ?_ _ | refine blk_drew ?_ | refine blk_alloc ?_ _)); exact BK148.out⟩, ⟨by repeat (first | (with_reducible first | exact HB.out | apply below_alloc | apply pw_below_drewN | apply below_drew1 | refine below_set ?_ GE147.out | refine below_set ?_ GE148.out) | exact HB.out)⟩⟩
          · rw [if_neg c9] at H
            have c9b0 : (a0_5 == a1_5) = false := beq_eq_false_iff_ne.mpr c9
            have c9b1 : (a0_5 != a1_5) = true := bne_iff_ne.mpr c9
            have H' := Aside0.mk H
            clear H
            have hnb30 := NB147_148.out
            have hnc30 := NB148_147.out
            have hcz31_0 : w5.cell? ⟨gb147, 0, none⟩ = some (.int .i64 a0_0) := (blk_cell BK147.out 0).trans rfl
            have hcz31_1 : w5.cell? ⟨gb147, 1, none⟩ = some (.bool a0_1) := (blk_cell BK147.out 1).trans rfl
            have hcz31_2 : w5.cell? ⟨gb147, 2, none⟩ = some (.slice A0_2 l0_2.length c0_2) := (blk_cell BK147.out 2).trans rfl
            have hcz31_3 : w5.cell? ⟨gb147, 3, none⟩ = some (.string a0_3) := (blk_cell BK147.out 3).trans rfl
            have hcz31_4 : w5.cell? ⟨gb147, 4, none⟩ = some (.int .i64 a0_4) := (blk_cell BK147.out 4).trans rfl
            have hcz31_5 : w5.cell? ⟨gb147, 5, none⟩ = some (.int .i64 a0_5) := (blk_cell BK147.out 5).trans rfl
            have hcz31_6 : w5.cell? ⟨gb147, 6, none⟩ = some (.bool a0_6) := (blk_cell BK147.out 6).trans rfl
            have hcz31_7 : w5.cell? ⟨gb147, 7, none⟩ = some (.bool a0_7) := (blk_cell BK147.out 7).trans rfl
            have hcz31_8 : w5.cell? ⟨gb147, 8, none⟩ = some (.slice A0_8 l0_8.length c0_8) := (blk_cell BK147.out 8).trans rfl
            have hfz31_0 := blk_frozen BK147.out 0
            have hfz31_1 := blk_frozen BK147.out 1
            have hfz31_2 := blk_frozen BK147.out 2
            have hfz31_3 := blk_frozen BK147.out 3
            have hfz31_4 := blk_frozen BK147.out 4
            have hfz31_5 := blk_frozen BK147.out 5
            have hfz31_6 := blk_frozen BK147.out 6
            have hfz31_7 := blk_frozen BK147.out 7
            have hfz31_8 := blk_frozen BK147.out 8
            have hcz32_0 : w5.cell? ⟨gb148, 0, none⟩ = some (.int .i64 a1_0) := (blk_cell BK148.out 0).trans rfl
            have hcz32_1 : w5.cell? ⟨gb148, 1, none⟩ = some (.bool a1_1) := (blk_cell BK148.out 1).trans rfl
            have hcz32_2 : w5.cell? ⟨gb148, 2, none⟩ = some (.slice A1_2 l1_2.length c1_2) := (blk_cell BK148.out 2).trans rfl
            have hcz32_3 : w5.cell? ⟨gb148, 3, none⟩ = some (.string a1_3) := (blk_cell BK148.out 3).trans rfl
            have hcz32_4 : w5.cell? ⟨gb148, 4, none⟩ = some (.int .i64 a1_4) := (blk_cell BK148.out 4).trans rfl
            have hcz32_5 : w5.cell? ⟨gb148, 5, none⟩ = some (.int .i64 a1_5) := (blk_cell BK148.out 5).trans rfl
            have hcz32_6 : w5.cell? ⟨gb148, 6, none⟩ = some (.bool a1_6) := (blk_cell BK148.out 6).trans rfl
            have hcz32_7 : w5.cell? ⟨gb148, 7, none⟩ = some (.bool a1_7) := (blk_cell BK148.out 7).trans rfl
            have hcz32_8 : w5.cell? ⟨gb148, 8, none⟩ = some (.slice A1_8 l1_8.length c1_8) := (blk_cell BK148.out 8).trans rfl
            have hfz32_0 := blk_frozen BK148.out 0
            have hfz32_1 := blk_frozen BK148.out 1
            have hfz32_2 := blk_frozen BK148.out 2
            have hfz32_3 := blk_frozen BK148.out 3
            have hfz32_4 := blk_frozen BK148.out 4
            have hfz32_5 := blk_frozen BK148.out 5
            have hfz32_6 := blk_frozen BK148.out 6
            have hfz32_7 := blk_frozen BK148.out 7
            have hfz32_8 := blk_frozen BK148.out 8
            go_wp2
            go_meet
            case rel => exact ⟨_, (true), (by first | rfl | (simp; done) | (simp [*]; done)), H', ⟨by first | omega | exact Nat.le_refl _⟩, ⟨by (with_reducible repeat (first | refine blk_drewN ?_ _ | refine blk_drew ?_ | refine blk_alloc ?_ _)); exact BK147.out⟩, ⟨by (with_reducible repeat (first | refine blk_drewN ?_ _ | refine blk_drew ?_ | refine blk_alloc ?_ _)); exact BK148.out⟩, ⟨by repeat (first | (with_reducible first | exact HB.out | apply below_alloc | apply pw_below_drewN | apply below_drew1 | refine below_set ?_ GE147.out | refine below_set ?_ GE148.out) | exact HB.out)⟩⟩
        · rw [if_neg c8] at H
          have c8b0 : (a0_4 == a1_4) = false := beq_eq_false_iff_ne.mpr c8
          have c8b1 : (a0_4 != a1_4) = true := bne_iff_ne.mpr c8
          have H' := Aside0.mk H
          clear H
          have hnb33 := NB147_148.out
          have hnc33 := NB148_147.out
          have hcz34_0 : w5.cell? ⟨gb147, 0, none⟩ = some (.int .i64 a0_0) := (blk_cell BK147.out 0).trans rfl
          have hcz34_1 : w5.cell? ⟨gb147, 1, none⟩ = some (.bool a0_1) := (blk_cell BK147.out 1).trans rfl
          have hcz34_2 : w5.cell? ⟨gb147, 2, none⟩ = some (.slice A0_2 l0_2.length c0_2) := (blk_cell BK147.out 2).trans rfl
          have hcz34_3 : w5.cell? ⟨gb147, 3, none⟩ = some (.string a0_3) := (blk_cell BK147.out 3).trans rfl
          have hcz34_4 : w5.cell? ⟨gb147, 4, none⟩ = some (.int .i64 a0_4) := (blk_cell BK147.out 4).trans rfl
          have hcz34_5 : w5.cell? ⟨gb147, 5, none⟩ = some (.int .i64 a0_5) := (blk_cell BK147.out 5).trans rfl
          have hcz34_6 : w5.cell? ⟨gb147, 6, none⟩ = some (.bool a0_6) := (blk_cell BK147.out 6).trans rfl
          have hcz34_7 : w5.cell? ⟨gb147, 7, none⟩ = some (.bool a0_7) := (blk_cell BK147.out 7).trans rfl
          have hcz34_8 : w5.cell? ⟨gb147, 8, none⟩ = some (.slice A0_8 l0_8.length c0_8) := (blk_cell BK147.out 8).trans rfl
          have hfz34_0 := blk_frozen BK147.out 0
          have hfz34_1 := blk_frozen BK147.out 1
          have hfz34_2 := blk_frozen BK147.out 2
          have hfz34_3 := blk_frozen BK147.out 3
          have hfz34_4 := blk_frozen BK147.out 4
          have hfz34_5 := blk_frozen BK147.out 5
          have hfz34_6 := blk_frozen BK147.out 6
          have hfz34_7 := blk_frozen BK147.out 7
          have hfz34_8 := blk_frozen BK147.out 8
          have hcz35_0 : w5.cell? ⟨gb148, 0, none⟩ = some (.int .i64 a1_0) := (blk_cell BK148.out 0).trans rfl
          have hcz35_1 : w5.cell? ⟨gb148, 1, none⟩ = some (.bool a1_1) := (blk_cell BK148.out 1).trans rfl
          have hcz35_2 : w5.cell? ⟨gb148, 2, none⟩ = some (.slice A1_2 l1_2.length c1_2) := (blk_cell BK148.out 2).trans rfl
          have hcz35_3 : w5.cell? ⟨gb148, 3, none⟩ = some (.string a1_3) := (blk_cell BK148.out 3).trans rfl
          have hcz35_4 : w5.cell? ⟨gb148, 4, none⟩ = some (.int .i64 a1_4) := (blk_cell BK148.out 4).trans rfl
          have hcz35_5 : w5.cell? ⟨gb148, 5, none⟩ = some (.int .i64 a1_5) := (blk_cell BK148.out 5).trans rfl
          have hcz35_6 : w5.cell? ⟨gb148, 6, none⟩ = some (.bool a1_6) := (blk_cell BK148.out 6).trans rfl
          have hcz35_7 : w5.cell? ⟨gb148, 7, none⟩ = some (.bool a1_7) := (blk_cell BK148.out 7).trans rfl
          have hcz35_8 : w5.cell? ⟨gb148, 8, none⟩ = some (.slice A1_8 l1_8.length c1_8) := (blk_cell BK148.out 8).trans rfl
          have hfz35_0 := blk_frozen BK148.out 0
          have hfz35_1 := blk_frozen BK148.out 1
          have hfz35_2 := blk_frozen BK148.out 2
          have hfz35_3 := blk_frozen BK148.out 3
          have hfz35_4 := blk_frozen BK148.out 4
          have hfz35_5 := blk_frozen BK148.out 5
          have hfz35_6 := blk_frozen BK148.out 6
          have hfz35_7 := blk_frozen BK148.out 7
          have hfz35_8 := blk_frozen BK148.out 8
          go_wp2
          go_meet
          case rel => exact ⟨_, (true), (by first | rfl | (simp; done) | (simp [*]; done)), H', ⟨by first | omega | exact Nat.le_refl _⟩, ⟨by (with_reducible repeat (first | refine blk_drewN ?_ _ | refine blk_drew ?_ | refine blk_alloc ?_ _)); exact BK147.out⟩, ⟨by (with_reducible repeat (first | refine blk_drewN ?_ _ | refine blk_drew ?_ | refine blk_alloc ?_ _)); exact BK148.out⟩, ⟨by repeat (first | (with_reducible first | exact HB.out | apply below_alloc | apply pw_below_drewN | apply below_drew1 | refine below_set ?_ GE147.out | refine below_set ?_ GE148.out) | exact HB.out)⟩⟩
      · rw [if_neg c7] at H
        have c7b0 : (a0_3.toList == a1_3.toList) = false := beq_eq_false_iff_ne.mpr c7
        have c7b1 : (a0_3.toList != a1_3.toList) = true := bne_iff_ne.mpr c7
        have H' := Aside0.mk H
        clear H
        have hnb36 := NB147_148.out
        have hnc36 := NB148_147.out
        have hcz37_0 : w5.cell? ⟨gb147, 0, none⟩ = some (.int .i64 a0_0) := (blk_cell BK147.out 0).trans rfl
        have hcz37_1 : w5.cell? ⟨gb147, 1, none⟩ = some (.bool a0_1) := (blk_cell BK147.out 1).trans rfl
        have hcz37_2 : w5.cell? ⟨gb147, 2, none⟩ = some (.slice A0_2 l0_2.length c0_2) := (blk_cell BK147.out 2).trans rfl
        have hcz37_3 : w5.cell? ⟨gb147, 3, none⟩ = some (.string a0_3) := (blk_cell BK147.out 3).trans rfl
        have hcz37_4 : w5.cell? ⟨gb147, 4, none⟩ = some (.int .i64 a0_4) := (blk_cell BK147.out 4).trans rfl
        have hcz37_5 : w5.cell? ⟨gb147, 5, none⟩ = some (.int .i64 a0_5) := (blk_cell BK147.out 5).trans rfl
        have hcz37_6 : w5.cell? ⟨gb147, 6, none⟩ = some (.bool a0_6) := (blk_cell BK147.out 6).trans rfl
        have hcz37_7 : w5.cell? ⟨gb147, 7, none⟩ = some (.bool a0_7) := (blk_cell BK147.out 7).trans rfl
        have hcz37_8 : w5.cell? ⟨gb147, 8, none⟩ = some (.slice A0_8 l0_8.length c0_8) := (blk_cell BK147.out 8).trans rfl
        have hfz37_0 := blk_frozen BK147.out 0
        have hfz37_1 := blk_frozen BK147.out 1
        have hfz37_2 := blk_frozen BK147.out 2
        have hfz37_3 := blk_frozen BK147.out 3
        have hfz37_4 := blk_frozen BK147.out 4
        have hfz37_5 := blk_frozen BK147.out 5
        have hfz37_6 := blk_frozen BK147.out 6
        have hfz37_7 := blk_frozen BK147.out 7
        have hfz37_8 := blk_frozen BK147.out 8
        have hcz38_0 : w5.cell? ⟨gb148, 0, none⟩ = some (.int .i64 a1_0) := (blk_cell BK148.out 0).trans rfl
        have hcz38_1 : w5.cell? ⟨gb148, 1, none⟩ = some (.bool a1_1) := (blk_cell BK148.out 1).trans rfl
        have hcz38_2 : w5.cell? ⟨gb148, 2, none⟩ = some (.slice A1_2 l1_2.length c1_2) := (blk_cell BK148.out 2).trans rfl
        have hcz38_3 : w5.cell? ⟨gb148, 3, none⟩ = some (.string a1_3) := (blk_cell BK148.out 3).trans rfl
        have hcz38_4 : w5.cell? ⟨gb148, 4, none⟩ = some (.int .i64 a1_4) := (blk_cell BK148.out 4).trans rfl
        have hcz38_5 : w5.cell? ⟨gb148, 5, none⟩ = some (.int .i64 a1_5) := (blk_cell BK148.out 5).trans rfl
        have hcz38_6 : w5.cell? ⟨gb148, 6, none⟩ = some (.bool a1_6) := (blk_cell BK148.out 6).trans rfl
        have hcz38_7 : w5.cell? ⟨gb148, 7, none⟩ = some (.bool a1_7) := (blk_cell BK148.out 7).trans rfl
        have hcz38_8 : w5.cell? ⟨gb148, 8, none⟩ = some (.slice A1_8 l1_8.length c1_8) := (blk_cell BK148.out 8).trans rfl
        have hfz38_0 := blk_frozen BK148.out 0
        have hfz38_1 := blk_frozen BK148.out 1
        have hfz38_2 := blk_frozen BK148.out 2
        have hfz38_3 := blk_frozen BK148.out 3
        have hfz38_4 := blk_frozen BK148.out 4
        have hfz38_5 := blk_frozen BK148.out 5
        have hfz38_6 := blk_frozen BK148.out 6
        have hfz38_7 := blk_frozen BK148.out 7
        have hfz38_8 := blk_frozen BK148.out 8
        go_wp2
        go_meet
        case rel => exact ⟨_, (true), (by first | rfl | (simp; done) | (simp [*]; done)), H', ⟨by first | omega | exact Nat.le_refl _⟩, ⟨by (with_reducible repeat (first | refine blk_drewN ?_ _ | refine blk_drew ?_ | refine blk_alloc ?_ _)); exact BK147.out⟩, ⟨by (with_reducible repeat (first | refine blk_drewN ?_ _ | refine blk_drew ?_ | refine blk_alloc ?_ _)); exact BK148.out⟩, ⟨by repeat (first | (with_reducible first | exact HB.out | apply below_alloc | apply pw_below_drewN | apply below_drew1 | refine below_set ?_ GE147.out | refine below_set ?_ GE148.out) | exact HB.out)⟩⟩
    · rw [if_neg c6] at H
      have c6b0 : (a0_0 == a1_0) = false := beq_eq_false_iff_ne.mpr c6
      have c6b1 : (a0_0 != a1_0) = true := bne_iff_ne.mpr c6
      (first | rw [c6b0] | (simp only [i64_w, i32_w]; rw [c6b0]) | skip)
      have H' := Aside0.mk H
      clear H
      have hnb39 := NB147_148.out
      have hnc39 := NB148_147.out
      have hcz40_0 : w5.cell? ⟨gb147, 0, none⟩ = some (.int .i64 a0_0) := (blk_cell BK147.out 0).trans rfl
      have hcz40_1 : w5.cell? ⟨gb147, 1, none⟩ = some (.bool a0_1) := (blk_cell BK147.out 1).trans rfl
      have hcz40_2 : w5.cell? ⟨gb147, 2, none⟩ = some (.slice A0_2 l0_2.length c0_2) := (blk_cell BK147.out 2).trans rfl
      have hcz40_3 : w5.cell? ⟨gb147, 3, none⟩ = some (.string a0_3) := (blk_cell BK147.out 3).trans rfl
      have hcz40_4 : w5.cell? ⟨gb147, 4, none⟩ = some (.int .i64 a0_4) := (blk_cell BK147.out 4).trans rfl
      have hcz40_5 : w5.cell? ⟨gb147, 5, none⟩ = some (.int .i64 a0_5) := (blk_cell BK147.out 5).trans rfl
      have hcz40_6 : w5.cell? ⟨gb147, 6, none⟩ = some (.bool a0_6) := (blk_cell BK147.out 6).trans rfl
      have hcz40_7 : w5.cell? ⟨gb147, 7, none⟩ = some (.bool a0_7) := (blk_cell BK147.out 7).trans rfl
      have hcz40_8 : w5.cell? ⟨gb147, 8, none⟩ = some (.slice A0_8 l0_8.length c0_8) := (blk_cell BK147.out 8).trans rfl
      have hfz40_0 := blk_frozen BK147.out 0
      have hfz40_1 := blk_frozen BK147.out 1
      have hfz40_2 := blk_frozen BK147.out 2
      have hfz40_3 := blk_frozen BK147.out 3
      have hfz40_4 := blk_frozen BK147.out 4
      have hfz40_5 := blk_frozen BK147.out 5
      have hfz40_6 := blk_frozen BK147.out 6
      have hfz40_7 := blk_frozen BK147.out 7
      have hfz40_8 := blk_frozen BK147.out 8
      have hcz41_0 : w5.cell? ⟨gb148, 0, none⟩ = some (.int .i64 a1_0) := (blk_cell BK148.out 0).trans rfl
      have hcz41_1 : w5.cell? ⟨gb148, 1, none⟩ = some (.bool a1_1) := (blk_cell BK148.out 1).trans rfl
      have hcz41_2 : w5.cell? ⟨gb148, 2, none⟩ = some (.slice A1_2 l1_2.length c1_2) := (blk_cell BK148.out 2).trans rfl
      have hcz41_3 : w5.cell? ⟨gb148, 3, none⟩ = some (.string a1_3) := (blk_cell BK148.out 3).trans rfl
      have hcz41_4 : w5.cell? ⟨gb148, 4, none⟩ = some (.int .i64 a1_4) := (blk_cell BK148.out 4).trans rfl
      have hcz41_5 : w5.cell? ⟨gb148, 5, none⟩ = some (.int .i64 a1_5) := (blk_cell BK148.out 5).trans rfl
      have hcz41_6 : w5.cell? ⟨gb148, 6, none⟩ = some (.bool a1_6) := (blk_cell BK148.out 6).trans rfl
      have hcz41_7 : w5.cell? ⟨gb148, 7, none⟩ = some (.bool a1_7) := (blk_cell BK148.out 7).trans rfl
      have hcz41_8 : w5.cell? ⟨gb148, 8, none⟩ = some (.slice A1_8 l1_8.length c1_8) := (blk_cell BK148.out 8).trans rfl
      have hfz41_0 := blk_frozen BK148.out 0
      have hfz41_1 := blk_frozen BK148.out 1
      have hfz41_2 := blk_frozen BK148.out 2
      have hfz41_3 := blk_frozen BK148.out 3
      have hfz41_4 := blk_frozen BK148.out 4
      have hfz41_5 := blk_frozen BK148.out 5
      have hfz41_6 := blk_frozen BK148.out 6
      have hfz41_7 := blk_frozen BK148.out 7
      have hfz41_8 := blk_frozen BK148.out 8
      go_wp2
      go_meet
      case rel => exact ⟨_, (true), (by first | rfl | (simp; done) | (simp [*]; done)), H', ⟨by first | omega | exact Nat.le_refl _⟩, ⟨by (with_reducible repeat (first | refine blk_drewN ?_ _ | refine blk_drew ?_ | refine blk_alloc ?_ _)); exact BK147.out⟩, ⟨by (with_reducible repeat (first | refine blk_drewN ?_ _ | refine blk_drew ?_ | refine blk_alloc ?_ _)); exact BK148.out⟩, ⟨by repeat (first | (with_reducible first | exact HB.out | apply below_alloc | apply pw_below_drewN | apply below_drew1 | refine below_set ?_ GE147.out | refine below_set ?_ GE148.out) | exact HB.out)⟩⟩
  case rest =>
    clear HC3
    try clear c1
    try clear c2
    try clear p2
    try clear c3
    try clear c6
    try clear c6b0
    try clear c6b1
    try clear c7
    try clear c7b0
    try clear c7b1
    try clear c8
    try clear c8b0
    try clear c8b1
    try clear c9
    try clear c9b0
    try clear c9b1
    try clear c10
    try clear c10b0
    try clear c10b1
    try clear c10b2
    try clear c11
    try clear c14
    try clear c14b0
    try clear c14b1
    try clear c14b2
    try clear c15
    try clear c19
    try clear c20
    try clear c26
    try clear c30
    try clear c33
    try clear c36
    try clear c39
    try clear hcz12_0
    try clear hcz12_1
    try clear hcz12_2
    try clear hcz12_3
    try clear hcz12_4
    try clear hcz12_5
    try clear hcz12_6
    try clear hcz12_7
    try clear hcz12_8
    try clear hcz13_0
    try clear hcz13_1
    try clear hcz13_2
    try clear hcz13_3
    try clear hcz13_4
    try clear hcz13_5
    try clear hcz13_6
    try clear hcz13_7
    try clear hcz13_8
    try clear hcz16_0
    try clear hcz16_1
    try clear hcz16_2
    try clear hcz16_3
    try clear hcz16_4
    try clear hcz16_5
    try clear hcz16_6
    try clear hcz16_7
    try clear hcz16_8
    try clear hcz17_0
    try clear hcz17_1
    try clear hcz17_2
    try clear hcz17_3
    try clear hcz17_4
    try clear hcz17_5
    try clear hcz17_6
    try clear hcz17_7
    try clear hcz17_8
    try clear hcz21_0
    try clear hcz21_1
    try clear hcz21_2
    try clear hcz21_3
    try clear hcz21_4
    try clear hcz21_5
    try clear hcz21_6
    try clear hcz21_7
    try clear hcz21_8
    try clear hcz22_0
    try clear hcz22_1
    try clear hcz22_2
    try clear hcz22_3
    try clear hcz22_4
    try clear hcz22_5
    try clear hcz22_6
    try clear hcz22_7
    try clear hcz22_8
    try clear hcz24_0
    try clear hcz24_1
    try clear hcz24_2
    try clear hcz24_3
    try clear hcz24_4
    try clear hcz24_5
    try clear hcz24_6
    try clear hcz24_7
    try clear hcz24_8
    try clear hcz25_0
    try clear hcz25_1
    try clear hcz25_2
    try clear hcz25_3
    try clear hcz25_4
    try clear hcz25_5
    try clear hcz25_6
    try clear hcz25_7
    try clear hcz25_8
    try clear hcz27_0
    try clear hcz27_1
    try clear hcz27_2
    try clear hcz27_3
    try clear hcz27_4
    try clear hcz27_5
    try clear hcz27_6
    try clear hcz27_7
    try clear hcz27_8
    try clear hcz28_0
    try clear hcz28_1
    try clear hcz28_2
    try clear hcz28_3
    try clear hcz28_4
    try clear hcz28_5
    try clear hcz28_6
    try clear hcz28_7
    try clear hcz28_8
    try clear hcz31_0
    try clear hcz31_1
    try clear hcz31_2
    try clear hcz31_3
    try clear hcz31_4
    try clear hcz31_5
    try clear hcz31_6
    try clear hcz31_7
    try clear hcz31_8
    try clear hcz32_0
    try clear hcz32_1
    try clear hcz32_2
    try clear hcz32_3
    try clear hcz32_4
    try clear hcz32_5
    try clear hcz32_6
    try clear hcz32_7
    try clear hcz32_8
    try clear hcz34_0
    try clear hcz34_1
    try clear hcz34_2
    try clear hcz34_3
    try clear hcz34_4
    try clear hcz34_5
    try clear hcz34_6
    try clear hcz34_7
    try clear hcz34_8
    try clear hcz35_0
    try clear hcz35_1
    try clear hcz35_2
    try clear hcz35_3
    try clear hcz35_4
    try clear hcz35_5
    try clear hcz35_6
    try clear hcz35_7
    try clear hcz35_8
    try clear hcz37_0
    try clear hcz37_1
    try clear hcz37_2
    try clear hcz37_3
    try clear hcz37_4
    try clear hcz37_5
    try clear hcz37_6
    try clear hcz37_7
    try clear hcz37_8
    try clear hcz38_0
    try clear hcz38_1
    try clear hcz38_2
    try clear hcz38_3
    try clear hcz38_4
    try clear hcz38_5
    try clear hcz38_6
    try clear hcz38_7
    try clear hcz38_8
    try clear hcz40_0
    try clear hcz40_1
    try clear hcz40_2
    try clear hcz40_3
    try clear hcz40_4
    try clear hcz40_5
    try clear hcz40_6
    try clear hcz40_7
    try clear hcz40_8
    try clear hcz41_0
    try clear hcz41_1
    try clear hcz41_2
    try clear hcz41_3
    try clear hcz41_4
    try clear hcz41_5
    try clear hcz41_6
    try clear hcz41_7
    try clear hcz41_8
    try clear hfz12_0
    try clear hfz12_1
    try clear hfz12_2
    try clear hfz12_3
    try clear hfz12_4
    try clear hfz12_5
    try clear hfz12_6
    try clear hfz12_7
    try clear hfz12_8
    try clear hfz13_0
    try clear hfz13_1
    try clear hfz13_2
    try clear hfz13_3
    try clear hfz13_4
    try clear hfz13_5
    try clear hfz13_6
    try clear hfz13_7
    try clear hfz13_8
    try clear hfz16_0
    try clear hfz16_1
    try clear hfz16_2
    try clear hfz16_3
    try clear hfz16_4
    try clear hfz16_5
    try clear hfz16_6
    try clear hfz16_7
    try clear hfz16_8
    try clear hfz17_0
    try clear hfz17_1
    try clear hfz17_2
    try clear hfz17_3
    try clear hfz17_4
    try clear hfz17_5
    try clear hfz17_6
    try clear hfz17_7
    try clear hfz17_8
    try clear hfz21_0
    try clear hfz21_1
    try clear hfz21_2
    try clear hfz21_3
    try clear hfz21_4
    try clear hfz21_5
    try clear hfz21_6
    try clear hfz21_7
    try clear hfz21_8
    try clear hfz22_0
    try clear hfz22_1
    try clear hfz22_2
    try clear hfz22_3
    try clear hfz22_4
    try clear hfz22_5
    try clear hfz22_6
    try clear hfz22_7
    try clear hfz22_8
    try clear hfz24_0
    try clear hfz24_1
    try clear hfz24_2
    try clear hfz24_3
    try clear hfz24_4
    try clear hfz24_5
    try clear hfz24_6
    try clear hfz24_7
    try clear hfz24_8
    try clear hfz25_0
    try clear hfz25_1
    try clear hfz25_2
    try clear hfz25_3
    try clear hfz25_4
    try clear hfz25_5
    try clear hfz25_6
    try clear hfz25_7
    try clear hfz25_8
    try clear hfz27_0
    try clear hfz27_1
    try clear hfz27_2
    try clear hfz27_3
    try clear hfz27_4
    try clear hfz27_5
    try clear hfz27_6
    try clear hfz27_7
    try clear hfz27_8
    try clear hfz28_0
    try clear hfz28_1
    try clear hfz28_2
    try clear hfz28_3
    try clear hfz28_4
    try clear hfz28_5
    try clear hfz28_6
    try clear hfz28_7
    try clear hfz28_8
    try clear hfz31_0
    try clear hfz31_1
    try clear hfz31_2
    try clear hfz31_3
    try clear hfz31_4
    try clear hfz31_5
    try clear hfz31_6
    try clear hfz31_7
    try clear hfz31_8
    try clear hfz32_0
    try clear hfz32_1
    try clear hfz32_2
    try clear hfz32_3
    try clear hfz32_4
    try clear hfz32_5
    try clear hfz32_6
    try clear hfz32_7
    try clear hfz32_8
    try clear hfz34_0
    try clear hfz34_1
    try clear hfz34_2
    try clear hfz34_3
    try clear hfz34_4
    try clear hfz34_5
    try clear hfz34_6
    try clear hfz34_7
    try clear hfz34_8
    try clear hfz35_0
    try clear hfz35_1
    try clear hfz35_2
    try clear hfz35_3
    try clear hfz35_4
    try clear hfz35_5
    try clear hfz35_6
    try clear hfz35_7
    try clear hfz35_8
    try clear hfz37_0
    try clear hfz37_1
    try clear hfz37_2
    try clear hfz37_3
    try clear hfz37_4
    try clear hfz37_5
    try clear hfz37_6
    try clear hfz37_7
    try clear hfz37_8
    try clear hfz38_0
    try clear hfz38_1
    try clear hfz38_2
    try clear hfz38_3
    try clear hfz38_4
    try clear hfz38_5
    try clear hfz38_6
    try clear hfz38_7
    try clear hfz38_8
    try clear hfz40_0
    try clear hfz40_1
    try clear hfz40_2
    try clear hfz40_3
    try clear hfz40_4
    try clear hfz40_5
    try clear hfz40_6
    try clear hfz40_7
    try clear hfz40_8
    try clear hfz41_0
    try clear hfz41_1
    try clear hfz41_2
    try clear hfz41_3
    try clear hfz41_4
    try clear hfz41_5
    try clear hfz41_6
    try clear hfz41_7
    try clear hfz41_8
    obtain ⟨kq, x62_2, rfl, HA, HJ2, BK147, BK148, HB⟩ := hcut
    cases kq with
    | zero => exact absurd HA.out (by simp [cylinderref34_Same.j0])
    | succ kj2 =>
      have H := HA.out
      clear HA
      simp only [cylinderref34_Same.j0] at H
      by_cases c42 : x62_2 = true
      · subst c42
        have H1 : (some false) = some r := by rw [if_pos rfl] at H; exact H
        clear H
        have H := H1
        clear H1
        obtain rfl := Option.some.inj H
        go_wp2
        go_ret
        exact ⟨by first | rfl | (simp [errW_none, errW_some] <;> rfl) | (simp [*, errW_none, errW_some] <;> rfl), by repeat (first | (with_reducible first | exact HB.out | apply below_alloc | apply pw_below_drewN | apply below_drew1 | refine below_set ?_ GE147.out | refine below_set ?_ GE148.out) | exact HB.out)⟩
      · replace c42 := Bool.eq_false_iff.mpr c42
        subst c42
        have H1 : (cylinderref34_Same.l0 kj2 (l0_8.length : Int) 0 a0_0 a0_1 l0_2 a0_3 a0_4 a0_5 a0_6 a0_7 l0_8 a1_0 a1_1 l1_2 a1_3 a1_4 a1_5 a1_6 a1_7 l1_8) = some r := by rw [if_neg (show ¬ (false = true) by decide)] at H; exact H
        clear H
        have H := H1
        clear H1
        have H' := Aside0.mk H
        clear H
        have hnb43 := NB147_148.out
        have hnc43 := NB148_147.out
        have hcz44_0 : wc.cell? ⟨gb147, 0, none⟩ = some (.int .i64 a0_0) := (blk_cell BK147.out 0).trans rfl
        have hcz44_1 : wc.cell? ⟨gb147, 1, none⟩ = some (.bool a0_1) := (blk_cell BK147.out 1).trans rfl
        have hcz44_2 : wc.cell? ⟨gb147, 2, none⟩ = some (.slice A0_2 l0_2.length c0_2) := (blk_cell BK147.out 2).trans rfl
        have hcz44_3 : wc.cell? ⟨gb147, 3, none⟩ = some (.string a0_3) := (blk_cell BK147.out 3).trans rfl
        have hcz44_4 : wc.cell? ⟨gb147, 4, none⟩ = some (.int .i64 a0_4) := (blk_cell BK147.out 4).trans rfl
        have hcz44_5 : wc.cell? ⟨gb147, 5, none⟩ = some (.int .i64 a0_5) := (blk_cell BK147.out 5).trans rfl
        have hcz44_6 : wc.cell? ⟨gb147, 6, none⟩ = some (.bool a0_6) := (blk_cell BK147.out 6).trans rfl
        have hcz44_7 : wc.cell? ⟨gb147, 7, none⟩ = some (.bool a0_7) := (blk_cell BK147.out 7).trans rfl
        have hcz44_8 : wc.cell? ⟨gb147, 8, none⟩ = some (.slice A0_8 l0_8.length c0_8) := (blk_cell BK147.out 8).trans rfl
        have hfz44_0 := blk_frozen BK147.out 0
        have hfz44_1 := blk_frozen BK147.out 1
        have hfz44_2 := blk_frozen BK147.out 2
        have hfz44_3 := blk_frozen BK147.out 3
        have hfz44_4 := blk_frozen BK147.out 4
        have hfz44_5 := blk_frozen BK147.out 5
        have hfz44_6 := blk_frozen BK147.out 6
        have hfz44_7 := blk_frozen BK147.out 7
        have hfz44_8 := blk_frozen BK147.out 8
        go_wp2
        go_loopg [66] kj2 (fun kq v66 w' => ∃ (x66_2 : Int), v66 = .int .i64 x66_2 ∧ Aside0 (cylinderref34_Same.l0 kq (l0_8.length : Int) x66_2 a0_0 a0_1 l0_2 a0_3 a0_4 a0_5 a0_6 a0_7 l0_8 a1_0 a1_1 l1_2 a1_3 a1_4 a1_5 a1_6 a1_7 l1_8 = some r) ∧ Aside0 (kq ≤ kj2) ∧ Aside0 (w'.heap[gb147]? = some (.cells #[.int .i64 a0_0, .bool a0_1, (.slice A0_2 l0_2.length c0_2), .string a0_3, .int .i64 a0_4, .int .i64 a0_5, .bool a0_6, .bool a0_7, (.slice A0_8 l0_8.length c0_8)] 29 (0, 0))) ∧ Aside0 (w'.heap[gb148]? = some (.cells #[.int .i64 a1_0, .bool a1_1, (.slice A1_2 l1_2.length c1_2), .string a1_3, .int .i64 a1_4, .int .i64 a1_5, .bool a1_6, .bool a1_7, (.slice A1_8 l1_8.length c1_8)] 29 (0, 0))) ∧ Aside0 (Below w.heap.size w w'))
        case atStart => exact ⟨(0), (by first | rfl | (simp; done) | (simp [*]; done)), H', ⟨Nat.le_refl _⟩, ⟨by (with_reducible repeat (first | refine blk_drewN ?_ _ | refine blk_drew ?_ | refine blk_alloc ?_ _)); exact BK147.out⟩, ⟨by (with_reducible repeat (first | refine blk_drewN ?_ _ | refine blk_drew ?_ | refine blk_alloc ?_ _)); exact BK148.out⟩, ⟨by repeat (first | (with_reducible first | exact HB.out | apply below_alloc | apply pw_below_drewN | apply below_drew1 | refine below_set ?_ GE147.out | refine below_set ?_ GE148.out) | exact HB.out)⟩⟩
        case round =>
          clear H'
          try clear c1
          try clear c2
          try clear p2
          try clear c3
          try clear c4
          try clear c6
          try clear c6b0
          try clear c6b1
          try clear c7
          try clear c7b0
          try clear c7b1
          try clear c8
          try clear c8b0
          try clear c8b1
          try clear c9
          try clear c9b0
          try clear c9b1
          try clear c10
          try clear c10b0
          try clear c10b1
          try clear c10b2
          try clear c11
          try clear c14
          try clear c14b0
          try clear c14b1
          try clear c14b2
          try clear c15
          try clear c19
          try clear c20
          try clear c26
          try clear c30
          try clear c33
          try clear c36
          try clear c39
          try clear c42
          try clear c43
          try clear hcz12_0
          try clear hcz12_1
          try clear hcz12_2
          try clear hcz12_3
          try clear hcz12_4
          try clear hcz12_5
          try clear hcz12_6
          try clear hcz12_7
          try clear hcz12_8
          try clear hcz13_0
          try clear hcz13_1
          try clear hcz13_2
          try clear hcz13_3
          try clear hcz13_4
          try clear hcz13_5
          try clear hcz13_6
          try clear hcz13_7
          try clear hcz13_8
          try clear hcz16_0
          try clear hcz16_1
          try clear hcz16_2
          try clear hcz16_3
          try clear hcz16_4
          try clear hcz16_5
          try clear hcz16_6
          try clear hcz16_7
          try clear hcz16_8
          try clear hcz17_0
          try clear hcz17_1
          try clear hcz17_2
          try clear hcz17_3
          try clear hcz17_4
          try clear hcz17_5
          try clear hcz17_6
          try clear hcz17_7
          try clear hcz17_8
          try clear hcz21_0
          try clear hcz21_1
          try clear hcz21_2
          try clear hcz21_3
          try clear hcz21_4
          try clear hcz21_5
          try clear hcz21_6
          try clear hcz21_7
          try clear hcz21_8
          try clear hcz22_0
          try clear hcz22_1
          try clear hcz22_2
          try clear hcz22_3
          try clear hcz22_4
          try clear hcz22_5
          try clear hcz22_6
          try clear hcz22_7
          try clear hcz22_8
          try clear hcz24_0
          try clear hcz24_1
          try clear hcz24_2
          try clear hcz24_3
          try clear hcz24_4
          try clear hcz24_5
          try clear hcz24_6
          try clear hcz24_7
          try clear hcz24_8
          try clear hcz25_0
          try clear hcz25_1
          try clear hcz25_2
          try clear hcz25_3
          try clear hcz25_4
          try clear hcz25_5
          try clear hcz25_6
          try clear hcz25_7
          try clear hcz25_8
          try clear hcz27_0
          try clear hcz27_1
          try clear hcz27_2
          try clear hcz27_3
          try clear hcz27_4
          try clear hcz27_5
          try clear hcz27_6
          try clear hcz27_7
          try clear hcz27_8
          try clear hcz28_0
          try clear hcz28_1
          try clear hcz28_2
          try clear hcz28_3
          try clear hcz28_4
          try clear hcz28_5
          try clear hcz28_6
          try clear hcz28_7
          try clear hcz28_8
          try clear hcz31_0
          try clear hcz31_1
          try clear hcz31_2
          try clear hcz31_3
          try clear hcz31_4
          try clear hcz31_5
          try clear hcz31_6
          try clear hcz31_7
          try clear hcz31_8
          try clear hcz32_0
          try clear hcz32_1
          try clear hcz32_2
          try clear hcz32_3
          try clear hcz32_4
          try clear hcz32_5
          try clear hcz32_6
          try clear hcz32_7
          try clear hcz32_8
          try clear hcz34_0
          try clear hcz34_1
          try clear hcz34_2
          try clear hcz34_3
          try clear hcz34_4
          try clear hcz34_5
          try clear hcz34_6
          try clear hcz34_7
          try clear hcz34_8
          try clear hcz35_0
          try clear hcz35_1
          try clear hcz35_2
          try clear hcz35_3
          try clear hcz35_4
          try clear hcz35_5
          try clear hcz35_6
          try clear hcz35_7
          try clear hcz35_8
          try clear hcz37_0
          try clear hcz37_1
          try clear hcz37_2
          try clear hcz37_3
          try clear hcz37_4
          try clear hcz37_5
          try clear hcz37_6
          try clear hcz37_7
          try clear hcz37_8
          try clear hcz38_0
          try clear hcz38_1
          try clear hcz38_2
          try clear hcz38_3
          try clear hcz38_4
          try clear hcz38_5
          try clear hcz38_6
          try clear hcz38_7
          try clear hcz38_8
          try clear hcz40_0
          try clear hcz40_1
          try clear hcz40_2
          try clear hcz40_3
          try clear hcz40_4
          try clear hcz40_5
          try clear hcz40_6
          try clear hcz40_7
          try clear hcz40_8
          try clear hcz41_0
          try clear hcz41_1
          try clear hcz41_2
          try clear hcz41_3
          try clear hcz41_4
          try clear hcz41_5
          try clear hcz41_6
          try clear hcz41_7
          try clear hcz41_8
          try clear hcz44_0
          try clear hcz44_1
          try clear hcz44_2
          try clear hcz44_3
          try clear hcz44_4
          try clear hcz44_5
          try clear hcz44_6
          try clear hcz44_7
          try clear hcz44_8
          try clear hfz12_0
          try clear hfz12_1
          try clear hfz12_2
          try clear hfz12_3
          try clear hfz12_4
          try clear hfz12_5
          try clear hfz12_6
          try clear hfz12_7
          try clear hfz12_8
          try clear hfz13_0
          try clear hfz13_1
          try clear hfz13_2
          try clear hfz13_3
          try clear hfz13_4
          try clear hfz13_5
          try clear hfz13_6
          try clear hfz13_7
          try clear hfz13_8
          try clear hfz16_0
          try clear hfz16_1
          try clear hfz16_2
          try clear hfz16_3
          try clear hfz16_4
          try clear hfz16_5
          try clear hfz16_6
          try clear hfz16_7
          try clear hfz16_8
          try clear hfz17_0
          try clear hfz17_1
          try clear hfz17_2
          try clear hfz17_3
          try clear hfz17_4
          try clear hfz17_5
          try clear hfz17_6
          try clear hfz17_7
          try clear hfz17_8
          try clear hfz21_0
          try clear hfz21_1
          try clear hfz21_2
          try clear hfz21_3
          try clear hfz21_4
          try clear hfz21_5
          try clear hfz21_6
          try clear hfz21_7
          try clear hfz21_8
          try clear hfz22_0
          try clear hfz22_1
          try clear hfz22_2
          try clear hfz22_3
          try clear hfz22_4
          try clear hfz22_5
          try clear hfz22_6
          try clear hfz22_7
          try clear hfz22_8
          try clear hfz24_0
          try clear hfz24_1
          try clear hfz24_2
          try clear hfz24_3
          try clear hfz24_4
          try clear hfz24_5
          try clear hfz24_6
          try clear hfz24_7
          try clear hfz24_8
          try clear hfz25_0
          try clear hfz25_1
          try clear hfz25_2
          try clear hfz25_3
          try clear hfz25_4
          try clear hfz25_5
          try clear hfz25_6
          try clear hfz25_7
          try clear hfz25_8
          try clear hfz27_0
          try clear hfz27_1
          try clear hfz27_2
          try clear hfz27_3
          try clear hfz27_4
          try clear hfz27_5
          try clear hfz27_6
          try clear hfz27_7
          try clear hfz27_8
          try clear hfz28_0
          try clear hfz28_1
          try clear hfz28_2
          try clear hfz28_3
          try clear hfz28_4
          try clear hfz28_5
          try clear hfz28_6
          try clear hfz28_7
          try clear hfz28_8
          try clear hfz31_0
          try clear hfz31_1
          try clear hfz31_2
          try clear hfz31_3
          try clear hfz31_4
          try clear hfz31_5
          try clear hfz31_6
          try clear hfz31_7
          try clear hfz31_8
          try clear hfz32_0
          try clear hfz32_1
          try clear hfz32_2
          try clear hfz32_3
          try clear hfz32_4
          try clear hfz32_5
          try clear hfz32_6
          try clear hfz32_7
          try clear hfz32_8
          try clear hfz34_0
          try clear hfz34_1
          try clear hfz34_2
          try clear hfz34_3
          try clear hfz34_4
          try clear hfz34_5
          try clear hfz34_6
          try clear hfz34_7
          try clear hfz34_8
          try clear hfz35_0
          try clear hfz35_1
          try clear hfz35_2
          try clear hfz35_3
          try clear hfz35_4
          try clear hfz35_5
          try clear hfz35_6
          try clear hfz35_7
          try clear hfz35_8
          try clear hfz37_0
          try clear hfz37_1
          try clear hfz37_2
          try clear hfz37_3
          try clear hfz37_4
          try clear hfz37_5
          try clear hfz37_6
          try clear hfz37_7
          try clear hfz37_8
          try clear hfz38_0
          try clear hfz38_1
          try clear hfz38_2
          try clear hfz38_3
          try clear hfz38_4
          try clear hfz38_5
          try clear hfz38_6
          try clear hfz38_7
          try clear hfz38_8
          try clear hfz40_0
          try clear hfz40_1
          try clear hfz40_2
          try clear hfz40_3
          try clear hfz40_4
          try clear hfz40_5
          try clear hfz40_6
          try clear hfz40_7
          try clear hfz40_8
          try clear hfz41_0
          try clear hfz41_1
          try clear hfz41_2
          try clear hfz41_3
          try clear hfz41_4
          try clear hfz41_5
          try clear hfz41_6
          try clear hfz41_7
          try clear hfz41_8
          try clear hfz44_0
          try clear hfz44_1
          try clear hfz44_2
          try clear hfz44_3
          try clear hfz44_4
          try clear hfz44_5
          try clear hfz44_6
          try clear hfz44_7
          try clear hfz44_8
          try clear p2
          obtain ⟨x66_2, rfl, HA, HK2, BK147, BK148, HB⟩ := hrel
          cases gk with
          | zero => exact absurd HA.out (by simp [cylinderref34_Same.l0])
          | succ k2 =>
            have H := HA.out
            clear HA
            simp only [cylinderref34_Same.l0] at H
            by_cases c45 : x66_2 < (l0_8.length : Int)
            · rw [if_pos c45] at H
              have c45b0 : decide (x66_2 < (l0_8.length : Int)) = true := decide_eq_true c45
              clear c45
              by_cases c46 : 0 ≤ x66_2
              · rw [if_pos c46] at H
                have c46b0 : decide (0 ≤ x66_2) = true := decide_eq_true c46
                clear c46
                by_cases c47 : x66_2 < (l0_8.length : Int)
                · rw [if_pos c47] at H
                  have c47b0 : decide (x66_2 < (l0_8.length : Int)) = true := decide_eq_true c47
                  clear c47
                  by_cases c48 : x66_2 < (l1_8.length : Int)
                  · rw [if_pos c48] at H
                    have c48b0 : decide (x66_2 < (l1_8.length : Int)) = true := decide_eq_true c48
                    clear c48
                    replace H := Option.bind_eq_some_iff.mp H
                    obtain ⟨t152, A490, H⟩ := H
                    replace H : (if t152 = true then (cylinderref34_Same.l0 k2 (l0_8.length : Int) (wrap64 (x66_2 + 1)) a0_0 a0_1 l0_2 a0_3 a0_4 a0_5 a0_6 a0_7 l0_8 a1_0 a1_1 l1_2 a1_3 a1_4 a1_5 a1_6 a1_7 l1_8) else (some false)) = some r := H
                    have A49 := Aside0.mk A490
                    clear A490
                    by_cases c50 : t152 = true
                    · subst c50
                      have H1 : (cylinderref34_Same.l0 k2 (l0_8.length : Int) (wrap64 (x66_2 + 1)) a0_0 a0_1 l0_2 a0_3 a0_4 a0_5 a0_6 a0_7 l0_8 a1_0 a1_1 l1_2 a1_3 a1_4 a1_5 a1_6 a1_7 l1_8) = some r := by rw [if_pos rfl] at H; exact H
                      clear H
                      have H := H1
                      clear H1
                      have H' := Aside0.mk H
                      clear H
                      try go_wp2
                      have n0_ := Aside0.mk (blk_drew BK147.out)
                      have n1_ := Aside0.mk (blk_drew BK148.out)
                      have n2_ := Aside0.mk (below_drew1 HB.out)
                      clear BK147
                      clear BK148
                      clear HB
                      have BK147 := n0_
                      have BK148 := n1_
                      have HB := n2_
                      clear n0_ n1_ n2_
                      have p150 : 0 ≤ (x66_2 : Int) := of_decide_eq_true (by first | (with_reducible assumption) | assumption)
                      have q150 : x66_2 < (l0_8.length : Int) := of_decide_eq_true (by first | (with_reducible assumption) | assumption)
                      obtain ⟨ad150, A150_2, c150_2, A150_8, c150_8, e150, hx150_0, hx150_1, hx150_2, hx150_3, hx150_4, hx150_5, hx150_6, hx150_7, hx150_8, hl150_2, hi150_2, hl150_8, hi150_8⟩ := at_T29 HR0_8.out x66_2 p150 q150
                      have hw150_8 := hx150_8
                      have hw150_7 := hx150_7
                      have hw150_6 := hx150_6
                      have hw150_5 := hx150_5
                      have hw150_4 := hx150_4
                      have hw150_3 := hx150_3
                      have hw150_2 := hx150_2
                      have hw150_1 := hx150_1
                      have hw150_0 := hx150_0
                      cases e150
                      replace hx150_0 := (HB.out.cell (World.block_lt_of_cell? w _ hx150_0)).trans hx150_0
                      replace hx150_1 := (HB.out.cell (World.block_lt_of_cell? w _ hx150_1)).trans hx150_1
                      replace hx150_2 := (HB.out.cell (World.block_lt_of_cell? w _ hx150_2)).trans hx150_2
                      replace hx150_3 := (HB.out.cell (World.block_lt_of_cell? w _ hx150_3)).trans hx150_3
                      replace hx150_4 := (HB.out.cell (World.block_lt_of_cell? w _ hx150_4)).trans hx150_4
                      replace hx150_5 := (HB.out.cell (World.block_lt_of_cell? w _ hx150_5)).trans hx150_5
                      replace hx150_6 := (HB.out.cell (World.block_lt_of_cell? w _ hx150_6)).trans hx150_6
                      replace hx150_7 := (HB.out.cell (World.block_lt_of_cell? w _ hx150_7)).trans hx150_7
                      replace hx150_8 := (HB.out.cell (World.block_lt_of_cell? w _ hx150_8)).trans hx150_8
                      have HR150_2 := Aside0.mk hi150_2
                      have HC150_2 := Aside0.mk hl150_2
                      clear hi150_2 hl150_2
                      have HR150_8 := Aside0.mk hi150_8
                      have HC150_8 := Aside0.mk hl150_8
                      clear hi150_8 hl150_8
                      replace p150 := eq_true p150
                      replace q150 := eq_true q150
                      have p151 : 0 ≤ (x66_2 : Int) := of_decide_eq_true (by first | (with_reducible assumption) | assumption)
                      have q151 : x66_2 < (l1_8.length : Int) := of_decide_eq_true (by first | (with_reducible assumption) | assumption)
                      obtain ⟨ad151, A151_2, c151_2, A151_8, c151_8, e151, hx151_0, hx151_1, hx151_2, hx151_3, hx151_4, hx151_5, hx151_6, hx151_7, hx151_8, hl151_2, hi151_2, hl151_8, hi151_8⟩ := at_T29 HR1_8.out x66_2 p151 q151
                      have hw151_8 := hx151_8
                      have hw151_7 := hx151_7
                      have hw151_6 := hx151_6
                      have hw151_5 := hx151_5
                      have hw151_4 := hx151_4
                      have hw151_3 := hx151_3
                      have hw151_2 := hx151_2
                      have hw151_1 := hx151_1
                      have hw151_0 := hx151_0
                      cases e151
                      replace hx151_0 := (HB.out.cell (World.block_lt_of_cell? w _ hx151_0)).trans hx151_0
                      replace hx151_1 := (HB.out.cell (World.block_lt_of_cell? w _ hx151_1)).trans hx151_1
                      replace hx151_2 := (HB.out.cell (World.block_lt_of_cell? w _ hx151_2)).trans hx151_2
                      replace hx151_3 := (HB.out.cell (World.block_lt_of_cell? w _ hx151_3)).trans hx151_3
                      replace hx151_4 := (HB.out.cell (World.block_lt_of_cell? w _ hx151_4)).trans hx151_4
                      replace hx151_5 := (HB.out.cell (World.block_lt_of_cell? w _ hx151_5)).trans hx151_5
                      replace hx151_6 := (HB.out.cell (World.block_lt_of_cell? w _ hx151_6)).trans hx151_6
                      replace hx151_7 := (HB.out.cell (World.block_lt_of_cell? w _ hx151_7)).trans hx151_7
                      replace hx151_8 := (HB.out.cell (World.block_lt_of_cell? w _ hx151_8)).trans hx151_8
                      have HR151_2 := Aside0.mk hi151_2
                      have HC151_2 := Aside0.mk hl151_2
                      clear hi151_2 hl151_2
                      have HR151_8 := Aside0.mk hi151_8
                      have HC151_8 := Aside0.mk hl151_8
                      clear hi151_8 hl151_8
                      replace p151 := eq_true p151
                      replace q151 := eq_true q151
                      refine start_ (n := 12) (S := fun w' => w'.cell? ⟨gb147, 0, none⟩ = some (.int .i64 a0_0) ∧ w'.cell? ⟨gb147, 1, none⟩ = some (.bool a0_1) ∧ w'.cell? ⟨gb147, 2, none⟩ = some (.slice A0_2 l0_2.length c0_2) ∧ w'.cell? ⟨gb147, 3, none⟩ = some (.string a0_3) ∧ w'.cell? ⟨gb147, 4, none⟩ = some (.int .i64 a0_4) ∧ w'.cell? ⟨gb147, 5, none⟩ = some (.int .i64 a0_5) ∧ w'.cell? ⟨gb147, 6, none⟩ = some (.bool a0_6) ∧ w'.cell? ⟨gb147, 7, none⟩ = some (.bool a0_7) ∧ w'.cell? ⟨gb147, 8, none⟩ = some (.slice (some ad150) l0_8.length c0_8) ∧ w'.cell? ⟨gb148, 0, none⟩ = some (.int .i64 a1_0) ∧ w'.cell? ⟨gb148, 1, none⟩ = some (.bool a1_1) ∧ w'.cell? ⟨gb148, 2, none⟩ = some (.slice A1_2 l1_2.length c1_2) ∧ w'.cell? ⟨gb148, 3, none⟩ = some (.string a1_3) ∧ w'.cell? ⟨gb148, 4, none⟩ = some (.int .i64 a1_4) ∧ w'.cell? ⟨gb148, 5, none⟩ = some (.int .i64 a1_5) ∧ w'.cell? ⟨gb148, 6, none⟩ = some (.bool a1_6) ∧ w'.cell? ⟨gb148, 7, none⟩ = some (.bool a1_7) ∧ w'.cell? ⟨gb148, 8, none⟩ = some (.slice (some ad151) l1_8.length c1_8) ∧ w'.cell? (ad150.add ((x66_2).toNat * 9)) = some (.int .i64 ((rd_T29 l0_8 x66_2).f0)) ∧ w'.cell? ⟨(ad150.add ((x66_2).toNat * 9)).block, (ad150.add ((x66_2).toNat * 9)).off + 1, none⟩ = some (.bool ((rd_T29 l0_8 x66_2).f1.f0)) ∧ w'.cell? ⟨(ad150.add ((x66_2).toNat * 9)).block, (ad150.add ((x66_2).toNat * 9)).off + 2, none⟩ = some (.slice A150_2 ((rd_T29 l0_8 x66_2).f1.f1).length c150_2) ∧ w'.cell? ⟨(ad150.add ((x66_2).toNat * 9)).block, (ad150.add ((x66_2).toNat * 9)).off + 3, none⟩ = some (.string ((rd_T29 l0_8 x66_2).f2)) ∧ w'.cell? ⟨(ad150.add ((x66_2).toNat * 9)).block, (ad150.add ((x66_2).toNat * 9)).off + 4, none⟩ = some (.int .i64 ((rd_T29 l0_8 x66_2).f3)) ∧ w'.cell? ⟨(ad150.add ((x66_2).toNat * 9)).block, (ad150.add ((x66_2).toNat * 9)).off + 5, none⟩ = some (.int .i64 ((rd_T29 l0_8 x66_2).f4)) ∧ w'.cell? ⟨(ad150.add ((x66_2).toNat * 9)).block, (ad150.add ((x66_2).toNat * 9)).off + 6, none⟩ = some (.bool ((rd_T29 l0_8 x66_2).f5)) ∧ w'.cell? ⟨(ad150.add ((x66_2).toNat * 9)).block, (ad150.add ((x66_2).toNat * 9)).off + 7, none⟩ = some (.bool ((rd_T29 l0_8 x66_2).f6)) ∧ w'.cell? ⟨(ad150.add ((x66_2).toNat * 9)).block, (ad150.add ((x66_2).toNat * 9)).off + 8, none⟩ = some (.slice A150_8 ((rd_T29 l0_8 x66_2).f7).length c150_8) ∧ w'.cell? (ad151.add ((x66_2).toNat * 9)) = some (.int .i64 ((rd_T29 l1_8 x66_2).f0)) ∧ w'.cell? ⟨(ad151.add ((x66_2).toNat * 9)).block, (ad151.add ((x66_2).toNat * 9)).off + 1, none⟩ = some (.bool ((rd_T29 l1_8 x66_2).f1.f0)) ∧ w'.cell? ⟨(ad151.add ((x66_2).toNat * 9)).block, (ad151.add ((x66_2).toNat * 9)).off + 2, none⟩ = some (.slice A151_2 ((rd_T29 l1_8 x66_2).f1.f1).length c151_2) ∧ w'.cell? ⟨(ad151.add ((x66_2).toNat * 9)).block, (ad151.add ((x66_2).toNat * 9)).off + 3, none⟩ = some (.string ((rd_T29 l1_8 x66_2).f2)) ∧ w'.cell? ⟨(ad151.add ((x66_2).toNat * 9)).block, (ad151.add ((x66_2).toNat * 9)).off + 4, none⟩ = some (.int .i64 ((rd_T29 l1_8 x66_2).f3)) ∧ w'.cell? ⟨(ad151.add ((x66_2).toNat * 9)).block, (ad151.add ((x66_2).toNat * 9)).off + 5, none⟩ = some (.int .i64 ((rd_T29 l1_8 x66_2).f4)) ∧ w'.cell? ⟨(ad151.add ((x66_2).toNat * 9)).block, (ad151.add ((x66_2).toNat * 9)).off + 6, none⟩ = some (.bool ((rd_T29 l1_8 x66_2).f5)) ∧ w'.cell? ⟨(ad151.add ((x66_2).toNat * 9)).block, (ad151.add ((x66_2).toNat * 9)).off + 7, none⟩ = some (.bool ((rd_T29 l1_8 x66_2).f6)) ∧ w'.cell? ⟨(ad151.add ((x66_2).toNat * 9)).block, (ad151.add ((x66_2).toNat * 9)).off + 8, none⟩ = some (.slice A151_8 ((rd_T29 l1_8 x66_2).f7).length c151_8)) (ds := []) #[false, false, false, false, false, false, false, false, false, false, false, false] (by kernel_rfl) rfl rfl ⟨(blk_cell BK147.out 0).trans rfl, (blk_cell BK147.out 1).trans rfl, (blk_cell BK147.out 2).trans rfl, (blk_cell BK147.out 3).trans rfl, (blk_cell BK147.out 4).trans rfl, (blk_cell BK147.out 5).trans rfl, (blk_cell BK147.out 6).trans rfl, (blk_cell BK147.out 7).trans rfl, (blk_cell BK147.out 8).trans rfl, (blk_cell BK148.out 0).trans rfl, (blk_cell BK148.out 1).trans rfl, (blk_cell BK148.out 2).trans rfl, (blk_cell BK148.out 3).trans rfl, (blk_cell BK148.out 4).trans rfl, (blk_cell BK148.out 5).trans rfl, (blk_cell BK148.out 6).trans rfl, (blk_cell BK148.out 7).trans rfl, (blk_cell BK148.out 8).trans rfl, ((HB.out.cell (World.block_lt_of_cell? w _ hw150_0)).trans hw150_0), ((HB.out.cell (World.block_lt_of_cell? w _ hw150_1)).trans hw150_1), ((HB.out.cell (World.block_lt_of_cell? w _ hw150_2)).trans hw150_2), ((HB.out.cell (World.block_lt_of_cell? w _ hw150_3)).trans hw150_3), ((HB.out.cell (World.block_lt_of_cell? w _ hw150_4)).trans hw150_4), ((HB.out.cell (World.block_lt_of_cell? w _ hw150_5)).trans hw150_5), ((HB.out.cell (World.block_lt_of_cell? w _ hw150_6)).trans hw150_6), ((HB.out.cell (World.block_lt_of_cell? w _ hw150_7)).trans hw150_7), ((HB.out.cell (World.block_lt_of_cell? w _ hw150_8)).trans hw150_8), ((HB.out.cell (World.block_lt_of_cell? w _ hw151_0)).trans hw151_0), ((HB.out.cell (World.block_lt_of_cell? w _ hw151_1)).trans hw151_1), ((HB.out.cell (World.block_lt_of_cell? w _ hw151_2)).trans hw151_2), ((HB.out.cell (World.block_lt_of_cell? w _ hw151_3)).trans hw151_3), ((HB.out.cell (World.block_lt_of_cell? w _ hw151_4)).trans hw151_4), ((HB.out.cell (World.block_lt_of_cell? w _ hw151_5)).trans hw151_5), ((HB.out.cell (World.block_lt_of_cell? w _ hw151_6)).trans hw151_6), ((HB.out.cell (World.block_lt_of_cell? w _ hw151_7)).trans hw151_7), ((HB.out.cell (World.block_lt_of_cell? w _ hw151_8)).trans hw151_8)⟩ (fun hHeld => ?_); refine with_tabW cylinderref34_Same.tab6 cylinderref34_Same.bits6 (fun HT_ HW_ => ?_)
                      generalize wr.drew = w51 at BK147 BK148 HB HR150_2 HR150_8 HR151_2 HR151_8 hx150_0 hx150_1 hx150_2 hx150_3 hx150_4 hx150_5 hx150_6 hx150_7 hx150_8 hx151_0 hx151_1 hx151_2 hx151_3 hx151_4 hx151_5 hx151_6 hx151_7 hx151_8 hHeld ⊢
                      refine pure_ (i := 0) (N := some 69) (v := ?_) (a' := ?_) #[true, false, false, false, false, false, false, false, false, false, false, false] rfl rfl (any_of HT_.out (by kernel_rfl)) (fun _ _ _ h => h) (Or.inl ⟨by rfl, ?_⟩) ?_ ?_
                      rotate_left
                      · intro w'
                        go_simp
                        with_reducible rfl
                      rotate_left
                      · simp only [Act.put, List.setIfInBounds_toArray, List.set_cons_zero, List.set_cons_succ, i64_w, i32_w]
                        rfl
                      refine pure_ (i := 2) (N := some 71) (v := ?_) (a' := ?_) #[true, false, true, false, false, false, false, false, false, false, false, false] rfl rfl (any_of HT_.out (by kernel_rfl)) (fun _ _ _ h => h) (Or.inl ⟨by rfl, ?_⟩) ?_ ?_
                      rotate_left
                      · intro w'
                        go_simp
                        with_reducible rfl
                      rotate_left
                      · simp only [Act.put, List.setIfInBounds_toArray, List.set_cons_zero, List.set_cons_succ, i64_w, i32_w]
                        rfl
                      refine pure_ (i := 5) (N := some 74) (v := ?_) (a' := ?_) #[true, false, true, false, false, true, false, false, false, false, false, false] rfl rfl (any_of HT_.out (by kernel_rfl)) (fun _ _ _ h => h) (Or.inl ⟨by rfl, ?_⟩) ?_ ?_
                      rotate_left
                      · intro w'
                        go_simp
                        with_reducible rfl
                      rotate_left
                      · simp only [Act.put, List.setIfInBounds_toArray, List.set_cons_zero, List.set_cons_succ, i64_w, i32_w]
                        rfl
                      refine pure_ (i := 7) (N := some 76) (v := ?_) (a' := ?_) #[true, false, true, false, false, true, false, true, false, false, false, false] rfl rfl (any_of HT_.out (by kernel_rfl)) (fun _ _ _ h => h) (Or.inl ⟨by rfl, ?_⟩) ?_ ?_
                      rotate_left
                      · intro w'
                        go_simp
                        with_reducible rfl
                      rotate_left
                      · simp only [Act.put, List.setIfInBounds_toArray, List.set_cons_zero, List.set_cons_succ, i64_w, i32_w]
                        rfl
                      refine take_ (i := 1) (N := some 70) (v := ?_) (a' := ?_) #[true, true, true, false, false, true, false, true, false, false, false, false] rfl rfl (take_ofW HT_.out HW_.out (by kernel_rfl)) (fun _ _ _ h => h) (Or.inl ⟨by rfl, ?_⟩) hHeld ?_ ?_
                      rotate_left
                      · rintro w' ⟨s0, s1, s2, s3, s4, s5, s6, s7, s8, s9, s10, s11, s12, s13, s14, s15, s16, s17, s18, s19, s20, s21, s22, s23, s24, s25, s26, s27, s28, s29, s30, s31, s32, s33, s34, s35⟩
                        go_simp
                        with_reducible rfl
                      rotate_left
                      · simp only [Act.put, List.setIfInBounds_toArray, List.set_cons_zero, List.set_cons_succ, i64_w, i32_w]
                        rfl
                      refine pure_ (i := 3) (N := some 72) (v := ?_) (a' := ?_) #[true, true, true, true, false, true, false, true, false, false, false, false] rfl rfl (any_of HT_.out (by kernel_rfl)) (fun _ _ _ h => h) (Or.inl ⟨by rfl, ?_⟩) ?_ ?_
                      rotate_left
                      · intro w'
                        go_simp
                        with_reducible rfl
                      rotate_left
                      · simp only [Act.put, List.setIfInBounds_toArray, List.set_cons_zero, List.set_cons_succ, i64_w, i32_w]
                        rfl
                      refine take_ (i := 4) (N := some 73) (v := ?_) (a' := ?_) #[true, true, true, true, true, true, false, true, false, false, false, false] rfl rfl (take_ofW HT_.out HW_.out (by kernel_rfl)) (fun _ _ _ h => h) (Or.inl ⟨by rfl, ?_⟩) hHeld ?_ ?_
                      rotate_left
                      · rintro w' ⟨s0, s1, s2, s3, s4, s5, s6, s7, s8, s9, s10, s11, s12, s13, s14, s15, s16, s17, s18, s19, s20, s21, s22, s23, s24, s25, s26, s27, s28, s29, s30, s31, s32, s33, s34, s35⟩
                        go_simp
                        with_reducible rfl
                      rotate_left
                      · simp only [Act.put, List.setIfInBounds_toArray, List.set_cons_zero, List.set_cons_succ, i64_w, i32_w]
                        rfl
                      refine take_ (i := 6) (N := some 75) (v := ?_) (a' := ?_) #[true, true, true, true, true, true, true, true, false, false, false, false] rfl rfl (take_ofW HT_.out HW_.out (by kernel_rfl)) (fun _ _ _ h => h) (Or.inl ⟨by rfl, ?_⟩) hHeld ?_ ?_
                      rotate_left
                      · rintro w' ⟨s0, s1, s2, s3, s4, s5, s6, s7, s8, s9, s10, s11, s12, s13, s14, s15, s16, s17, s18, s19, s20, s21, s22, s23, s24, s25, s26, s27, s28, s29, s30, s31, s32, s33, s34, s35⟩
                        go_simp
                        with_reducible rfl
                      rotate_left
                      · simp only [Act.put, List.setIfInBounds_toArray, List.set_cons_zero, List.set_cons_succ, i64_w, i32_w]
                        rfl
                      refine pure_ (i := 8) (N := some 77) (v := ?_) (a' := ?_) #[true, true, true, true, true, true, true, true, true, false, false, false] rfl rfl (any_of HT_.out (by kernel_rfl)) (fun _ _ _ h => h) (Or.inl ⟨by rfl, ?_⟩) ?_ ?_
                      rotate_left
                      · intro w'
                        go_simp
                        with_reducible rfl
                      rotate_left
                      · simp only [Act.put, List.setIfInBounds_toArray, List.set_cons_zero, List.set_cons_succ, i64_w, i32_w]
                        rfl
                      refine take_ (i := 9) (N := some 78) (v := ?_) (a' := ?_) #[true, true, true, true, true, true, true, true, true, true, false, false] rfl rfl (take_ofW HT_.out HW_.out (by kernel_rfl)) (fun _ _ _ h => h) (Or.inl ⟨by rfl, ?_⟩) hHeld ?_ ?_
                      rotate_left
                      · rintro w' ⟨s0, s1, s2, s3, s4, s5, s6, s7, s8, s9, s10, s11, s12, s13, s14, s15, s16, s17, s18, s19, s20, s21, s22, s23, s24, s25, s26, s27, s28, s29, s30, s31, s32, s33, s34, s35⟩
                        go_simp
                        with_reducible rfl
                      rotate_left
                      · simp only [Act.put, List.setIfInBounds_toArray, List.set_cons_zero, List.set_cons_succ, i64_w, i32_w]
                        rfl
                      refine one_ (i := 10) (N := some 79) #[true, true, true, true, true, true, true, true, true, true, true, false] rfl rfl (one_of HT_.out (by kernel_rfl)) (by decide) (fun K hK => ?_)
                      refine goes_ Try.func20 (by kernel_rfl) rfl #[.agg #[.int .i64 ((rd_T29 l0_8 x66_2).f0), .bool ((rd_T29 l0_8 x66_2).f1.f0), .slice A150_2 ((rd_T29 l0_8 x66_2).f1.f1).length c150_2, .string ((rd_T29 l0_8 x66_2).f2), .int .i64 ((rd_T29 l0_8 x66_2).f3), .int .i64 ((rd_T29 l0_8 x66_2).f4), .bool ((rd_T29 l0_8 x66_2).f5), .bool ((rd_T29 l0_8 x66_2).f6), .slice A150_8 ((rd_T29 l0_8 x66_2).f7).length c150_8], .agg #[.int .i64 ((rd_T29 l1_8 x66_2).f0), .bool ((rd_T29 l1_8 x66_2).f1.f0), .slice A151_2 ((rd_T29 l1_8 x66_2).f1.f1).length c151_2, .string ((rd_T29 l1_8 x66_2).f2), .int .i64 ((rd_T29 l1_8 x66_2).f3), .int .i64 ((rd_T29 l1_8 x66_2).f4), .bool ((rd_T29 l1_8 x66_2).f5), .bool ((rd_T29 l1_8 x66_2).f6), .slice A151_8 ((rd_T29 l1_8 x66_2).f7).length c151_8]] (by rfl) rfl rfl (by (try simp only [List.map_toArray, List.map_cons, List.map_nil]); first | done | rfl | (simp only [List.length_drop, List.length_take]; rfl)) ?_
                      with_reducible refine (ih k2 (by have := HJ2.out; have := HK2.out; omega) ((rd_T29 l0_8 x66_2).f0) ((rd_T29 l0_8 x66_2).f1.f0) _ _ ((rd_T29 l0_8 x66_2).f1.f1) ((rd_T29 l0_8 x66_2).f2) ((rd_T29 l0_8 x66_2).f3) ((rd_T29 l0_8 x66_2).f4) ((rd_T29 l0_8 x66_2).f5) ((rd_T29 l0_8 x66_2).f6) _ _ ((rd_T29 l0_8 x66_2).f7) ((rd_T29 l1_8 x66_2).f0) ((rd_T29 l1_8 x66_2).f1.f0) _ _ ((rd_T29 l1_8 x66_2).f1.f1) ((rd_T29 l1_8 x66_2).f2) ((rd_T29 l1_8 x66_2).f3) ((rd_T29 l1_8 x66_2).f4) ((rd_T29 l1_8 x66_2).f5) ((rd_T29 l1_8 x66_2).f6) _ _ ((rd_T29 l1_8 x66_2).f7) true _ ?side1 ?side2 ?side3 ?side4 ?side5 ?side6 ?side7 ?side8 A49.out).mono ?_
                      (case side1 => repeat (first | exact (Kd.C_below HR150_2.out HB.out) | (with_reducible refine Kd.C_alloc ?_ _) | (with_reducible refine Kd.C_drewN ?_ _) | (with_reducible refine Kd.C_drew ?_)))
                      (case side2 => exact HC150_2.out)
                      (case side3 => repeat (first | exact (Kd.C_below HR150_8.out HB.out) | (with_reducible refine Kd.C_alloc ?_ _) | (with_reducible refine Kd.C_drewN ?_ _) | (with_reducible refine Kd.C_drew ?_)))
                      (case side4 => exact HC150_8.out)
                      (case side5 => repeat (first | exact (Kd.C_below HR151_2.out HB.out) | (with_reducible refine Kd.C_alloc ?_ _) | (with_reducible refine Kd.C_drewN ?_ _) | (with_reducible refine Kd.C_drew ?_)))
                      (case side6 => exact HC151_2.out)
                      (case side7 => repeat (first | exact (Kd.C_below HR151_8.out HB.out) | (with_reducible refine Kd.C_alloc ?_ _) | (with_reducible refine Kd.C_drewN ?_ _) | (with_reducible refine Kd.C_drew ?_)))
                      (case side8 => exact HC151_8.out)
                      rintro e w52 ⟨rfl, hb⟩
                      refine ⟨_, rfl, ?_⟩
                      have n0_ := Aside0.mk (blk_below (g := gb147) (o := .cells #[.int .i64 a0_0, .bool a0_1, .slice A0_2 l0_2.length c0_2, .string a0_3, .int .i64 a0_4, .int .i64 a0_5, .bool a0_6, .bool a0_7, .slice (some ad150) l0_8.length c0_8] 29 (0, 0)) (by (with_reducible repeat (first | refine blk_drewN ?_ _ | refine blk_drew ?_ | refine blk_alloc ?_ _)); exact BK147.out) hb)
                      have n1_ := Aside0.mk (blk_below (g := gb148) (o := .cells #[.int .i64 a1_0, .bool a1_1, .slice A1_2 l1_2.length c1_2, .string a1_3, .int .i64 a1_4, .int .i64 a1_5, .bool a1_6, .bool a1_7, .slice (some ad151) l1_8.length c1_8] 29 (0, 0)) (by (with_reducible repeat (first | refine blk_drewN ?_ _ | refine blk_drew ?_ | refine blk_alloc ?_ _)); exact BK148.out) hb)
                      have n2_ := Aside0.mk (below_step (by repeat (first | (with_reducible first | exact HB.out | apply below_alloc | apply pw_below_drewN | apply below_drew1 | refine below_set ?_ GE147.out | refine below_set ?_ GE148.out) | exact HB.out)) hb)
                      clear BK147
                      clear BK148
                      clear HB
                      have BK147 := n0_
                      have BK148 := n1_
                      have HB := n2_
                      clear n0_ n1_ n2_
                      (try clear hb)
                      (try clear hb2)
                      (try clear hk)
                      (try clear hi)
                      refine hK.out _ _ ⟨(blk_cell BK147.out 0).trans rfl, (blk_cell BK147.out 1).trans rfl, (blk_cell BK147.out 2).trans rfl, (blk_cell BK147.out 3).trans rfl, (blk_cell BK147.out 4).trans rfl, (blk_cell BK147.out 5).trans rfl, (blk_cell BK147.out 6).trans rfl, (blk_cell BK147.out 7).trans rfl, (blk_cell BK147.out 8).trans rfl, (blk_cell BK148.out 0).trans rfl, (blk_cell BK148.out 1).trans rfl, (blk_cell BK148.out 2).trans rfl, (blk_cell BK148.out 3).trans rfl, (blk_cell BK148.out 4).trans rfl, (blk_cell BK148.out 5).trans rfl, (blk_cell BK148.out 6).trans rfl, (blk_cell BK148.out 7).trans rfl, (blk_cell BK148.out 8).trans rfl, ((HB.out.cell (World.block_lt_of_cell? w _ hw150_0)).trans hw150_0), ((HB.out.cell (World.block_lt_of_cell? w _ hw150_1)).trans hw150_1), ((HB.out.cell (World.block_lt_of_cell? w _ hw150_2)).trans hw150_2), ((HB.out.cell (World.block_lt_of_cell? w _ hw150_3)).trans hw150_3), ((HB.out.cell (World.block_lt_of_cell? w _ hw150_4)).trans hw150_4), ((HB.out.cell (World.block_lt_of_cell? w _ hw150_5)).trans hw150_5), ((HB.out.cell (World.block_lt_of_cell? w _ hw150_6)).trans hw150_6), ((HB.out.cell (World.block_lt_of_cell? w _ hw150_7)).trans hw150_7), ((HB.out.cell (World.block_lt_of_cell? w _ hw150_8)).trans hw150_8), ((HB.out.cell (World.block_lt_of_cell? w _ hw151_0)).trans hw151_0), ((HB.out.cell (World.block_lt_of_cell? w _ hw151_1)).trans hw151_1), ((HB.out.cell (World.block_lt_of_cell? w _ hw151_2)).trans hw151_2), ((HB.out.cell (World.block_lt_of_cell? w _ hw151_3)).trans hw151_3), ((HB.out.cell (World.block_lt_of_cell? w _ hw151_4)).trans hw151_4), ((HB.out.cell (World.block_lt_of_cell? w _ hw151_5)).trans hw151_5), ((HB.out.cell (World.block_lt_of_cell? w _ hw151_6)).trans hw151_6), ((HB.out.cell (World.block_lt_of_cell? w _ hw151_7)).trans hw151_7), ((HB.out.cell (World.block_lt_of_cell? w _ hw151_8)).trans hw151_8)⟩ (fun hHeld => ?_)
                      clear hK K
                      refine norm_ (a' := ?_) ?_ ?_
                      rotate_left
                      · show Act.put _ (some 79) _ = _
                        simp only [Act.put, List.setIfInBounds_toArray, List.set_cons_zero, List.set_cons_succ, i64_w, i32_w]
                        rfl
                      refine pure_ (i := 11) (N := some 80) (v := ?_) (a' := ?_) #[true, true, true, true, true, true, true, true, true, true, true, true] rfl rfl (any_of HT_.out (by kernel_rfl)) (fun _ _ _ h => h) (Or.inl ⟨by rfl, ?_⟩) ?_ ?_
                      rotate_left
                      · intro w'
                        go_simp
                        with_reducible rfl
                      rotate_left
                      · simp only [Act.put, List.setIfInBounds_toArray, List.set_cons_zero, List.set_cons_succ, i64_w, i32_w]
                        rfl
                      refine done_ (done_of HT_.out (by kernel_rfl)) ?_
                      try go_wp2
                      go_roundg k2
                      case measure => have := HJ2.out; have := HK2.out; omega
                      case rel => exact ⟨(wrap64 (x66_2 + 1)), (by first | rfl | (simp; done) | (simp [*]; done)), H', ⟨by have := HJ2.out; have := HK2.out; omega⟩, ⟨by (with_reducible repeat (first | refine blk_drewN ?_ _ | refine blk_drew ?_ | refine blk_alloc ?_ _)); exact BK147.out⟩, ⟨by (with_reducible repeat (first | refine blk_drewN ?_ _ | refine blk_drew ?_ | refine blk_alloc ?_ _)); exact BK148.out⟩, ⟨by repeat (first | (with_reducible first | exact HB.out | apply below_alloc | apply pw_below_drewN | apply below_drew1 | refine below_set ?_ GE147.out | refine below_set ?_ GE148.out) | exact HB.out)⟩⟩
                    · replace c50 := Bool.eq_false_iff.mpr c50
                      subst c50
                      have H1 : (some false) = some r := by rw [if_neg (show ¬ (false = true) by decide)] at H; exact H
                      clear H
                      have H := H1
                      clear H1
                      obtain rfl := Option.some.inj H
                      try go_wp2
                      have n0_ := Aside0.mk (blk_drew BK147.out)
                      have n1_ := Aside0.mk (blk_drew BK148.out)
                      have n2_ := Aside0.mk (below_drew1 HB.out)
                      clear BK147
                      clear BK148
                      clear HB
                      have BK147 := n0_
                      have BK148 := n1_
                      have HB := n2_
                      clear n0_ n1_ n2_
                      have p150 : 0 ≤ (x66_2 : Int) := of_decide_eq_true (by first | (with_reducible assumption) | assumption)
                      have q150 : x66_2 < (l0_8.length : Int) := of_decide_eq_true (by first | (with_reducible assumption) | assumption)
                      obtain ⟨ad150, A150_2, c150_2, A150_8, c150_8, e150, hx150_0, hx150_1, hx150_2, hx150_3, hx150_4, hx150_5, hx150_6, hx150_7, hx150_8, hl150_2, hi150_2, hl150_8, hi150_8⟩ := at_T29 HR0_8.out x66_2 p150 q150
                      have hw150_8 := hx150_8
                      have hw150_7 := hx150_7
                      have hw150_6 := hx150_6
                      have hw150_5 := hx150_5
                      have hw150_4 := hx150_4
                      have hw150_3 := hx150_3
                      have hw150_2 := hx150_2
                      have hw150_1 := hx150_1
                      have hw150_0 := hx150_0
                      cases e150
                      replace hx150_0 := (HB.out.cell (World.block_lt_of_cell? w _ hx150_0)).trans hx150_0
                      replace hx150_1 := (HB.out.cell (World.block_lt_of_cell? w _ hx150_1)).trans hx150_1
                      replace hx150_2 := (HB.out.cell (World.block_lt_of_cell? w _ hx150_2)).trans hx150_2
                      replace hx150_3 := (HB.out.cell (World.block_lt_of_cell? w _ hx150_3)).trans hx150_3
                      replace hx150_4 := (HB.out.cell (World.block_lt_of_cell? w _ hx150_4)).trans hx150_4
                      replace hx150_5 := (HB.out.cell (World.block_lt_of_cell? w _ hx150_5)).trans hx150_5
                      replace hx150_6 := (HB.out.cell (World.block_lt_of_cell? w _ hx150_6)).trans hx150_6
                      replace hx150_7 := (HB.out.cell (World.block_lt_of_cell? w _ hx150_7)).trans hx150_7
                      replace hx150_8 := (HB.out.cell (World.block_lt_of_cell? w _ hx150_8)).trans hx150_8
                      have HR150_2 := Aside0.mk hi150_2
                      have HC150_2 := Aside0.mk hl150_2
                      clear hi150_2 hl150_2
                      have HR150_8 := Aside0.mk hi150_8
                      have HC150_8 := Aside0.mk hl150_8
                      clear hi150_8 hl150_8
                      replace p150 := eq_true p150
                      replace q150 := eq_true q150
                      have p151 : 0 ≤ (x66_2 : Int) := of_decide_eq_true (by first | (with_reducible assumption) | assumption)
                      have q151 : x66_2 < (l1_8.length : Int) := of_decide_eq_true (by first | (with_reducible assumption) | assumption)
                      obtain ⟨ad151, A151_2, c151_2, A151_8, c151_8, e151, hx151_0, hx151_1, hx151_2, hx151_3, hx151_4, hx151_5, hx151_6, hx151_7, hx151_8, hl151_2, hi151_2, hl151_8, hi151_8⟩ := at_T29 HR1_8.out x66_2 p151 q151
                      have hw151_8 := hx151_8
                      have hw151_7 := hx151_7
                      have hw151_6 := hx151_6
                      have hw151_5 := hx151_5
                      have hw151_4 := hx151_4
                      have hw151_3 := hx151_3
                      have hw151_2 := hx151_2
                      have hw151_1 := hx151_1
                      have hw151_0 := hx151_0
                      cases e151
                      replace hx151_0 := (HB.out.cell (World.block_lt_of_cell? w _ hx151_0)).trans hx151_0
                      replace hx151_1 := (HB.out.cell (World.block_lt_of_cell? w _ hx151_1)).trans hx151_1
                      replace hx151_2 := (HB.out.cell (World.block_lt_of_cell? w _ hx151_2)).trans hx151_2
                      replace hx151_3 := (HB.out.cell (World.block_lt_of_cell? w _ hx151_3)).trans hx151_3
                      replace hx151_4 := (HB.out.cell (World.block_lt_of_cell? w _ hx151_4)).trans hx151_4
                      replace hx151_5 := (HB.out.cell (World.block_lt_of_cell? w _ hx151_5)).trans hx151_5
                      replace hx151_6 := (HB.out.cell (World.block_lt_of_cell? w _ hx151_6)).trans hx151_6
                      replace hx151_7 := (HB.out.cell (World.block_lt_of_cell? w _ hx151_7)).trans hx151_7
                      replace hx151_8 := (HB.out.cell (World.block_lt_of_cell? w _ hx151_8)).trans hx151_8
                      have HR151_2 := Aside0.mk hi151_2
                      have HC151_2 := Aside0.mk hl151_2
                      clear hi151_2 hl151_2
                      have HR151_8 := Aside0.mk hi151_8
                      have HC151_8 := Aside0.mk hl151_8
                      clear hi151_8 hl151_8
                      replace p151 := eq_true p151
                      replace q151 := eq_true q151
                      refine start_ (n := 12) (S := fun w' => w'.cell? ⟨gb147, 0, none⟩ = some (.int .i64 a0_0) ∧ w'.cell? ⟨gb147, 1, none⟩ = some (.bool a0_1) ∧ w'.cell? ⟨gb147, 2, none⟩ = some (.slice A0_2 l0_2.length c0_2) ∧ w'.cell? ⟨gb147, 3, none⟩ = some (.string a0_3) ∧ w'.cell? ⟨gb147, 4, none⟩ = some (.int .i64 a0_4) ∧ w'.cell? ⟨gb147, 5, none⟩ = some (.int .i64 a0_5) ∧ w'.cell? ⟨gb147, 6, none⟩ = some (.bool a0_6) ∧ w'.cell? ⟨gb147, 7, none⟩ = some (.bool a0_7) ∧ w'.cell? ⟨gb147, 8, none⟩ = some (.slice (some ad150) l0_8.length c0_8) ∧ w'.cell? ⟨gb148, 0, none⟩ = some (.int .i64 a1_0) ∧ w'.cell? ⟨gb148, 1, none⟩ = some (.bool a1_1) ∧ w'.cell? ⟨gb148, 2, none⟩ = some (.slice A1_2 l1_2.length c1_2) ∧ w'.cell? ⟨gb148, 3, none⟩ = some (.string a1_3) ∧ w'.cell? ⟨gb148, 4, none⟩ = some (.int .i64 a1_4) ∧ w'.cell? ⟨gb148, 5, none⟩ = some (.int .i64 a1_5) ∧ w'.cell? ⟨gb148, 6, none⟩ = some (.bool a1_6) ∧ w'.cell? ⟨gb148, 7, none⟩ = some (.bool a1_7) ∧ w'.cell? ⟨gb148, 8, none⟩ = some (.slice (some ad151) l1_8.length c1_8) ∧ w'.cell? (ad150.add ((x66_2).toNat * 9)) = some (.int .i64 ((rd_T29 l0_8 x66_2).f0)) ∧ w'.cell? ⟨(ad150.add ((x66_2).toNat * 9)).block, (ad150.add ((x66_2).toNat * 9)).off + 1, none⟩ = some (.bool ((rd_T29 l0_8 x66_2).f1.f0)) ∧ w'.cell? ⟨(ad150.add ((x66_2).toNat * 9)).block, (ad150.add ((x66_2).toNat * 9)).off + 2, none⟩ = some (.slice A150_2 ((rd_T29 l0_8 x66_2).f1.f1).length c150_2) ∧ w'.cell? ⟨(ad150.add ((x66_2).toNat * 9)).block, (ad150.add ((x66_2).toNat * 9)).off + 3, none⟩ = some (.string ((rd_T29 l0_8 x66_2).f2)) ∧ w'.cell? ⟨(ad150.add ((x66_2).toNat * 9)).block, (ad150.add ((x66_2).toNat * 9)).off + 4, none⟩ = some (.int .i64 ((rd_T29 l0_8 x66_2).f3)) ∧ w'.cell? ⟨(ad150.add ((x66_2).toNat * 9)).block, (ad150.add ((x66_2).toNat * 9)).off + 5, none⟩ = some (.int .i64 ((rd_T29 l0_8 x66_2).f4)) ∧ w'.cell? ⟨(ad150.add ((x66_2).toNat * 9)).block, (ad150.add ((x66_2).toNat * 9)).off + 6, none⟩ = some (.bool ((rd_T29 l0_8 x66_2).f5)) ∧ w'.cell? ⟨(ad150.add ((x66_2).toNat * 9)).block, (ad150.add ((x66_2).toNat * 9)).off + 7, none⟩ = some (.bool ((rd_T29 l0_8 x66_2).f6)) ∧ w'.cell? ⟨(ad150.add ((x66_2).toNat * 9)).block, (ad150.add ((x66_2).toNat * 9)).off + 8, none⟩ = some (.slice A150_8 ((rd_T29 l0_8 x66_2).f7).length c150_8) ∧ w'.cell? (ad151.add ((x66_2).toNat * 9)) = some (.int .i64 ((rd_T29 l1_8 x66_2).f0)) ∧ w'.cell? ⟨(ad151.add ((x66_2).toNat * 9)).block, (ad151.add ((x66_2).toNat * 9)).off + 1, none⟩ = some (.bool ((rd_T29 l1_8 x66_2).f1.f0)) ∧ w'.cell? ⟨(ad151.add ((x66_2).toNat * 9)).block, (ad151.add ((x66_2).toNat * 9)).off + 2, none⟩ = some (.slice A151_2 ((rd_T29 l1_8 x66_2).f1.f1).length c151_2) ∧ w'.cell? ⟨(ad151.add ((x66_2).toNat * 9)).block, (ad151.add ((x66_2).toNat * 9)).off + 3, none⟩ = some (.string ((rd_T29 l1_8 x66_2).f2)) ∧ w'.cell? ⟨(ad151.add ((x66_2).toNat * 9)).block, (ad151.add ((x66_2).toNat * 9)).off + 4, none⟩ = some (.int .i64 ((rd_T29 l1_8 x66_2).f3)) ∧ w'.cell? ⟨(ad151.add ((x66_2).toNat * 9)).block, (ad151.add ((x66_2).toNat * 9)).off + 5, none⟩ = some (.int .i64 ((rd_T29 l1_8 x66_2).f4)) ∧ w'.cell? ⟨(ad151.add ((x66_2).toNat * 9)).block, (ad151.add ((x66_2).toNat * 9)).off + 6, none⟩ = some (.bool ((rd_T29 l1_8 x66_2).f5)) ∧ w'.cell? ⟨(ad151.add ((x66_2).toNat * 9)).block, (ad151.add ((x66_2).toNat * 9)).off + 7, none⟩ = some (.bool ((rd_T29 l1_8 x66_2).f6)) ∧ w'.cell? ⟨(ad151.add ((x66_2).toNat * 9)).block, (ad151.add ((x66_2).toNat * 9)).off + 8, none⟩ = some (.slice A151_8 ((rd_T29 l1_8 x66_2).f7).length c151_8)) (ds := []) #[false, false, false, false, false, false, false, false, false, false, false, false] (by kernel_rfl) rfl rfl ⟨(blk_cell BK147.out 0).trans rfl, (blk_cell BK147.out 1).trans rfl, (blk_cell BK147.out 2).trans rfl, (blk_cell BK147.out 3).trans rfl, (blk_cell BK147.out 4).trans rfl, (blk_cell BK147.out 5).trans rfl, (blk_cell BK147.out 6).trans rfl, (blk_cell BK147.out 7).trans rfl, (blk_cell BK147.out 8).trans rfl, (blk_cell BK148.out 0).trans rfl, (blk_cell BK148.out 1).trans rfl, (blk_cell BK148.out 2).trans rfl, (blk_cell BK148.out 3).trans rfl, (blk_cell BK148.out 4).trans rfl, (blk_cell BK148.out 5).trans rfl, (blk_cell BK148.out 6).trans rfl, (blk_cell BK148.out 7).trans rfl, (blk_cell BK148.out 8).trans rfl, ((HB.out.cell (World.block_lt_of_cell? w _ hw150_0)).trans hw150_0), ((HB.out.cell (World.block_lt_of_cell? w _ hw150_1)).trans hw150_1), ((HB.out.cell (World.block_lt_of_cell? w _ hw150_2)).trans hw150_2), ((HB.out.cell (World.block_lt_of_cell? w _ hw150_3)).trans hw150_3), ((HB.out.cell (World.block_lt_of_cell? w _ hw150_4)).trans hw150_4), ((HB.out.cell (World.block_lt_of_cell? w _ hw150_5)).trans hw150_5), ((HB.out.cell (World.block_lt_of_cell? w _ hw150_6)).trans hw150_6), ((HB.out.cell (World.block_lt_of_cell? w _ hw150_7)).trans hw150_7), ((HB.out.cell (World.block_lt_of_cell? w _ hw150_8)).trans hw150_8), ((HB.out.cell (World.block_lt_of_cell? w _ hw151_0)).trans hw151_0), ((HB.out.cell (World.block_lt_of_cell? w _ hw151_1)).trans hw151_1), ((HB.out.cell (World.block_lt_of_cell? w _ hw151_2)).trans hw151_2), ((HB.out.cell (World.block_lt_of_cell? w _ hw151_3)).trans hw151_3), ((HB.out.cell (World.block_lt_of_cell? w _ hw151_4)).trans hw151_4), ((HB.out.cell (World.block_lt_of_cell? w _ hw151_5)).trans hw151_5), ((HB.out.cell (World.block_lt_of_cell? w _ hw151_6)).trans hw151_6), ((HB.out.cell (World.block_lt_of_cell? w _ hw151_7)).trans hw151_7), ((HB.out.cell (World.block_lt_of_cell? w _ hw151_8)).trans hw151_8)⟩ (fun hHeld => ?_); refine with_tabW cylinderref34_Same.tab6 cylinderref34_Same.bits6 (fun HT_ HW_ => ?_)
                      generalize wr.drew = w53 at BK147 BK148 HB HR150_2 HR150_8 HR151_2 HR151_8 hx150_0 hx150_1 hx150_2 hx150_3 hx150_4 hx150_5 hx150_6 hx150_7 hx150_8 hx151_0 hx151_1 hx151_2 hx151_3 hx151_4 hx151_5 hx151_6 hx151_7 hx151_8 hHeld ⊢
                      refine pure_ (i := 0) (N := some 69) (v := ?_) (a' := ?_) #[true, false, false, false, false, false, false, false, false, false, false, false] rfl rfl (any_of HT_.out (by kernel_rfl)) (fun _ _ _ h => h) (Or.inl ⟨by rfl, ?_⟩) ?_ ?_
                      rotate_left
                      · intro w'
                        go_simp
                        with_reducible rfl
                      rotate_left
                      · simp only [Act.put, List.setIfInBounds_toArray, List.set_cons_zero, List.set_cons_succ, i64_w, i32_w]
                        rfl
                      refine pure_ (i := 2) (N := some 71) (v := ?_) (a' := ?_) #[true, false, true, false, false, false, false, false, false, false, false, false] rfl rfl (any_of HT_.out (by kernel_rfl)) (fun _ _ _ h => h) (Or.inl ⟨by rfl, ?_⟩) ?_ ?_
                      rotate_left
                      · intro w'
                        go_simp
                        with_reducible rfl
                      rotate_left
                      · simp only [Act.put, List.setIfInBounds_toArray, List.set_cons_zero, List.set_cons_succ, i64_w, i32_w]
                        rfl
                      refine pure_ (i := 5) (N := some 74) (v := ?_) (a' := ?_) #[true, false, true, false, false, true, false, false, false, false, false, false] rfl rfl (any_of HT_.out (by kernel_rfl)) (fun _ _ _ h => h) (Or.inl ⟨by rfl, ?_⟩) ?_ ?_
                      rotate_left
                      · intro w'
                        go_simp
                        with_reducible rfl
                      rotate_left
                      · simp only [Act.put, List.setIfInBounds_toArray, List.set_cons_zero, List.set_cons_succ, i64_w, i32_w]
                        rfl
                      refine pure_ (i := 7) (N := some 76) (v := ?_) (a' := ?_) #[true, false, true, false, false, true, false, true, false, false, false, false] rfl rfl (any_of HT_.out (by kernel_rfl)) (fun _ _ _ h => h) (Or.inl ⟨by rfl, ?_⟩) ?_ ?_
                      rotate_left
                      · intro w'
                        go_simp
                        with_reducible rfl
                      rotate_left
                      · simp only [Act.put, List.setIfInBounds_toArray, List.set_cons_zero, List.set_cons_succ, i64_w, i32_w]
                        rfl
                      refine take_ (i := 1) (N := some 70) (v := ?_) (a' := ?_) #[true, true, true, false, false, true, false, true, false, false, false, false] rfl rfl (take_ofW HT_.out HW_.out (by kernel_rfl)) (fun _ _ _ h => h) (Or.inl ⟨by rfl, ?_⟩) hHeld ?_ ?_
                      rotate_left
                      · rintro w' ⟨s0, s1, s2, s3, s4, s5, s6, s7, s8, s9, s10, s11, s12, s13, s14, s15, s16, s17, s18, s19, s20, s21, s22, s23, s24, s25, s26, s27, s28, s29, s30, s31, s32, s33, s34, s35⟩
                        go_simp
                        with_reducible rfl
                      rotate_left
                      · simp only [Act.put, List.setIfInBounds_toArray, List.set_cons_zero, List.set_cons_succ, i64_w, i32_w]
                        rfl
                      refine pure_ (i := 3) (N := some 72) (v := ?_) (a' := ?_) #[true, true, true, true, false, true, false, true, false, false, false, false] rfl rfl (any_of HT_.out (by kernel_rfl)) (fun _ _ _ h => h) (Or.inl ⟨by rfl, ?_⟩) ?_ ?_
                      rotate_left
                      · intro w'
                        go_simp
                        with_reducible rfl
                      rotate_left
                      · simp only [Act.put, List.setIfInBounds_toArray, List.set_cons_zero, List.set_cons_succ, i64_w, i32_w]
                        rfl
                      refine take_ (i := 4) (N := some 73) (v := ?_) (a' := ?_) #[true, true, true, true, true, true, false, true, false, false, false, false] rfl rfl (take_ofW HT_.out HW_.out (by kernel_rfl)) (fun _ _ _ h => h) (Or.inl ⟨by rfl, ?_⟩) hHeld ?_ ?_
                      rotate_left
                      · rintro w' ⟨s0, s1, s2, s3, s4, s5, s6, s7, s8, s9, s10, s11, s12, s13, s14, s15, s16, s17, s18, s19, s20, s21, s22, s23, s24, s25, s26, s27, s28, s29, s30, s31, s32, s33, s34, s35⟩
                        go_simp
                        with_reducible rfl
                      rotate_left
                      · simp only [Act.put, List.setIfInBounds_toArray, List.set_cons_zero, List.set_cons_succ, i64_w, i32_w]
                        rfl
                      refine take_ (i := 6) (N := some 75) (v := ?_) (a' := ?_) #[true, true, true, true, true, true, true, true, false, false, false, false] rfl rfl (take_ofW HT_.out HW_.out (by kernel_rfl)) (fun _ _ _ h => h) (Or.inl ⟨by rfl, ?_⟩) hHeld ?_ ?_
                      rotate_left
                      · rintro w' ⟨s0, s1, s2, s3, s4, s5, s6, s7, s8, s9, s10, s11, s12, s13, s14, s15, s16, s17, s18, s19, s20, s21, s22, s23, s24, s25, s26, s27, s28, s29, s30, s31, s32, s33, s34, s35⟩
                        go_simp
                        with_reducible rfl
                      rotate_left
                      · simp only [Act.put, List.setIfInBounds_toArray, List.set_cons_zero, List.set_cons_succ, i64_w, i32_w]
                        rfl
                      refine pure_ (i := 8) (N := some 77) (v := ?_) (a' := ?_) #[true, true, true, true, true, true, true, true, true, false, false, false] rfl rfl (any_of HT_.out (by kernel_rfl)) (fun _ _ _ h => h) (Or.inl ⟨by rfl, ?_⟩) ?_ ?_
                      rotate_left
                      · intro w'
                        go_simp
                        with_reducible rfl
                      rotate_left
                      · simp only [Act.put, List.setIfInBounds_toArray, List.set_cons_zero, List.set_cons_succ, i64_w, i32_w]
                        rfl
                      refine take_ (i := 9) (N := some 78) (v := ?_) (a' := ?_) #[true, true, true, true, true, true, true, true, true, true, false, false] rfl rfl (take_ofW HT_.out HW_.out (by kernel_rfl)) (fun _ _ _ h => h) (Or.inl ⟨by rfl, ?_⟩) hHeld ?_ ?_
                      rotate_left
                      · rintro w' ⟨s0, s1, s2, s3, s4, s5, s6, s7, s8, s9, s10, s11, s12, s13, s14, s15, s16, s17, s18, s19, s20, s21, s22, s23, s24, s25, s26, s27, s28, s29, s30, s31, s32, s33, s34, s35⟩
                        go_simp
                        with_reducible rfl
                      rotate_left
                      · simp only [Act.put, List.setIfInBounds_toArray, List.set_cons_zero, List.set_cons_succ, i64_w, i32_w]
                        rfl
                      refine one_ (i := 10) (N := some 79) #[true, true, true, true, true, true, true, true, true, true, true, false] rfl rfl (one_of HT_.out (by kernel_rfl)) (by decide) (fun K hK => ?_)
                      refine goes_ Try.func20 (by kernel_rfl) rfl #[.agg #[.int .i64 ((rd_T29 l0_8 x66_2).f0), .bool ((rd_T29 l0_8 x66_2).f1.f0), .slice A150_2 ((rd_T29 l0_8 x66_2).f1.f1).length c150_2, .string ((rd_T29 l0_8 x66_2).f2), .int .i64 ((rd_T29 l0_8 x66_2).f3), .int .i64 ((rd_T29 l0_8 x66_2).f4), .bool ((rd_T29 l0_8 x66_2).f5), .bool ((rd_T29 l0_8 x66_2).f6), .slice A150_8 ((rd_T29 l0_8 x66_2).f7).length c150_8], .agg #[.int .i64 ((rd_T29 l1_8 x66_2).f0), .bool ((rd_T29 l1_8 x66_2).f1.f0), .slice A151_2 ((rd_T29 l1_8 x66_2).f1.f1).length c151_2, .string ((rd_T29 l1_8 x66_2).f2), .int .i64 ((rd_T29 l1_8 x66_2).f3), .int .i64 ((rd_T29 l1_8 x66_2).f4), .bool ((rd_T29 l1_8 x66_2).f5), .bool ((rd_T29 l1_8 x66_2).f6), .slice A151_8 ((rd_T29 l1_8 x66_2).f7).length c151_8]] (by rfl) rfl rfl (by (try simp only [List.map_toArray, List.map_cons, List.map_nil]); first | done | rfl | (simp only [List.length_drop, List.length_take]; rfl)) ?_
                      with_reducible refine (ih k2 (by have := HJ2.out; have := HK2.out; omega) ((rd_T29 l0_8 x66_2).f0) ((rd_T29 l0_8 x66_2).f1.f0) _ _ ((rd_T29 l0_8 x66_2).f1.f1) ((rd_T29 l0_8 x66_2).f2) ((rd_T29 l0_8 x66_2).f3) ((rd_T29 l0_8 x66_2).f4) ((rd_T29 l0_8 x66_2).f5) ((rd_T29 l0_8 x66_2).f6) _ _ ((rd_T29 l0_8 x66_2).f7) ((rd_T29 l1_8 x66_2).f0) ((rd_T29 l1_8 x66_2).f1.f0) _ _ ((rd_T29 l1_8 x66_2).f1.f1) ((rd_T29 l1_8 x66_2).f2) ((rd_T29 l1_8 x66_2).f3) ((rd_T29 l1_8 x66_2).f4) ((rd_T29 l1_8 x66_2).f5) ((rd_T29 l1_8 x66_2).f6) _ _ ((rd_T29 l1_8 x66_2).f7) false _ ?side1 ?side2 ?side3 ?side4 ?side5 ?side6 ?side7 ?side8 A49.out).mono ?_
                      (case side1 => repeat (first | exact (Kd.C_below HR150_2.out HB.out) | (with_reducible refine Kd.C_alloc ?_ _) | (with_reducible refine Kd.C_drewN ?_ _) | (with_reducible refine Kd.C_drew ?_)))
                      (case side2 => exact HC150_2.out)
                      (case side3 => repeat (first | exact (Kd.C_below HR150_8.out HB.out) | (with_reducible refine Kd.C_alloc ?_ _) | (with_reducible refine Kd.C_drewN ?_ _) | (with_reducible refine Kd.C_drew ?_)))
                      (case side4 => exact HC150_8.out)
                      (case side5 => repeat (first | exact (Kd.C_below HR151_2.out HB.out) | (with_reducible refine Kd.C_alloc ?_ _) | (with_reducible refine Kd.C_drewN ?_ _) | (with_reducible refine Kd.C_drew ?_)))
                      (case side6 => exact HC151_2.out)
                      (case side7 => repeat (first | exact (Kd.C_below HR151_8.out HB.out) | (with_reducible refine Kd.C_alloc ?_ _) | (with_reducible refine Kd.C_drewN ?_ _) | (with_reducible refine Kd.C_drew ?_)))
                      (case side8 => exact HC151_8.out)
                      rintro e w54 ⟨rfl, hb⟩
                      refine ⟨_, rfl, ?_⟩
                      have n0_ := Aside0.mk (blk_below (g := gb147) (o := .cells #[.int .i64 a0_0, .bool a0_1, .slice A0_2 l0_2.length c0_2, .string a0_3, .int .i64 a0_4, .int .i64 a0_5, .bool a0_6, .bool a0_7, .slice (some ad150) l0_8.length c0_8] 29 (0, 0)) (by (with_reducible repeat (first | refine blk_drewN ?_ _ | refine blk_drew ?_ | refine blk_alloc ?_ _)); exact BK147.out) hb)
                      have n1_ := Aside0.mk (blk_below (g := gb148) (o := .cells #[.int .i64 a1_0, .bool a1_1, .slice A1_2 l1_2.length c1_2, .string a1_3, .int .i64 a1_4, .int .i64 a1_5, .bool a1_6, .bool a1_7, .slice (some ad151) l1_8.length c1_8] 29 (0, 0)) (by (with_reducible repeat (first | refine blk_drewN ?_ _ | refine blk_drew ?_ | refine blk_alloc ?_ _)); exact BK148.out) hb)
                      have n2_ := Aside0.mk (below_step (by repeat (first | (with_reducible first | exact HB.out | apply below_alloc | apply pw_below_drewN | apply below_drew1 | refine below_set ?_ GE147.out | refine below_set ?_ GE148.out) | exact HB.out)) hb)
                      clear BK147
                      clear BK148
                      clear HB
                      have BK147 := n0_
                      have BK148 := n1_
                      have HB := n2_
                      clear n0_ n1_ n2_
                      (try clear hb)
                      (try clear hb2)
                      (try clear hk)
                      (try clear hi)
                      refine hK.out _ _ ⟨(blk_cell BK147.out 0).trans rfl, (blk_cell BK147.out 1).trans rfl, (blk_cell BK147.out 2).trans rfl, (blk_cell BK147.out 3).trans rfl, (blk_cell BK147.out 4).trans rfl, (blk_cell BK147.out 5).trans rfl, (blk_cell BK147.out 6).trans rfl, (blk_cell BK147.out 7).trans rfl, (blk_cell BK147.out 8).trans rfl, (blk_cell BK148.out 0).trans rfl, (blk_cell BK148.out 1).trans rfl, (blk_cell BK148.out 2).trans rfl, (blk_cell BK148.out 3).trans rfl, (blk_cell BK148.out 4).trans rfl, (blk_cell BK148.out 5).trans rfl, (blk_cell BK148.out 6).trans rfl, (blk_cell BK148.out 7).trans rfl, (blk_cell BK148.out 8).trans rfl, ((HB.out.cell (World.block_lt_of_cell? w _ hw150_0)).trans hw150_0), ((HB.out.cell (World.block_lt_of_cell? w _ hw150_1)).trans hw150_1), ((HB.out.cell (World.block_lt_of_cell? w _ hw150_2)).trans hw150_2), ((HB.out.cell (World.block_lt_of_cell? w _ hw150_3)).trans hw150_3), ((HB.out.cell (World.block_lt_of_cell? w _ hw150_4)).trans hw150_4), ((HB.out.cell (World.block_lt_of_cell? w _ hw150_5)).trans hw150_5), ((HB.out.cell (World.block_lt_of_cell? w _ hw150_6)).trans hw150_6), ((HB.out.cell (World.block_lt_of_cell? w _ hw150_7)).trans hw150_7), ((HB.out.cell (World.block_lt_of_cell? w _ hw150_8)).trans hw150_8), ((HB.out.cell (World.block_lt_of_cell? w _ hw151_0)).trans hw151_0), ((HB.out.cell (World.block_lt_of_cell? w _ hw151_1)).trans hw151_1), ((HB.out.cell (World.block_lt_of_cell? w _ hw151_2)).trans hw151_2), ((HB.out.cell (World.block_lt_of_cell? w _ hw151_3)).trans hw151_3), ((HB.out.cell (World.block_lt_of_cell? w _ hw151_4)).trans hw151_4), ((HB.out.cell (World.block_lt_of_cell? w _ hw151_5)).trans hw151_5), ((HB.out.cell (World.block_lt_of_cell? w _ hw151_6)).trans hw151_6), ((HB.out.cell (World.block_lt_of_cell? w _ hw151_7)).trans hw151_7), ((HB.out.cell (World.block_lt_of_cell? w _ hw151_8)).trans hw151_8)⟩ (fun hHeld => ?_)
                      clear hK K
                      refine norm_ (a' := ?_) ?_ ?_
                      rotate_left
                      · show Act.put _ (some 79) _ = _
                        simp only [Act.put, List.setIfInBounds_toArray, List.set_cons_zero, List.set_cons_succ, i64_w, i32_w]
                        rfl
                      refine pure_ (i := 11) (N := some 80) (v := ?_) (a' := ?_) #[true, true, true, true, true, true, true, true, true, true, true, true] rfl rfl (any_of HT_.out (by kernel_rfl)) (fun _ _ _ h => h) (Or.inl ⟨by rfl, ?_⟩) ?_ ?_
                      rotate_left
                      · intro w'
                        go_simp
                        with_reducible rfl
                      rotate_left
                      · simp only [Act.put, List.setIfInBounds_toArray, List.set_cons_zero, List.set_cons_succ, i64_w, i32_w]
                        rfl
                      refine done_ (done_of HT_.out (by kernel_rfl)) ?_
                      try go_wp2
                      go_ret
                      exact ⟨by first | rfl | (simp [errW_none, errW_some] <;> rfl) | (simp [*, errW_none, errW_some] <;> rfl), by repeat (first | (with_reducible first | exact HB.out | apply below_alloc | apply pw_below_drewN | apply below_drew1 | refine below_set ?_ GE147.out | refine below_set ?_ GE148.out) | exact HB.out)⟩
                  · rw [if_neg c48] at H
                    exact absurd H (by simp)
                · rw [if_neg c47] at H
                  exact absurd H (by simp)
              · rw [if_neg c46] at H
                exact absurd H (by simp)
            · rw [if_neg c45] at H
              have c45b0 : decide (x66_2 < (l0_8.length : Int)) = false := decide_eq_false c45
              clear c45
              obtain rfl := Option.some.inj H
              go_wp2
              go_ret
              exact ⟨by first | rfl | (simp [errW_none, errW_some] <;> rfl) | (simp [*, errW_none, errW_some] <;> rfl), by repeat (first | (with_reducible first | exact HB.out | apply below_alloc | apply pw_below_drewN | apply below_drew1 | refine below_set ?_ GE147.out | refine below_set ?_ GE148.out) | exact HB.out)⟩

end Go.Proofs.Ytddpojinlapmfaa.PRef
