-- printed by wip/tools/xprint.py (the kit's print program, with stubs); checked by Lean
import Derived.Test.YtkomgnaleocleaaPAllx0
import Derived.Test.YtkomgnaleocleaaPAllx1
import Derived.Test.YtkomgnaleocleaaPAllx2
import Derived.Test.YtkomgnaleocleaaLex
namespace Go.Proofs.Ytkomgnaleocleaa.PAll
open Go.RowKit Go.Proofs.YtkomgnaleocleaaW.PrintWords Go.Proofs.YtkomgnaleocleaaW.PrintLast Go.Proofs.YtkomgnaleocleaaW.PrintMore
attribute [local go_sem] max2_int min2_int max_two min_two max_three min_three max_four min_four   -- for this text's walks alone
set_option linter.unusedVariables false
set_option linter.unusedSimpArgs false

attribute [local go_sem high] eqA30
/-! ### cylinderlaw35_LexerTwo: function 6 -/
mutual
def cylinderlaw35_LexerTwo.j0 : Nat → ByteArray → ByteArray → Bool → Option (Bool)
  | 0, _, _, _ => none
  | k + 1, x0, x1, x26 => if x26 = true then ((cylinderlaw35_awake.f).bind fun t178 => (some t178)) else ((lexer_Lex.f x0).bind fun bt179 => ((lexer_Lex.f x1).bind fun bt184 => (if x0.size + 1 ≤ 9223372036854775807 then (if (x0 ++ (⟨#[32]⟩ : ByteArray)).size + x1.size ≤ 9223372036854775807 then ((lexer_Lex.f ((x0 ++ (⟨#[32]⟩ : ByteArray)) ++ x1)).bind fun bt189 => (if bt179.2.2 = 0 then (if bt184.2.2 = 0 then (if bt189.2.2 = 0 then (cylinderlaw35_LexerTwo.j1 k x0 bt179.1 bt184.1 bt189.1 ((bt189.1.length : Int) != (wrap64 ((bt179.1.length : Int) + (bt184.1.length : Int))))) else (cylinderlaw35_LexerTwo.j1 k x0 bt179.1 bt184.1 bt189.1 true)) else (if bt189.2.2 = bt184.2.2 then (some (bt189.2.1 == (wrap64 ((wrap64 ((x0.size : Int) + 1)) + bt184.2.1)))) else (some false))) else (if bt189.2.2 = bt179.2.2 then (some (bt189.2.1 == bt179.2.1)) else (some false)))) else (none)) else (none))))
def cylinderlaw35_LexerTwo.j1 : Nat → ByteArray → List (S30) → List (S30) → List (S30) → Bool → Option (Bool)
  | 0, _, _, _, _, _ => none
  | k + 1, x0, x5, x8, x11, x84 => if x84 = true then (some false) else (cylinderlaw35_LexerTwo.l0 k x0 x5 x8 x11 (x11.length : Int) 0)
def cylinderlaw35_LexerTwo.l0 : Nat → ByteArray → List (S30) → List (S30) → List (S30) → Int → Int → Option (Bool)
  | 0, _, _, _, _, _, _ => none
  | k + 1, x0, x5, x8, x11, x86, x87 => if x87 < x86 then (if x87 < (x5.length : Int) then (if 0 ≤ x87 then (if x87 < (x11.length : Int) then (cylinderlaw35_LexerTwo.j3 k x0 x5 x8 x11 x87 x86 x87 (!(((rd_T30 x11 x87).f0) == ((rd_T30 x5 x87).f0)) || (!((((rd_T30 x11 x87).f1).toList) == (((rd_T30 x5 x87).f1).toList)) || (!(((rd_T30 x11 x87).f2) == ((rd_T30 x5 x87).f2)))))) else (none)) else (none)) else (cylinderlaw35_LexerTwo.j3 k x0 x5 x8 x11 x87 x86 x87 false)) else (some true)
def cylinderlaw35_LexerTwo.j3 : Nat → ByteArray → List (S30) → List (S30) → List (S30) → Int → Int → Int → Bool → Option (Bool)
  | 0, _, _, _, _, _, _, _, _ => none
  | k + 1, x0, x5, x8, x11, x14, x86, x87, x104 => if x104 = true then (some false) else (if x14 ≥ (x5.length : Int) then (if 0 ≤ x14 then (if x14 < (x11.length : Int) then (if 0 ≤ (wrap64 (x14 - (x5.length : Int))) then (if (wrap64 (x14 - (x5.length : Int))) < (x8.length : Int) then (if ((rd_T30 x11 x14).f1).toList = ((rd_T30 x8 (wrap64 (x14 - (x5.length : Int)))).f1).toList then (if ((rd_T30 x11 x14).f2) = (wrap64 ((wrap64 (((rd_T30 x8 (wrap64 (x14 - (x5.length : Int)))).f2) + (x0.size : Int))) + 1)) then (cylinderlaw35_LexerTwo.l0 k x0 x5 x8 x11 x86 (wrap64 (x87 + 1))) else (some false)) else (some false)) else (none)) else (none)) else (none)) else (none)) else (cylinderlaw35_LexerTwo.l0 k x0 x5 x8 x11 x86 (wrap64 (x87 + 1))))
end
def cylinderlaw35_LexerTwo.f (k : Nat) (a0 : ByteArray) (a1 : ByteArray) : Option (Bool) := (cylinderlaw35_awake.f).bind fun t177 => (if t177 = true then (if (a0.size : Int) ≥ 2000 then (cylinderlaw35_LexerTwo.j0 k a0 a1 true) else (cylinderlaw35_LexerTwo.j0 k a0 a1 (decide ((a1.size : Int) ≥ 2000)))) else (cylinderlaw35_LexerTwo.j0 k a0 a1 true))
theorem cylinderlaw35_LexerTwo.mono_l : ∀ k, (∀ y0 y1 y2, LeO (cylinderlaw35_LexerTwo.j0 k y0 y1 y2) (cylinderlaw35_LexerTwo.j0 (k + 1) y0 y1 y2)) ∧ (∀ y0 y1 y2 y3 y4, LeO (cylinderlaw35_LexerTwo.j1 k y0 y1 y2 y3 y4) (cylinderlaw35_LexerTwo.j1 (k + 1) y0 y1 y2 y3 y4)) ∧ (∀ y0 y1 y2 y3 y4 y5, LeO (cylinderlaw35_LexerTwo.l0 k y0 y1 y2 y3 y4 y5) (cylinderlaw35_LexerTwo.l0 (k + 1) y0 y1 y2 y3 y4 y5)) ∧ (∀ y0 y1 y2 y3 y4 y5 y6 y7, LeO (cylinderlaw35_LexerTwo.j3 k y0 y1 y2 y3 y4 y5 y6 y7) (cylinderlaw35_LexerTwo.j3 (k + 1) y0 y1 y2 y3 y4 y5 y6 y7))
  | 0 => ⟨fun _ _ _ r h => by simp [cylinderlaw35_LexerTwo.j0] at h, fun _ _ _ _ _ r h => by simp [cylinderlaw35_LexerTwo.j1] at h, fun _ _ _ _ _ _ r h => by simp [cylinderlaw35_LexerTwo.l0] at h, fun _ _ _ _ _ _ _ _ r h => by simp [cylinderlaw35_LexerTwo.j3] at h⟩
  | k + 1 => by
    obtain ⟨ih0, ih1, ih2, ih3⟩ := cylinderlaw35_LexerTwo.mono_l k
    refine ⟨?_, ?_, ?_, ?_⟩
    · intro y0 y1 y2
      unfold cylinderlaw35_LexerTwo.j0
      repeat' first
      | (with_reducible exact ih0 _ _ _)
      | (with_reducible exact ih1 _ _ _ _ _)
      | (with_reducible exact ih2 _ _ _ _ _ _)
      | (with_reducible exact ih3 _ _ _ _ _ _ _ _)
      | (with_reducible exact LeO.refl _)
      | (with_reducible exact LeO.none _)
      | (with_reducible refine LeO.ite ?_ ?_)
      | (with_reducible refine LeO.bind ?_ (fun _ => ?_))
      | exact ih0 _ _ _
      | exact ih1 _ _ _ _ _
      | exact ih2 _ _ _ _ _ _
      | exact ih3 _ _ _ _ _ _ _ _
      | exact LeO.none _
      | refine LeO.ite ?_ ?_
      | refine LeO.bind ?_ (fun _ => ?_)
    · intro y0 y1 y2 y3 y4
      unfold cylinderlaw35_LexerTwo.j1
      repeat' first
      | (with_reducible exact ih0 _ _ _)
      | (with_reducible exact ih1 _ _ _ _ _)
      | (with_reducible exact ih2 _ _ _ _ _ _)
      | (with_reducible exact ih3 _ _ _ _ _ _ _ _)
      | (with_reducible exact LeO.refl _)
      | (with_reducible exact LeO.none _)
      | (with_reducible refine LeO.ite ?_ ?_)
      | (with_reducible refine LeO.bind ?_ (fun _ => ?_))
      | exact ih0 _ _ _
      | exact ih1 _ _ _ _ _
      | exact ih2 _ _ _ _ _ _
      | exact ih3 _ _ _ _ _ _ _ _
      | exact LeO.none _
      | refine LeO.ite ?_ ?_
      | refine LeO.bind ?_ (fun _ => ?_)
    · intro y0 y1 y2 y3 y4 y5
      unfold cylinderlaw35_LexerTwo.l0
      repeat' first
      | (with_reducible exact ih0 _ _ _)
      | (with_reducible exact ih1 _ _ _ _ _)
      | (with_reducible exact ih2 _ _ _ _ _ _)
      | (with_reducible exact ih3 _ _ _ _ _ _ _ _)
      | (with_reducible exact LeO.refl _)
      | (with_reducible exact LeO.none _)
      | (with_reducible refine LeO.ite ?_ ?_)
      | (with_reducible refine LeO.bind ?_ (fun _ => ?_))
      | exact ih0 _ _ _
      | exact ih1 _ _ _ _ _
      | exact ih2 _ _ _ _ _ _
      | exact ih3 _ _ _ _ _ _ _ _
      | exact LeO.none _
      | refine LeO.ite ?_ ?_
      | refine LeO.bind ?_ (fun _ => ?_)
    · intro y0 y1 y2 y3 y4 y5 y6 y7
      unfold cylinderlaw35_LexerTwo.j3
      repeat' first
      | (with_reducible exact ih0 _ _ _)
      | (with_reducible exact ih1 _ _ _ _ _)
      | (with_reducible exact ih2 _ _ _ _ _ _)
      | (with_reducible exact ih3 _ _ _ _ _ _ _ _)
      | (with_reducible exact LeO.refl _)
      | (with_reducible exact LeO.none _)
      | (with_reducible refine LeO.ite ?_ ?_)
      | (with_reducible refine LeO.bind ?_ (fun _ => ?_))
      | exact ih0 _ _ _
      | exact ih1 _ _ _ _ _
      | exact ih2 _ _ _ _ _ _
      | exact ih3 _ _ _ _ _ _ _ _
      | exact LeO.none _
      | refine LeO.ite ?_ ?_
      | refine LeO.bind ?_ (fun _ => ?_)
theorem cylinderlaw35_LexerTwo.mono : ∀ a0 a1 k, LeO (cylinderlaw35_LexerTwo.f k a0 a1) (cylinderlaw35_LexerTwo.f (k + 1) a0 a1) := by
  intro a0 a1 k
  obtain ⟨ih0, ih1, ih2, ih3⟩ := cylinderlaw35_LexerTwo.mono_l k
  unfold cylinderlaw35_LexerTwo.f
  repeat' first
      | (with_reducible exact ih0 _ _ _)
      | (with_reducible exact ih1 _ _ _ _ _)
      | (with_reducible exact ih2 _ _ _ _ _ _)
      | (with_reducible exact ih3 _ _ _ _ _ _ _ _)
      | (with_reducible exact LeO.refl _)
      | (with_reducible exact LeO.none _)
      | (with_reducible refine LeO.ite ?_ ?_)
      | (with_reducible refine LeO.bind ?_ (fun _ => ?_))
      | exact ih0 _ _ _
      | exact ih1 _ _ _ _ _
      | exact ih2 _ _ _ _ _ _
      | exact ih3 _ _ _ _ _ _ _ _
      | exact LeO.none _
      | refine LeO.ite ?_ ?_
      | refine LeO.bind ?_ (fun _ => ?_)
set_option maxHeartbeats 8000000 in
set_option maxRecDepth 100000 in
theorem cylinderlaw35_LexerTwo.calls (k : Nat) (a0 : ByteArray) (a1 : ByteArray) (r : Bool) (w : World) (h : cylinderlaw35_LexerTwo.f k a0 a1 = some r) :
    Calls Try.prog 6 #[.string a0, .string a1] w fun e w' => e = .returned (.bool r) ∧ Below w.heap.size w w' := by
  have hu30 := Try.underlying30
  have HB := Aside0.mk (Below.refl w.heap.size w)
  have H : ((cylinderlaw35_awake.f).bind fun t177 => (if t177 = true then (if (a0.size : Int) ≥ 2000 then (cylinderlaw35_LexerTwo.j0 k a0 a1 true) else (cylinderlaw35_LexerTwo.j0 k a0 a1 (decide ((a1.size : Int) ≥ 2000)))) else (cylinderlaw35_LexerTwo.j0 k a0 a1 true))) = some r := h
  clear h
  have HC3 := Aside0.mk H
  clear H
  go_enter Try.func6, Try.ntmps6
  go_upto_region 1 with (fail)
  repeat (go_quiet (fail); go_upto_region 1 with (fail))
  go_cut [26] (fun v26 wc => ∃ (kq : Nat) (x26_2 : Bool), v26 = .bool x26_2 ∧ Aside0 (cylinderlaw35_LexerTwo.j0 kq a0 a1 x26_2 = some r) ∧ Aside0 (kq ≤ k) ∧ Aside0 (Below w.heap.size w wc))
  case first =>
    have H := HC3.out
    clear HC3
    replace H := Option.bind_eq_some_iff.mp H
    obtain ⟨t177, A40, H⟩ := H
    replace H : (if t177 = true then (if (a0.size : Int) ≥ 2000 then (cylinderlaw35_LexerTwo.j0 k a0 a1 true) else (cylinderlaw35_LexerTwo.j0 k a0 a1 (decide ((a1.size : Int) ≥ 2000)))) else (cylinderlaw35_LexerTwo.j0 k a0 a1 true)) = some r := H
    have A4 := Aside0.mk A40
    clear A40
    by_cases c5 : t177 = true
    · subst c5
      have H1 : (if (a0.size : Int) ≥ 2000 then (cylinderlaw35_LexerTwo.j0 k a0 a1 true) else (cylinderlaw35_LexerTwo.j0 k a0 a1 (decide ((a1.size : Int) ≥ 2000)))) = some r := by rw [if_pos rfl] at H; exact H
      clear H
      have H := H1
      clear H1
      by_cases c6 : (a0.size : Int) ≥ 2000
      · rw [if_pos c6] at H
        have c6b0 : decide (2000 ≤ (a0.size : Int)) = true := decide_eq_true c6
        have c6b1 : decide (2000 ≤ a0.size) = true := decide_eq_true (by omega)
        clear c6
        (first | rw [c6b0] | (simp only [i64_w, i32_w]; rw [c6b0]) | skip)
        have H' := Aside0.mk H
        clear H
        go_wp2_with (first | (go_at_call 12; (with_reducible refine (cylinderlaw35_awake.calls  true _ A4.out).mono ?_); rintro e w7 ⟨rfl, hb⟩; have n0_ := Aside0.mk (below_step (by repeat (first | (with_reducible first | exact HB.out | apply below_alloc | apply pw_below_drewN | apply below_drew1) | exact HB.out)) hb); clear HB; have HB := n0_; clear n0_; (try clear hb); (try clear hb2); (try clear hk); (try clear hi)))
        repeat (go_quiet (first | (go_at_call 12; (with_reducible refine (cylinderlaw35_awake.calls  true _ A4.out).mono ?_); rintro e w7 ⟨rfl, hb⟩; have n0_ := Aside0.mk (below_step (by repeat (first | (with_reducible first | exact HB.out | apply below_alloc | apply pw_below_drewN | apply below_drew1) | exact HB.out)) hb); clear HB; have HB := n0_; clear n0_; (try clear hb); (try clear hb2); (try clear hk); (try clear hi))); try go_wp2_with (first | (go_at_call 12; (with_reducible refine (cylinderlaw35_awake.calls  true _ A4.out).mono ?_); rintro e w7 ⟨rfl, hb⟩; have n0_ := Aside0.mk (below_step (by repeat (first | (with_reducible first | exact HB.out | apply below_alloc | apply pw_below_drewN | apply below_drew1) | exact HB.out)) hb); clear HB; have HB := n0_; clear n0_; (try clear hb); (try clear hb2); (try clear hk); (try clear hi))))
        go_meet
        case rel => exact ⟨_, (true), (by first | rfl | (simp; done) | (simp [*]; done)), H', ⟨by first | omega | exact Nat.le_refl _⟩, ⟨by repeat (first | (with_reducible first | exact HB.out | apply below_alloc | apply pw_below_drewN | apply below_drew1) | exact HB.out)⟩⟩
      · rw [if_neg c6] at H
        have c6b0 : decide (2000 ≤ (a0.size : Int)) = false := decide_eq_false c6
        have c6b1 : decide (2000 ≤ a0.size) = false := decide_eq_false (by omega)
        clear c6
        (first | rw [c6b0] | (simp only [i64_w, i32_w]; rw [c6b0]) | skip)
        have H' := Aside0.mk H
        clear H
        go_wp2_with (first | (go_at_call 12; (with_reducible refine (cylinderlaw35_awake.calls  true _ A4.out).mono ?_); rintro e w8 ⟨rfl, hb⟩; have n0_ := Aside0.mk (below_step (by repeat (first | (with_reducible first | exact HB.out | apply below_alloc | apply pw_below_drewN | apply below_drew1) | exact HB.out)) hb); clear HB; have HB := n0_; clear n0_; (try clear hb); (try clear hb2); (try clear hk); (try clear hi)))
        repeat (go_quiet (first | (go_at_call 12; (with_reducible refine (cylinderlaw35_awake.calls  true _ A4.out).mono ?_); rintro e w8 ⟨rfl, hb⟩; have n0_ := Aside0.mk (below_step (by repeat (first | (with_reducible first | exact HB.out | apply below_alloc | apply pw_below_drewN | apply below_drew1) | exact HB.out)) hb); clear HB; have HB := n0_; clear n0_; (try clear hb); (try clear hb2); (try clear hk); (try clear hi))); try go_wp2_with (first | (go_at_call 12; (with_reducible refine (cylinderlaw35_awake.calls  true _ A4.out).mono ?_); rintro e w8 ⟨rfl, hb⟩; have n0_ := Aside0.mk (below_step (by repeat (first | (with_reducible first | exact HB.out | apply below_alloc | apply pw_below_drewN | apply below_drew1) | exact HB.out)) hb); clear HB; have HB := n0_; clear n0_; (try clear hb); (try clear hb2); (try clear hk); (try clear hi))))
        go_meet
        case rel => exact ⟨_, (decide ((a1.size : Int) ≥ 2000)), (by first | rfl | (simp; done) | (simp [*]; done)), H', ⟨by first | omega | exact Nat.le_refl _⟩, ⟨by repeat (first | (with_reducible first | exact HB.out | apply below_alloc | apply pw_below_drewN | apply below_drew1) | exact HB.out)⟩⟩
    · replace c5 := Bool.eq_false_iff.mpr c5
      subst c5
      have H1 : (cylinderlaw35_LexerTwo.j0 k a0 a1 true) = some r := by rw [if_neg (show ¬ (false = true) by decide)] at H; exact H
      clear H
      have H := H1
      clear H1
      have H' := Aside0.mk H
      clear H
      go_wp2_with (first | (go_at_call 12; (with_reducible refine (cylinderlaw35_awake.calls  false _ A4.out).mono ?_); rintro e w9 ⟨rfl, hb⟩; have n0_ := Aside0.mk (below_step (by repeat (first | (with_reducible first | exact HB.out | apply below_alloc | apply pw_below_drewN | apply below_drew1) | exact HB.out)) hb); clear HB; have HB := n0_; clear n0_; (try clear hb); (try clear hb2); (try clear hk); (try clear hi)))
      repeat (go_quiet (first | (go_at_call 12; (with_reducible refine (cylinderlaw35_awake.calls  false _ A4.out).mono ?_); rintro e w9 ⟨rfl, hb⟩; have n0_ := Aside0.mk (below_step (by repeat (first | (with_reducible first | exact HB.out | apply below_alloc | apply pw_below_drewN | apply below_drew1) | exact HB.out)) hb); clear HB; have HB := n0_; clear n0_; (try clear hb); (try clear hb2); (try clear hk); (try clear hi))); try go_wp2_with (first | (go_at_call 12; (with_reducible refine (cylinderlaw35_awake.calls  false _ A4.out).mono ?_); rintro e w9 ⟨rfl, hb⟩; have n0_ := Aside0.mk (below_step (by repeat (first | (with_reducible first | exact HB.out | apply below_alloc | apply pw_below_drewN | apply below_drew1) | exact HB.out)) hb); clear HB; have HB := n0_; clear n0_; (try clear hb); (try clear hb2); (try clear hk); (try clear hi))))
      go_meet
      case rel => exact ⟨_, (true), (by first | rfl | (simp; done) | (simp [*]; done)), H', ⟨by first | omega | exact Nat.le_refl _⟩, ⟨by repeat (first | (with_reducible first | exact HB.out | apply below_alloc | apply pw_below_drewN | apply below_drew1) | exact HB.out)⟩⟩
  case rest =>
    clear HC3
    try clear p2
    try clear c5
    try clear c6
    try clear c6b0
    try clear c6b1
    obtain ⟨kq, x26_2, rfl, HA, HJ2, HB⟩ := hcut
    cases kq with
    | zero => exact absurd HA.out (by simp [cylinderlaw35_LexerTwo.j0])
    | succ kj2 =>
      have H := HA.out
      clear HA
      simp only [cylinderlaw35_LexerTwo.j0] at H
      by_cases c10 : x26_2 = true
      · subst c10
        have H1 : ((cylinderlaw35_awake.f).bind fun t178 => (some t178)) = some r := by rw [if_pos rfl] at H; exact H
        clear H
        have H := H1
        clear H1
        replace H := Option.bind_eq_some_iff.mp H
        obtain ⟨t178, A110, H⟩ := H
        replace H : (some t178) = some r := H
        have A11 := Aside0.mk A110
        clear A110
        obtain rfl := Option.some.inj H
        go_wp2_with (first | (go_at_call 12; (with_reducible refine (cylinderlaw35_awake.calls  t178 _ A11.out).mono ?_); rintro e w12 ⟨rfl, hb⟩; have n0_ := Aside0.mk (below_step (by repeat (first | (with_reducible first | exact HB.out | apply below_alloc | apply pw_below_drewN | apply below_drew1) | exact HB.out)) hb); clear HB; have HB := n0_; clear n0_; (try clear hb); (try clear hb2); (try clear hk); (try clear hi)))
        repeat (go_quiet (first | (go_at_call 12; (with_reducible refine (cylinderlaw35_awake.calls  t178 _ A11.out).mono ?_); rintro e w12 ⟨rfl, hb⟩; have n0_ := Aside0.mk (below_step (by repeat (first | (with_reducible first | exact HB.out | apply below_alloc | apply pw_below_drewN | apply below_drew1) | exact HB.out)) hb); clear HB; have HB := n0_; clear n0_; (try clear hb); (try clear hb2); (try clear hk); (try clear hi))); try go_wp2_with (first | (go_at_call 12; (with_reducible refine (cylinderlaw35_awake.calls  t178 _ A11.out).mono ?_); rintro e w12 ⟨rfl, hb⟩; have n0_ := Aside0.mk (below_step (by repeat (first | (with_reducible first | exact HB.out | apply below_alloc | apply pw_below_drewN | apply below_drew1) | exact HB.out)) hb); clear HB; have HB := n0_; clear n0_; (try clear hb); (try clear hb2); (try clear hk); (try clear hi))))
        go_ret
        exact ⟨by first | rfl | (simp [errW_none, errW_some] <;> rfl) | (simp [*, errW_none, errW_some] <;> rfl) | (rw [wrap64_wrap_add]; rfl) | (have e_ := Option.some.inj (A28.out.symm.trans A30.out); subst e_; rfl), by repeat (first | (with_reducible first | exact HB.out | apply below_alloc | apply pw_below_drewN | apply below_drew1) | exact HB.out)⟩
      · replace c10 := Bool.eq_false_iff.mpr c10
        subst c10
        have H1 : ((lexer_Lex.f a0).bind fun bt179 => ((lexer_Lex.f a1).bind fun bt184 => (if a0.size + 1 ≤ 9223372036854775807 then (if (a0 ++ (⟨#[32]⟩ : ByteArray)).size + a1.size ≤ 9223372036854775807 then ((lexer_Lex.f ((a0 ++ (⟨#[32]⟩ : ByteArray)) ++ a1)).bind fun bt189 => (if bt179.2.2 = 0 then (if bt184.2.2 = 0 then (if bt189.2.2 = 0 then (cylinderlaw35_LexerTwo.j1 kj2 a0 bt179.1 bt184.1 bt189.1 ((bt189.1.length : Int) != (wrap64 ((bt179.1.length : Int) + (bt184.1.length : Int))))) else (cylinderlaw35_LexerTwo.j1 kj2 a0 bt179.1 bt184.1 bt189.1 true)) else (if bt189.2.2 = bt184.2.2 then (some (bt189.2.1 == (wrap64 ((wrap64 ((a0.size : Int) + 1)) + bt184.2.1)))) else (some false))) else (if bt189.2.2 = bt179.2.2 then (some (bt189.2.1 == bt179.2.1)) else (some false)))) else (none)) else (none)))) = some r := by rw [if_neg (show ¬ (false = true) by decide)] at H; exact H
        clear H
        have H := H1
        clear H1
        replace H := Option.bind_eq_some_iff.mp H
        obtain ⟨⟨t179, t180, t181⟩, A130, H⟩ := H
        replace H : ((lexer_Lex.f a1).bind fun bt184 => (if a0.size + 1 ≤ 9223372036854775807 then (if (a0 ++ (⟨#[32]⟩ : ByteArray)).size + a1.size ≤ 9223372036854775807 then ((lexer_Lex.f ((a0 ++ (⟨#[32]⟩ : ByteArray)) ++ a1)).bind fun bt189 => (if t181 = 0 then (if bt184.2.2 = 0 then (if bt189.2.2 = 0 then (cylinderlaw35_LexerTwo.j1 kj2 a0 t179 bt184.1 bt189.1 ((bt189.1.length : Int) != (wrap64 ((t179.length : Int) + (bt184.1.length : Int))))) else (cylinderlaw35_LexerTwo.j1 kj2 a0 t179 bt184.1 bt189.1 true)) else (if bt189.2.2 = bt184.2.2 then (some (bt189.2.1 == (wrap64 ((wrap64 ((a0.size : Int) + 1)) + bt184.2.1)))) else (some false))) else (if bt189.2.2 = t181 then (some (bt189.2.1 == t180)) else (some false)))) else (none)) else (none))) = some r := H
        have A13 := Aside0.mk A130
        clear A130
        replace H := Option.bind_eq_some_iff.mp H
        obtain ⟨⟨t184, t185, t186⟩, A140, H⟩ := H
        replace H : (if a0.size + 1 ≤ 9223372036854775807 then (if (a0 ++ (⟨#[32]⟩ : ByteArray)).size + a1.size ≤ 9223372036854775807 then ((lexer_Lex.f ((a0 ++ (⟨#[32]⟩ : ByteArray)) ++ a1)).bind fun bt189 => (if t181 = 0 then (if t186 = 0 then (if bt189.2.2 = 0 then (cylinderlaw35_LexerTwo.j1 kj2 a0 t179 t184 bt189.1 ((bt189.1.length : Int) != (wrap64 ((t179.length : Int) + (t184.length : Int))))) else (cylinderlaw35_LexerTwo.j1 kj2 a0 t179 t184 bt189.1 true)) else (if bt189.2.2 = t186 then (some (bt189.2.1 == (wrap64 ((wrap64 ((a0.size : Int) + 1)) + t185)))) else (some false))) else (if bt189.2.2 = t181 then (some (bt189.2.1 == t180)) else (some false)))) else (none)) else (none)) = some r := H
        have A14 := Aside0.mk A140
        clear A140
        by_cases c15 : a0.size + 1 ≤ 9223372036854775807
        · rw [if_pos c15] at H
          have c15b0 := eq_true c15
          have c15b1 : decide (a0.size + 1 ≤ 9223372036854775807) = true := decide_eq_true c15
          try have c15b2 : (9223372036854775807 < a0.size + 1) = False := eq_false (Nat.not_lt.2 c15)
          by_cases c16 : (a0 ++ (⟨#[32]⟩ : ByteArray)).size + a1.size ≤ 9223372036854775807
          · rw [if_pos c16] at H
            have c16b0 := eq_true c16
            have c16b1 : decide ((a0 ++ (⟨#[32]⟩ : ByteArray)).size + a1.size ≤ 9223372036854775807) = true := decide_eq_true c16
            try have c16b2 : (9223372036854775807 < (a0 ++ (⟨#[32]⟩ : ByteArray)).size + a1.size) = False := eq_false (Nat.not_lt.2 c16)
            replace H := Option.bind_eq_some_iff.mp H
            obtain ⟨⟨t189, t190, t191⟩, A170, H⟩ := H
            replace H : (if t181 = 0 then (if t186 = 0 then (if t191 = 0 then (cylinderlaw35_LexerTwo.j1 kj2 a0 t179 t184 t189 ((t189.length : Int) != (wrap64 ((t179.length : Int) + (t184.length : Int))))) else (cylinderlaw35_LexerTwo.j1 kj2 a0 t179 t184 t189 true)) else (if t191 = t186 then (some (t190 == (wrap64 ((wrap64 ((a0.size : Int) + 1)) + t185)))) else (some false))) else (if t191 = t181 then (some (t190 == t180)) else (some false))) = some r := H
            have A17 := Aside0.mk A170
            clear A170
            by_cases c18 : t181 = 0
            · rw [if_pos c18] at H
              have c18b0 : (t181 == 0) = true := beq_iff_eq.mpr c18
              have c18b1 : (t181 != 0) = false := bne_eq_false_iff_eq.mpr c18
              clear c18
              by_cases c19 : t186 = 0
              · rw [if_pos c19] at H
                have c19b0 : (t186 == 0) = true := beq_iff_eq.mpr c19
                have c19b1 : (t186 != 0) = false := bne_eq_false_iff_eq.mpr c19
                clear c19
                have HC20 := Aside0.mk H
                clear H
                go_upto_region 10 with (first | (go_at_call 13; (with_reducible refine (lexer_Lex.calls a0 t179 t180 t181 _ A13.out).mono ?_); rintro e w21 ⟨v182, rfl, ho0, hb⟩; have n0_ := Aside0.mk (Kd.R_lower ho0 (below_size (by repeat (first | (with_reducible first | exact HB.out | apply below_alloc | apply pw_below_drewN | apply below_drew1) | exact HB.out)))); have n1_ := Aside0.mk (below_step (by repeat (first | (with_reducible first | exact HB.out | apply below_alloc | apply pw_below_drewN | apply below_drew1) | exact HB.out)) hb); clear HB; have HO183 := n0_; have HB := n1_; clear n0_ n1_; (try clear hb); (try clear hb2); (try clear hk); (try clear hi); (try clear ho0)) | (go_at_call 13; (with_reducible refine (lexer_Lex.calls a1 t184 t185 t186 _ A14.out).mono ?_); rintro e w22 ⟨v187, rfl, ho0, hb⟩; have n0_ := Aside0.mk (Kd.R_elder' (by (with_reducible repeat (first | apply Kd.R_alloc | apply Kd.R_drewN | apply Kd.R_drew)); exact HO183.out) (Kd.R_base ho0) hb); have n1_ := Aside0.mk (Kd.R_lower (Kd.R_new' ho0 (Kd.R_lt (by (with_reducible repeat (first | apply Kd.R_alloc | apply Kd.R_drewN | apply Kd.R_drew)); exact HO183.out))) (below_size (by repeat (first | (with_reducible first | exact HB.out | apply below_alloc | apply pw_below_drewN | apply below_drew1) | exact HB.out)))); have n2_ := Aside0.mk (below_step (by repeat (first | (with_reducible first | exact HB.out | apply below_alloc | apply pw_below_drewN | apply below_drew1) | exact HB.out)) hb); clear HO183; clear HB; have HO183 := n0_; have HO188 := n1_; have HB := n2_; clear n0_ n1_ n2_; (try clear hb); (try clear hb2); (try clear hk); (try clear hi); (try clear ho0)) | (go_at_call 13; (with_reducible refine (lexer_Lex.calls ((a0 ++ (⟨#[32]⟩ : ByteArray)) ++ a1) t189 t190 t191 _ A17.out).mono ?_); rintro e w23 ⟨v192, rfl, ho0, hb⟩; have n0_ := Aside0.mk (Kd.R_elder' (by (with_reducible repeat (first | apply Kd.R_alloc | apply Kd.R_drewN | apply Kd.R_drew)); exact HO183.out) (Kd.R_base ho0) hb); have n1_ := Aside0.mk (Kd.R_elder' (by (with_reducible repeat (first | apply Kd.R_alloc | apply Kd.R_drewN | apply Kd.R_drew)); exact HO188.out) (Kd.R_base ho0) hb); have n2_ := Aside0.mk (Kd.R_lower (Kd.R_new' (Kd.R_new' ho0 (Kd.R_lt (by (with_reducible repeat (first | apply Kd.R_alloc | apply Kd.R_drewN | apply Kd.R_drew)); exact HO183.out))) (Kd.R_lt (by (with_reducible repeat (first | apply Kd.R_alloc | apply Kd.R_drewN | apply Kd.R_drew)); exact HO188.out))) (below_size (by repeat (first | (with_reducible first | exact HB.out | apply below_alloc | apply pw_below_drewN | apply below_drew1) | exact HB.out)))); have n3_ := Aside0.mk (below_step (by repeat (first | (with_reducible first | exact HB.out | apply below_alloc | apply pw_below_drewN | apply below_drew1) | exact HB.out)) hb); clear HO183; clear HO188; clear HB; have HO183 := n0_; have HO188 := n1_; have HO193 := n2_; have HB := n3_; clear n0_ n1_ n2_ n3_; (try clear hb); (try clear hb2); (try clear hk); (try clear hi); (try clear ho0)))
                repeat (go_quiet (first | (go_at_call 13; (with_reducible refine (lexer_Lex.calls a0 t179 t180 t181 _ A13.out).mono ?_); rintro e w21 ⟨v182, rfl, ho0, hb⟩; have n0_ := Aside0.mk (Kd.R_lower ho0 (below_size (by repeat (first | (with_reducible first | exact HB.out | apply below_alloc | apply pw_below_drewN | apply below_drew1) | exact HB.out)))); have n1_ := Aside0.mk (below_step (by repeat (first | (with_reducible first | exact HB.out | apply below_alloc | apply pw_below_drewN | apply below_drew1) | exact HB.out)) hb); clear HB; have HO183 := n0_; have HB := n1_; clear n0_ n1_; (try clear hb); (try clear hb2); (try clear hk); (try clear hi); (try clear ho0)) | (go_at_call 13; (with_reducible refine (lexer_Lex.calls a1 t184 t185 t186 _ A14.out).mono ?_); rintro e w22 ⟨v187, rfl, ho0, hb⟩; have n0_ := Aside0.mk (Kd.R_elder' (by (with_reducible repeat (first | apply Kd.R_alloc | apply Kd.R_drewN | apply Kd.R_drew)); exact HO183.out) (Kd.R_base ho0) hb); have n1_ := Aside0.mk (Kd.R_lower (Kd.R_new' ho0 (Kd.R_lt (by (with_reducible repeat (first | apply Kd.R_alloc | apply Kd.R_drewN | apply Kd.R_drew)); exact HO183.out))) (below_size (by repeat (first | (with_reducible first | exact HB.out | apply below_alloc | apply pw_below_drewN | apply below_drew1) | exact HB.out)))); have n2_ := Aside0.mk (below_step (by repeat (first | (with_reducible first | exact HB.out | apply below_alloc | apply pw_below_drewN | apply below_drew1) | exact HB.out)) hb); clear HO183; clear HB; have HO183 := n0_; have HO188 := n1_; have HB := n2_; clear n0_ n1_ n2_; (try clear hb); (try clear hb2); (try clear hk); (try clear hi); (try clear ho0)) | (go_at_call 13; (with_reducible refine (lexer_Lex.calls ((a0 ++ (⟨#[32]⟩ : ByteArray)) ++ a1) t189 t190 t191 _ A17.out).mono ?_); rintro e w23 ⟨v192, rfl, ho0, hb⟩; have n0_ := Aside0.mk (Kd.R_elder' (by (with_reducible repeat (first | apply Kd.R_alloc | apply Kd.R_drewN | apply Kd.R_drew)); exact HO183.out) (Kd.R_base ho0) hb); have n1_ := Aside0.mk (Kd.R_elder' (by (with_reducible repeat (first | apply Kd.R_alloc | apply Kd.R_drewN | apply Kd.R_drew)); exact HO188.out) (Kd.R_base ho0) hb); have n2_ := Aside0.mk (Kd.R_lower (Kd.R_new' (Kd.R_new' ho0 (Kd.R_lt (by (with_reducible repeat (first | apply Kd.R_alloc | apply Kd.R_drewN | apply Kd.R_drew)); exact HO183.out))) (Kd.R_lt (by (with_reducible repeat (first | apply Kd.R_alloc | apply Kd.R_drewN | apply Kd.R_drew)); exact HO188.out))) (below_size (by repeat (first | (with_reducible first | exact HB.out | apply below_alloc | apply pw_below_drewN | apply below_drew1) | exact HB.out)))); have n3_ := Aside0.mk (below_step (by repeat (first | (with_reducible first | exact HB.out | apply below_alloc | apply pw_below_drewN | apply below_drew1) | exact HB.out)) hb); clear HO183; clear HO188; clear HB; have HO183 := n0_; have HO188 := n1_; have HO193 := n2_; have HB := n3_; clear n0_ n1_ n2_ n3_; (try clear hb); (try clear hb2); (try clear hk); (try clear hi); (try clear ho0))); go_upto_region 10 with (first | (go_at_call 13; (with_reducible refine (lexer_Lex.calls a0 t179 t180 t181 _ A13.out).mono ?_); rintro e w21 ⟨v182, rfl, ho0, hb⟩; have n0_ := Aside0.mk (Kd.R_lower ho0 (below_size (by repeat (first | (with_reducible first | exact HB.out | apply below_alloc | apply pw_below_drewN | apply below_drew1) | exact HB.out)))); have n1_ := Aside0.mk (below_step (by repeat (first | (with_reducible first | exact HB.out | apply below_alloc | apply pw_below_drewN | apply below_drew1) | exact HB.out)) hb); clear HB; have HO183 := n0_; have HB := n1_; clear n0_ n1_; (try clear hb); (try clear hb2); (try clear hk); (try clear hi); (try clear ho0)) | (go_at_call 13; (with_reducible refine (lexer_Lex.calls a1 t184 t185 t186 _ A14.out).mono ?_); rintro e w22 ⟨v187, rfl, ho0, hb⟩; have n0_ := Aside0.mk (Kd.R_elder' (by (with_reducible repeat (first | apply Kd.R_alloc | apply Kd.R_drewN | apply Kd.R_drew)); exact HO183.out) (Kd.R_base ho0) hb); have n1_ := Aside0.mk (Kd.R_lower (Kd.R_new' ho0 (Kd.R_lt (by (with_reducible repeat (first | apply Kd.R_alloc | apply Kd.R_drewN | apply Kd.R_drew)); exact HO183.out))) (below_size (by repeat (first | (with_reducible first | exact HB.out | apply below_alloc | apply pw_below_drewN | apply below_drew1) | exact HB.out)))); have n2_ := Aside0.mk (below_step (by repeat (first | (with_reducible first | exact HB.out | apply below_alloc | apply pw_below_drewN | apply below_drew1) | exact HB.out)) hb); clear HO183; clear HB; have HO183 := n0_; have HO188 := n1_; have HB := n2_; clear n0_ n1_ n2_; (try clear hb); (try clear hb2); (try clear hk); (try clear hi); (try clear ho0)) | (go_at_call 13; (with_reducible refine (lexer_Lex.calls ((a0 ++ (⟨#[32]⟩ : ByteArray)) ++ a1) t189 t190 t191 _ A17.out).mono ?_); rintro e w23 ⟨v192, rfl, ho0, hb⟩; have n0_ := Aside0.mk (Kd.R_elder' (by (with_reducible repeat (first | apply Kd.R_alloc | apply Kd.R_drewN | apply Kd.R_drew)); exact HO183.out) (Kd.R_base ho0) hb); have n1_ := Aside0.mk (Kd.R_elder' (by (with_reducible repeat (first | apply Kd.R_alloc | apply Kd.R_drewN | apply Kd.R_drew)); exact HO188.out) (Kd.R_base ho0) hb); have n2_ := Aside0.mk (Kd.R_lower (Kd.R_new' (Kd.R_new' ho0 (Kd.R_lt (by (with_reducible repeat (first | apply Kd.R_alloc | apply Kd.R_drewN | apply Kd.R_drew)); exact HO183.out))) (Kd.R_lt (by (with_reducible repeat (first | apply Kd.R_alloc | apply Kd.R_drewN | apply Kd.R_drew)); exact HO188.out))) (below_size (by repeat (first | (with_reducible first | exact HB.out | apply below_alloc | apply pw_below_drewN | apply below_drew1) | exact HB.out)))); have n3_ := Aside0.mk (below_step (by repeat (first | (with_reducible first | exact HB.out | apply below_alloc | apply pw_below_drewN | apply below_drew1) | exact HB.out)) hb); clear HO183; clear HO188; clear HB; have HO183 := n0_; have HO188 := n1_; have HO193 := n2_; have HB := n3_; clear n0_ n1_ n2_ n3_; (try clear hb); (try clear hb2); (try clear hk); (try clear hi); (try clear ho0))))
                (try simp only [Act.put, List.setIfInBounds_toArray, List.set_cons_zero, List.set_cons_succ])
                go_cut [84] (fun v84 wc => ∃ (kq : Nat) (x84_19 : Bool), v84 = .bool x84_19 ∧ Aside0 (cylinderlaw35_LexerTwo.j1 kq a0 t179 t184 t189 x84_19 = some r) ∧ Aside0 (kq ≤ kj2) ∧ Aside0 (Kd.R k30 30 wc w.heap.size (fun k_ => some k_ ≠ (v187 : Value).ownBlock ∧ some k_ ≠ (v192 : Value).ownBlock) v182 t179) ∧ Aside0 (Kd.R k30 30 wc w.heap.size (fun k_ => some k_ ≠ (v182 : Value).ownBlock ∧ some k_ ≠ (v192 : Value).ownBlock) v187 t184) ∧ Aside0 (Kd.R k30 30 wc w.heap.size (fun k_ => some k_ ≠ (v182 : Value).ownBlock ∧ some k_ ≠ (v187 : Value).ownBlock) v192 t189) ∧ Aside0 (Below w.heap.size w wc))
                case first =>
                  have H := HC20.out
                  clear HC20
                  by_cases c24 : t191 = 0
                  · rw [if_pos c24] at H
                    have c24b0 : (t191 == 0) = true := beq_iff_eq.mpr c24
                    have c24b1 : (t191 != 0) = false := bne_eq_false_iff_eq.mpr c24
                    clear c24
                    (first | rw [c24b0] | (simp only [i64_w, i32_w]; rw [c24b0]) | skip)
                    have H' := Aside0.mk H
                    clear H
                    obtain ⟨Ao25, co25, eo25⟩ := Kd.R_slice HO193.out
                    subst eo25
                    obtain ⟨Ao26, co26, eo26⟩ := Kd.R_slice HO183.out
                    subst eo26
                    obtain ⟨Ao27, co27, eo27⟩ := Kd.R_slice HO188.out
                    subst eo27
                    go_wp2
                    repeat (go_quiet (fail); try go_wp2)
                    go_meet
                    case rel => exact ⟨_, (((t189.length : Int) != (wrap64 ((t179.length : Int) + (t184.length : Int))))), (by first | rfl | (simp; done) | (simp [*]; done)), H', ⟨by have := HJ2.out; first | omega | exact Nat.le_refl _⟩, ⟨by (with_reducible repeat (first | apply Kd.R_alloc | apply Kd.R_drewN | apply Kd.R_drew)); exact Kd.R_mono HO183.out (fun _ hk => ⟨hk.1.2, hk.2⟩)⟩, ⟨by (with_reducible repeat (first | apply Kd.R_alloc | apply Kd.R_drewN | apply Kd.R_drew)); exact Kd.R_mono HO188.out (fun _ hk => ⟨hk.1.2, hk.2⟩)⟩, ⟨by (with_reducible repeat (first | apply Kd.R_alloc | apply Kd.R_drewN | apply Kd.R_drew)); exact Kd.R_mono HO193.out (fun _ hk => ⟨hk.1.2, hk.2⟩)⟩, ⟨by repeat (first | (with_reducible first | exact HB.out | apply below_alloc | apply pw_below_drewN | apply below_drew1) | exact HB.out)⟩⟩
                  · rw [if_neg c24] at H
                    have c24b0 : (t191 == 0) = false := beq_eq_false_iff_ne.mpr c24
                    have c24b1 : (t191 != 0) = true := bne_iff_ne.mpr c24
                    (first | rw [c24b0] | (simp only [i64_w, i32_w]; rw [c24b0]) | skip)
                    have H' := Aside0.mk H
                    clear H
                    go_wp2
                    repeat (go_quiet (fail); try go_wp2)
                    go_meet
                    case rel => exact ⟨_, (true), (by first | rfl | (simp; done) | (simp [*]; done)), H', ⟨by have := HJ2.out; first | omega | exact Nat.le_refl _⟩, ⟨by (with_reducible repeat (first | apply Kd.R_alloc | apply Kd.R_drewN | apply Kd.R_drew)); exact Kd.R_mono HO183.out (fun _ hk => ⟨hk.1.2, hk.2⟩)⟩, ⟨by (with_reducible repeat (first | apply Kd.R_alloc | apply Kd.R_drewN | apply Kd.R_drew)); exact Kd.R_mono HO188.out (fun _ hk => ⟨hk.1.2, hk.2⟩)⟩, ⟨by (with_reducible repeat (first | apply Kd.R_alloc | apply Kd.R_drewN | apply Kd.R_drew)); exact Kd.R_mono HO193.out (fun _ hk => ⟨hk.1.2, hk.2⟩)⟩, ⟨by repeat (first | (with_reducible first | exact HB.out | apply below_alloc | apply pw_below_drewN | apply below_drew1) | exact HB.out)⟩⟩
                case rest =>
                  clear HC20
                  try clear c1
                  try clear c2
                  try clear p2
                  try clear c5
                  try clear c6
                  try clear c6b0
                  try clear c6b1
                  try clear p6
                  try clear c10
                  try clear c15
                  try clear c15b0
                  try clear c15b1
                  try clear c15b2
                  try clear c16
                  try clear c16b0
                  try clear c16b1
                  try clear c16b2
                  try clear c18
                  try clear c18b0
                  try clear c18b1
                  try clear c19
                  try clear c19b0
                  try clear c19b1
                  try clear c24
                  try clear c24b0
                  try clear c24b1
                  try clear p2
                  obtain ⟨kq, x84_19, rfl, HA, HJ19, HO_5, HO_8, HO_11, HB⟩ := hcut
                  cases kq with
                  | zero => exact absurd HA.out (by simp [cylinderlaw35_LexerTwo.j1])
                  | succ kj19 =>
                    have H := HA.out
                    clear HA
                    simp only [cylinderlaw35_LexerTwo.j1] at H
                    by_cases c28 : x84_19 = true
                    · subst c28
                      have H1 : (some false) = some r := by rw [if_pos rfl] at H; exact H
                      clear H
                      have H := H1
                      clear H1
                      obtain rfl := Option.some.inj H
                      go_wp2
                      repeat (go_quiet (fail); try go_wp2)
                      go_ret
                      exact ⟨by first | rfl | (simp [errW_none, errW_some] <;> rfl) | (simp [*, errW_none, errW_some] <;> rfl) | (rw [wrap64_wrap_add]; rfl) | (have e_ := Option.some.inj (A28.out.symm.trans A30.out); subst e_; rfl), by repeat (first | (with_reducible first | exact HB.out | apply below_alloc | apply pw_below_drewN | apply below_drew1) | exact HB.out)⟩
                    · replace c28 := Bool.eq_false_iff.mpr c28
                      subst c28
                      have H1 : (cylinderlaw35_LexerTwo.l0 kj19 a0 t179 t184 t189 (t189.length : Int) 0) = some r := by rw [if_neg (show ¬ (false = true) by decide)] at H; exact H
                      clear H
                      have H := H1
                      clear H1
                      have H' := Aside0.mk H
                      clear H
                      obtain ⟨Ao29, co29, eo29⟩ := Kd.R_slice HO_11.out
                      subst eo29
                      go_wp2
                      repeat (go_quiet (fail); try go_wp2)
                      go_loopg [87] kj19 (fun kq v87 w' => ∃ (x87_3 : Int), v87 = .int .i64 x87_3 ∧ Aside0 (cylinderlaw35_LexerTwo.l0 kq a0 t179 t184 t189 (t189.length : Int) x87_3 = some r) ∧ Aside0 (kq ≤ kj19) ∧ Aside0 (Kd.R k30 30 w' w.heap.size (fun k_ => some k_ ≠ (v187 : Value).ownBlock ∧ some k_ ≠ ((.slice Ao29 t189.length co29) : Value).ownBlock) v182 t179) ∧ Aside0 (Kd.R k30 30 w' w.heap.size (fun k_ => some k_ ≠ (v182 : Value).ownBlock ∧ some k_ ≠ ((.slice Ao29 t189.length co29) : Value).ownBlock) v187 t184) ∧ Aside0 (Kd.R k30 30 w' w.heap.size (fun k_ => some k_ ≠ (v182 : Value).ownBlock ∧ some k_ ≠ (v187 : Value).ownBlock) (.slice Ao29 t189.length co29) t189) ∧ Aside0 (Below w.heap.size w w'))
                      case atStart => exact ⟨(0), (by first | rfl | (simp; done) | (simp [*]; done)), H', ⟨Nat.le_refl _⟩, ⟨by (with_reducible repeat (first | apply Kd.R_alloc | apply Kd.R_drewN | apply Kd.R_drew)); exact HO_5.out⟩, ⟨by (with_reducible repeat (first | apply Kd.R_alloc | apply Kd.R_drewN | apply Kd.R_drew)); exact HO_8.out⟩, ⟨by (with_reducible repeat (first | apply Kd.R_alloc | apply Kd.R_drewN | apply Kd.R_drew)); exact HO_11.out⟩, ⟨by repeat (first | (with_reducible first | exact HB.out | apply below_alloc | apply pw_below_drewN | apply below_drew1) | exact HB.out)⟩⟩
                      case round =>
                        clear H'
                        try clear c1
                        try clear c2
                        try clear p2
                        try clear c5
                        try clear c6
                        try clear c6b0
                        try clear c6b1
                        try clear p6
                        try clear c10
                        try clear c15
                        try clear c15b0
                        try clear c15b1
                        try clear c15b2
                        try clear c16
                        try clear c16b0
                        try clear c16b1
                        try clear c16b2
                        try clear c18
                        try clear c18b0
                        try clear c18b1
                        try clear c19
                        try clear c19b0
                        try clear c19b1
                        try clear c24
                        try clear c24b0
                        try clear c24b1
                        try clear c28
                        try clear p2
                        try clear p6
                        obtain ⟨x87_3, rfl, HA, HK3, HO_5, HO_8, HO_11, HB⟩ := hrel
                        cases gk with
                        | zero => exact absurd HA.out (by simp [cylinderlaw35_LexerTwo.l0])
                        | succ k3 =>
                          have H := HA.out
                          clear HA
                          simp only [cylinderlaw35_LexerTwo.l0] at H
                          by_cases c30 : x87_3 < (t189.length : Int)
                          · rw [if_pos c30] at H
                            have c30b0 : decide (x87_3 < (t189.length : Int)) = true := decide_eq_true c30
                            clear c30
                            have HC31 := Aside0.mk H
                            clear H
                            go_upto_region 15 with (fail)
                            repeat (go_quiet (fail); go_upto_region 15 with (fail))
                            go_cut [104] (fun v104 wc => ∃ (kq : Nat) (x104_30 : Bool), v104 = .bool x104_30 ∧ Aside0 (cylinderlaw35_LexerTwo.j3 kq a0 t179 t184 t189 x87_3 (t189.length : Int) x87_3 x104_30 = some r) ∧ Aside0 (kq ≤ k3) ∧ Aside0 (Kd.R k30 30 wc w.heap.size (fun k_ => some k_ ≠ (v187 : Value).ownBlock ∧ some k_ ≠ ((.slice Ao29 t189.length co29) : Value).ownBlock) v182 t179) ∧ Aside0 (Kd.R k30 30 wc w.heap.size (fun k_ => some k_ ≠ (v182 : Value).ownBlock ∧ some k_ ≠ ((.slice Ao29 t189.length co29) : Value).ownBlock) v187 t184) ∧ Aside0 (Kd.R k30 30 wc w.heap.size (fun k_ => some k_ ≠ (v182 : Value).ownBlock ∧ some k_ ≠ (v187 : Value).ownBlock) (.slice Ao29 t189.length co29) t189) ∧ Aside0 (Below w.heap.size w wc))
                            case first =>
                              have H := HC31.out
                              clear HC31
                              by_cases c32 : x87_3 < (t179.length : Int)
                              · rw [if_pos c32] at H
                                have c32b0 : decide (x87_3 < (t179.length : Int)) = true := decide_eq_true c32
                                clear c32
                                (first | rw [c32b0] | (simp only [i64_w, i32_w]; rw [c32b0]) | skip)
                                by_cases c33 : 0 ≤ x87_3
                                · rw [if_pos c33] at H
                                  have c33b0 : decide (0 ≤ x87_3) = true := decide_eq_true c33
                                  clear c33
                                  by_cases c34 : x87_3 < (t189.length : Int)
                                  · rw [if_pos c34] at H
                                    have c34b0 : decide (x87_3 < (t189.length : Int)) = true := decide_eq_true c34
                                    clear c34
                                    have H' := Aside0.mk H
                                    clear H
                                    obtain ⟨Ao35, co35, eo35⟩ := Kd.R_slice HO_5.out
                                    subst eo35
                                    have p194 : 0 ≤ (x87_3 : Int) := of_decide_eq_true (by first | (with_reducible assumption) | assumption)
                                    have q194 : x87_3 < (t189.length : Int) := of_decide_eq_true (by first | (with_reducible assumption) | assumption)
                                    obtain ⟨ad194, e194, hx194_0, hx194_1, hx194_2⟩ := at_T30 (Kd.R_reads' HO_11.out).2.2 x87_3 p194 q194
                                    cases e194
                                    replace p194 := eq_true p194
                                    replace q194 := eq_true q194
                                    have p195 : 0 ≤ (x87_3 : Int) := of_decide_eq_true (by first | (with_reducible assumption) | assumption)
                                    have q195 : x87_3 < (t179.length : Int) := of_decide_eq_true (by first | (with_reducible assumption) | assumption)
                                    obtain ⟨ad195, e195, hx195_0, hx195_1, hx195_2⟩ := at_T30 (Kd.R_reads' HO_5.out).2.2 x87_3 p195 q195
                                    cases e195
                                    replace p195 := eq_true p195
                                    replace q195 := eq_true q195
                                    go_wp2
                                    repeat (go_quiet (fail); try go_wp2)
                                    go_meet
                                    case rel => exact ⟨_, ((!(((rd_T30 t189 x87_3).f0) == ((rd_T30 t179 x87_3).f0)) || (!((((rd_T30 t189 x87_3).f1).toList) == (((rd_T30 t179 x87_3).f1).toList)) || (!(((rd_T30 t189 x87_3).f2) == ((rd_T30 t179 x87_3).f2)))))), (by first | rfl | (simp; done) | (simp [*]; done)), H', ⟨by have := HJ2.out; have := HJ19.out; have := HK3.out; first | omega | exact Nat.le_refl _⟩, ⟨by (with_reducible repeat (first | apply Kd.R_alloc | apply Kd.R_drewN | apply Kd.R_drew)); exact HO_5.out⟩, ⟨by (with_reducible repeat (first | apply Kd.R_alloc | apply Kd.R_drewN | apply Kd.R_drew)); exact HO_8.out⟩, ⟨by (with_reducible repeat (first | apply Kd.R_alloc | apply Kd.R_drewN | apply Kd.R_drew)); exact HO_11.out⟩, ⟨by repeat (first | (with_reducible first | exact HB.out | apply below_alloc | apply pw_below_drewN | apply below_drew1) | exact HB.out)⟩⟩
                                  · rw [if_neg c34] at H
                                    exact absurd H (by simp)
                                · rw [if_neg c33] at H
                                  exact absurd H (by simp)
                              · rw [if_neg c32] at H
                                have c32b0 : decide (x87_3 < (t179.length : Int)) = false := decide_eq_false c32
                                clear c32
                                (first | rw [c32b0] | (simp only [i64_w, i32_w]; rw [c32b0]) | skip)
                                have H' := Aside0.mk H
                                clear H
                                obtain ⟨Ao36, co36, eo36⟩ := Kd.R_slice HO_5.out
                                subst eo36
                                go_wp2
                                repeat (go_quiet (fail); try go_wp2)
                                go_meet
                                case rel => exact ⟨_, (false), (by first | rfl | (simp; done) | (simp [*]; done)), H', ⟨by have := HJ2.out; have := HJ19.out; have := HK3.out; first | omega | exact Nat.le_refl _⟩, ⟨by (with_reducible repeat (first | apply Kd.R_alloc | apply Kd.R_drewN | apply Kd.R_drew)); exact HO_5.out⟩, ⟨by (with_reducible repeat (first | apply Kd.R_alloc | apply Kd.R_drewN | apply Kd.R_drew)); exact HO_8.out⟩, ⟨by (with_reducible repeat (first | apply Kd.R_alloc | apply Kd.R_drewN | apply Kd.R_drew)); exact HO_11.out⟩, ⟨by repeat (first | (with_reducible first | exact HB.out | apply below_alloc | apply pw_below_drewN | apply below_drew1) | exact HB.out)⟩⟩
                            case rest =>
                              clear HC31
                              try clear c1
                              try clear p1
                              try clear q1
                              try clear hx1
                              try clear c2
                              try clear p2
                              try clear c3
                              try clear c5
                              try clear c6
                              try clear c6b0
                              try clear c6b1
                              try clear p6
                              try clear c10
                              try clear c15
                              try clear c15b0
                              try clear c15b1
                              try clear c15b2
                              try clear c16
                              try clear c16b0
                              try clear c16b1
                              try clear c16b2
                              try clear c18
                              try clear c18b0
                              try clear c18b1
                              try clear c19
                              try clear c19b0
                              try clear c19b1
                              try clear p19
                              try clear q19
                              try clear hx19
                              try clear c24
                              try clear c24b0
                              try clear c24b1
                              try clear c28
                              try clear c30
                              try clear c30b0
                              try clear c32
                              try clear c32b0
                              try clear c33
                              try clear c33b0
                              try clear c34
                              try clear c34b0
                              try clear hx194_0
                              try clear hx194_1
                              try clear hx194_2
                              try clear hx195_0
                              try clear hx195_1
                              try clear hx195_2
                              try clear p194
                              try clear p195
                              try clear p2
                              try clear p6
                              try clear q194
                              try clear q195
                              obtain ⟨kq, x104_30, rfl, HA, HJ30, HO_5, HO_8, HO_11, HB⟩ := hcut
                              cases kq with
                              | zero => exact absurd HA.out (by simp [cylinderlaw35_LexerTwo.j3])
                              | succ kj30 =>
                                have H := HA.out
                                clear HA
                                simp only [cylinderlaw35_LexerTwo.j3] at H
                                by_cases c37 : x104_30 = true
                                · subst c37
                                  have H1 : (some false) = some r := by rw [if_pos rfl] at H; exact H
                                  clear H
                                  have H := H1
                                  clear H1
                                  obtain rfl := Option.some.inj H
                                  go_wp2
                                  repeat (go_quiet (fail); try go_wp2)
                                  go_ret
                                  exact ⟨by first | rfl | (simp [errW_none, errW_some] <;> rfl) | (simp [*, errW_none, errW_some] <;> rfl) | (rw [wrap64_wrap_add]; rfl) | (have e_ := Option.some.inj (A28.out.symm.trans A30.out); subst e_; rfl), by repeat (first | (with_reducible first | exact HB.out | apply below_alloc | apply pw_below_drewN | apply below_drew1) | exact HB.out)⟩
                                · replace c37 := Bool.eq_false_iff.mpr c37
                                  subst c37
                                  have H1 : (if x87_3 ≥ (t179.length : Int) then (if 0 ≤ x87_3 then (if x87_3 < (t189.length : Int) then (if 0 ≤ (wrap64 (x87_3 - (t179.length : Int))) then (if (wrap64 (x87_3 - (t179.length : Int))) < (t184.length : Int) then (if ((rd_T30 t189 x87_3).f1).toList = ((rd_T30 t184 (wrap64 (x87_3 - (t179.length : Int)))).f1).toList then (if ((rd_T30 t189 x87_3).f2) = (wrap64 ((wrap64 (((rd_T30 t184 (wrap64 (x87_3 - (t179.length : Int)))).f2) + (a0.size : Int))) + 1)) then (cylinderlaw35_LexerTwo.l0 kj30 a0 t179 t184 t189 (t189.length : Int) (wrap64 (x87_3 + 1))) else (some false)) else (some false)) else (none)) else (none)) else (none)) else (none)) else (cylinderlaw35_LexerTwo.l0 kj30 a0 t179 t184 t189 (t189.length : Int) (wrap64 (x87_3 + 1)))) = some r := by rw [if_neg (show ¬ (false = true) by decide)] at H; exact H
                                  clear H
                                  have H := H1
                                  clear H1
                                  by_cases c38 : x87_3 ≥ (t179.length : Int)
                                  · rw [if_pos c38] at H
                                    have c38b0 : decide ((t179.length : Int) ≤ x87_3) = true := decide_eq_true c38
                                    clear c38
                                    by_cases c39 : 0 ≤ x87_3
                                    · rw [if_pos c39] at H
                                      have c39b0 : decide (0 ≤ x87_3) = true := decide_eq_true c39
                                      clear c39
                                      by_cases c40 : x87_3 < (t189.length : Int)
                                      · rw [if_pos c40] at H
                                        have c40b0 : decide (x87_3 < (t189.length : Int)) = true := decide_eq_true c40
                                        clear c40
                                        obtain ⟨ji41, hji41⟩ : ∃ j_ : Int, (wrap64 (x87_3 - (t179.length : Int))) = j_ := ⟨_, rfl⟩
                                        replace H : (if 0 ≤ (ji41) then (if (ji41) < (t184.length : Int) then (if ((rd_T30 t189 x87_3).f1).toList = ((rd_T30 t184 (ji41)).f1).toList then (if ((rd_T30 t189 x87_3).f2) = (wrap64 ((wrap64 (((rd_T30 t184 (ji41)).f2) + (a0.size : Int))) + 1)) then (cylinderlaw35_LexerTwo.l0 kj30 a0 t179 t184 t189 (t189.length : Int) (wrap64 (x87_3 + 1))) else (some false)) else (some false)) else (none)) else (none)) = some r := by first | (rw [hji41] at H; exact H) | (simp only [hji41] at H ⊢; exact H)
                                        have hji41w : (IntKind.i64.wrap (x87_3 - (t179.length : Int))) = ji41 := (i64_w _).trans hji41
                                        by_cases c42 : 0 ≤ (ji41)
                                        · rw [if_pos c42] at H
                                          have c42b0 : decide (0 ≤ (ji41)) = true := decide_eq_true c42
                                          clear c42
                                          by_cases c43 : (ji41) < (t184.length : Int)
                                          · rw [if_pos c43] at H
                                            have c43b0 : decide ((ji41) < (t184.length : Int)) = true := decide_eq_true c43
                                            clear c43
                                            by_cases c44 : ((rd_T30 t189 x87_3).f1).toList = ((rd_T30 t184 (ji41)).f1).toList
                                            · rw [if_pos c44] at H
                                              have c44b0 : (((rd_T30 t189 x87_3).f1).toList == ((rd_T30 t184 (ji41)).f1).toList) = true := beq_iff_eq.mpr c44
                                              have c44b1 : (((rd_T30 t189 x87_3).f1).toList != ((rd_T30 t184 (ji41)).f1).toList) = false := bne_eq_false_iff_eq.mpr c44
                                              clear c44
                                              by_cases c45 : ((rd_T30 t189 x87_3).f2) = (wrap64 ((wrap64 (((rd_T30 t184 (ji41)).f2) + (a0.size : Int))) + 1))
                                              · rw [if_pos c45] at H
                                                have c45b0 : (((rd_T30 t189 x87_3).f2) == (wrap64 ((wrap64 (((rd_T30 t184 (ji41)).f2) + (a0.size : Int))) + 1))) = true := beq_iff_eq.mpr c45
                                                have c45b1 : (((rd_T30 t189 x87_3).f2) != (wrap64 ((wrap64 (((rd_T30 t184 (ji41)).f2) + (a0.size : Int))) + 1))) = false := bne_eq_false_iff_eq.mpr c45
                                                clear c45
                                                have H' := Aside0.mk H
                                                clear H
                                                obtain ⟨Ao46, co46, eo46⟩ := Kd.R_slice HO_5.out
                                                subst eo46
                                                have p196 : 0 ≤ (x87_3 : Int) := of_decide_eq_true (by first | (with_reducible assumption) | assumption)
                                                have q196 : x87_3 < (t189.length : Int) := of_decide_eq_true (by first | (with_reducible assumption) | assumption)
                                                obtain ⟨ad196, e196, hx196_0, hx196_1, hx196_2⟩ := at_T30 (Kd.R_reads' HO_11.out).2.2 x87_3 p196 q196
                                                cases e196
                                                replace p196 := eq_true p196
                                                replace q196 := eq_true q196
                                                obtain ⟨Ao47, co47, eo47⟩ := Kd.R_slice HO_8.out
                                                subst eo47
                                                have p197 : 0 ≤ ((ji41) : Int) := of_decide_eq_true (by first | (with_reducible assumption) | assumption)
                                                have q197 : (ji41) < (t184.length : Int) := of_decide_eq_true (by first | (with_reducible assumption) | assumption)
                                                obtain ⟨ad197, e197, hx197_0, hx197_1, hx197_2⟩ := at_T30 (Kd.R_reads' HO_8.out).2.2 (ji41) p197 q197
                                                cases e197
                                                replace p197 := eq_true p197
                                                replace q197 := eq_true q197
                                                have p198 : 0 ≤ (x87_3 : Int) := of_decide_eq_true (by first | (with_reducible assumption) | assumption)
                                                have q198 : x87_3 < (t189.length : Int) := of_decide_eq_true (by first | (with_reducible assumption) | assumption)
                                                obtain ⟨ad198, e198, hx198_0, hx198_1, hx198_2⟩ := at_T30 (Kd.R_reads' HO_11.out).2.2 x87_3 p198 q198
                                                obtain rfl : ad196 = ad198 := (by injection e198)
                                                replace p198 := eq_true p198
                                                replace q198 := eq_true q198
                                                have p199 : 0 ≤ ((ji41) : Int) := of_decide_eq_true (by first | (with_reducible assumption) | assumption)
                                                have q199 : (ji41) < (t184.length : Int) := of_decide_eq_true (by first | (with_reducible assumption) | assumption)
                                                obtain ⟨ad199, e199, hx199_0, hx199_1, hx199_2⟩ := at_T30 (Kd.R_reads' HO_8.out).2.2 (ji41) p199 q199
                                                obtain rfl : ad197 = ad199 := (by injection e199)
                                                replace p199 := eq_true p199
                                                replace q199 := eq_true q199
                                                go_wp2
                                                repeat (go_quiet (fail); try go_wp2)
                                                go_roundg kj30
                                                case measure => have := HJ2.out; have := HJ19.out; have := HK3.out; have := HJ30.out; omega
                                                case rel => exact ⟨(wrap64 (x87_3 + 1)), (by first | rfl | (simp; done) | (simp [*]; done)), H', ⟨by have := HJ2.out; have := HJ19.out; have := HK3.out; have := HJ30.out; omega⟩, ⟨by (with_reducible repeat (first | apply Kd.R_alloc | apply Kd.R_drewN | apply Kd.R_drew)); exact HO_5.out⟩, ⟨by (with_reducible repeat (first | apply Kd.R_alloc | apply Kd.R_drewN | apply Kd.R_drew)); exact HO_8.out⟩, ⟨by (with_reducible repeat (first | apply Kd.R_alloc | apply Kd.R_drewN | apply Kd.R_drew)); exact HO_11.out⟩, ⟨by repeat (first | (with_reducible first | exact HB.out | apply below_alloc | apply pw_below_drewN | apply below_drew1) | exact HB.out)⟩⟩
                                              · rw [if_neg c45] at H
                                                have c45b0 : (((rd_T30 t189 x87_3).f2) == (wrap64 ((wrap64 (((rd_T30 t184 (ji41)).f2) + (a0.size : Int))) + 1))) = false := beq_eq_false_iff_ne.mpr c45
                                                have c45b1 : (((rd_T30 t189 x87_3).f2) != (wrap64 ((wrap64 (((rd_T30 t184 (ji41)).f2) + (a0.size : Int))) + 1))) = true := bne_iff_ne.mpr c45
                                                obtain rfl := Option.some.inj H
                                                obtain ⟨Ao48, co48, eo48⟩ := Kd.R_slice HO_5.out
                                                subst eo48
                                                have p196 : 0 ≤ (x87_3 : Int) := of_decide_eq_true (by first | (with_reducible assumption) | assumption)
                                                have q196 : x87_3 < (t189.length : Int) := of_decide_eq_true (by first | (with_reducible assumption) | assumption)
                                                obtain ⟨ad196, e196, hx196_0, hx196_1, hx196_2⟩ := at_T30 (Kd.R_reads' HO_11.out).2.2 x87_3 p196 q196
                                                cases e196
                                                replace p196 := eq_true p196
                                                replace q196 := eq_true q196
                                                obtain ⟨Ao49, co49, eo49⟩ := Kd.R_slice HO_8.out
                                                subst eo49
                                                have p197 : 0 ≤ ((ji41) : Int) := of_decide_eq_true (by first | (with_reducible assumption) | assumption)
                                                have q197 : (ji41) < (t184.length : Int) := of_decide_eq_true (by first | (with_reducible assumption) | assumption)
                                                obtain ⟨ad197, e197, hx197_0, hx197_1, hx197_2⟩ := at_T30 (Kd.R_reads' HO_8.out).2.2 (ji41) p197 q197
                                                cases e197
                                                replace p197 := eq_true p197
                                                replace q197 := eq_true q197
                                                have p198 : 0 ≤ (x87_3 : Int) := of_decide_eq_true (by first | (with_reducible assumption) | assumption)
                                                have q198 : x87_3 < (t189.length : Int) := of_decide_eq_true (by first | (with_reducible assumption) | assumption)
                                                obtain ⟨ad198, e198, hx198_0, hx198_1, hx198_2⟩ := at_T30 (Kd.R_reads' HO_11.out).2.2 x87_3 p198 q198
                                                obtain rfl : ad196 = ad198 := (by injection e198)
                                                replace p198 := eq_true p198
                                                replace q198 := eq_true q198
                                                have p199 : 0 ≤ ((ji41) : Int) := of_decide_eq_true (by first | (with_reducible assumption) | assumption)
                                                have q199 : (ji41) < (t184.length : Int) := of_decide_eq_true (by first | (with_reducible assumption) | assumption)
                                                obtain ⟨ad199, e199, hx199_0, hx199_1, hx199_2⟩ := at_T30 (Kd.R_reads' HO_8.out).2.2 (ji41) p199 q199
                                                obtain rfl : ad197 = ad199 := (by injection e199)
                                                replace p199 := eq_true p199
                                                replace q199 := eq_true q199
                                                go_wp2
                                                repeat (go_quiet (fail); try go_wp2)
                                                go_ret
                                                exact ⟨by first | rfl | (simp [errW_none, errW_some] <;> rfl) | (simp only [← hji41]; first | rfl | (simp [errW_none, errW_some] <;> rfl)) | (simp [*, errW_none, errW_some] <;> rfl), by repeat (first | (with_reducible first | exact HB.out | apply below_alloc | apply pw_below_drewN | apply below_drew1) | exact HB.out)⟩
                                            · rw [if_neg c44] at H
                                              have c44b0 : (((rd_T30 t189 x87_3).f1).toList == ((rd_T30 t184 (ji41)).f1).toList) = false := beq_eq_false_iff_ne.mpr c44
                                              have c44b1 : (((rd_T30 t189 x87_3).f1).toList != ((rd_T30 t184 (ji41)).f1).toList) = true := bne_iff_ne.mpr c44
                                              obtain rfl := Option.some.inj H
                                              obtain ⟨Ao50, co50, eo50⟩ := Kd.R_slice HO_5.out
                                              subst eo50
                                              have p196 : 0 ≤ (x87_3 : Int) := of_decide_eq_true (by first | (with_reducible assumption) | assumption)
                                              have q196 : x87_3 < (t189.length : Int) := of_decide_eq_true (by first | (with_reducible assumption) | assumption)
                                              obtain ⟨ad196, e196, hx196_0, hx196_1, hx196_2⟩ := at_T30 (Kd.R_reads' HO_11.out).2.2 x87_3 p196 q196
                                              cases e196
                                              replace p196 := eq_true p196
                                              replace q196 := eq_true q196
                                              obtain ⟨Ao51, co51, eo51⟩ := Kd.R_slice HO_8.out
                                              subst eo51
                                              have p197 : 0 ≤ ((ji41) : Int) := of_decide_eq_true (by first | (with_reducible assumption) | assumption)
                                              have q197 : (ji41) < (t184.length : Int) := of_decide_eq_true (by first | (with_reducible assumption) | assumption)
                                              obtain ⟨ad197, e197, hx197_0, hx197_1, hx197_2⟩ := at_T30 (Kd.R_reads' HO_8.out).2.2 (ji41) p197 q197
                                              cases e197
                                              replace p197 := eq_true p197
                                              replace q197 := eq_true q197
                                              go_wp2
                                              repeat (go_quiet (fail); try go_wp2)
                                              go_ret
                                              exact ⟨by first | rfl | (simp [errW_none, errW_some] <;> rfl) | (simp only [← hji41]; first | rfl | (simp [errW_none, errW_some] <;> rfl)) | (simp [*, errW_none, errW_some] <;> rfl), by repeat (first | (with_reducible first | exact HB.out | apply below_alloc | apply pw_below_drewN | apply below_drew1) | exact HB.out)⟩
                                          · rw [if_neg c43] at H
                                            exact absurd H (by simp)
                                        · rw [if_neg c42] at H
                                          exact absurd H (by simp)
                                      · rw [if_neg c40] at H
                                        exact absurd H (by simp)
                                    · rw [if_neg c39] at H
                                      exact absurd H (by simp)
                                  · rw [if_neg c38] at H
                                    have c38b0 : decide ((t179.length : Int) ≤ x87_3) = false := decide_eq_false c38
                                    clear c38
                                    have H' := Aside0.mk H
                                    clear H
                                    obtain ⟨Ao52, co52, eo52⟩ := Kd.R_slice HO_5.out
                                    subst eo52
                                    go_wp2
                                    repeat (go_quiet (fail); try go_wp2)
                                    go_roundg kj30
                                    case measure => have := HJ2.out; have := HJ19.out; have := HK3.out; have := HJ30.out; omega
                                    case rel => exact ⟨(wrap64 (x87_3 + 1)), (by first | rfl | (simp; done) | (simp [*]; done)), H', ⟨by have := HJ2.out; have := HJ19.out; have := HK3.out; have := HJ30.out; omega⟩, ⟨by (with_reducible repeat (first | apply Kd.R_alloc | apply Kd.R_drewN | apply Kd.R_drew)); exact HO_5.out⟩, ⟨by (with_reducible repeat (first | apply Kd.R_alloc | apply Kd.R_drewN | apply Kd.R_drew)); exact HO_8.out⟩, ⟨by (with_reducible repeat (first | apply Kd.R_alloc | apply Kd.R_drewN | apply Kd.R_drew)); exact HO_11.out⟩, ⟨by repeat (first | (with_reducible first | exact HB.out | apply below_alloc | apply pw_below_drewN | apply below_drew1) | exact HB.out)⟩⟩
                          · rw [if_neg c30] at H
                            have c30b0 : decide (x87_3 < (t189.length : Int)) = false := decide_eq_false c30
                            clear c30
                            obtain rfl := Option.some.inj H
                            go_wp2
                            repeat (go_quiet (fail); try go_wp2)
                            go_ret
                            exact ⟨by first | rfl | (simp [errW_none, errW_some] <;> rfl) | (simp [*, errW_none, errW_some] <;> rfl) | (rw [wrap64_wrap_add]; rfl) | (have e_ := Option.some.inj (A28.out.symm.trans A30.out); subst e_; rfl), by repeat (first | (with_reducible first | exact HB.out | apply below_alloc | apply pw_below_drewN | apply below_drew1) | exact HB.out)⟩
              · rw [if_neg c19] at H
                have c19b0 : (t186 == 0) = false := beq_eq_false_iff_ne.mpr c19
                have c19b1 : (t186 != 0) = true := bne_iff_ne.mpr c19
                by_cases c53 : t191 = t186
                · rw [if_pos c53] at H
                  have c53b0 : (t191 == t186) = true := beq_iff_eq.mpr c53
                  have c53b1 : (t191 != t186) = false := bne_eq_false_iff_eq.mpr c53
                  clear c53
                  obtain rfl := Option.some.inj H
                  go_wp2_with (first | (go_at_call 13; (with_reducible refine (lexer_Lex.calls a0 t179 t180 t181 _ A13.out).mono ?_); rintro e w54 ⟨v182, rfl, ho0, hb⟩; have n0_ := Aside0.mk (Kd.R_lower ho0 (below_size (by repeat (first | (with_reducible first | exact HB.out | apply below_alloc | apply pw_below_drewN | apply below_drew1) | exact HB.out)))); have n1_ := Aside0.mk (below_step (by repeat (first | (with_reducible first | exact HB.out | apply below_alloc | apply pw_below_drewN | apply below_drew1) | exact HB.out)) hb); clear HB; have HO183 := n0_; have HB := n1_; clear n0_ n1_; (try clear hb); (try clear hb2); (try clear hk); (try clear hi); (try clear ho0)) | (go_at_call 13; (with_reducible refine (lexer_Lex.calls a1 t184 t185 t186 _ A14.out).mono ?_); rintro e w55 ⟨v187, rfl, ho0, hb⟩; have n0_ := Aside0.mk (Kd.R_elder' (by (with_reducible repeat (first | apply Kd.R_alloc | apply Kd.R_drewN | apply Kd.R_drew)); exact HO183.out) (Kd.R_base ho0) hb); have n1_ := Aside0.mk (Kd.R_lower (Kd.R_new' ho0 (Kd.R_lt (by (with_reducible repeat (first | apply Kd.R_alloc | apply Kd.R_drewN | apply Kd.R_drew)); exact HO183.out))) (below_size (by repeat (first | (with_reducible first | exact HB.out | apply below_alloc | apply pw_below_drewN | apply below_drew1) | exact HB.out)))); have n2_ := Aside0.mk (below_step (by repeat (first | (with_reducible first | exact HB.out | apply below_alloc | apply pw_below_drewN | apply below_drew1) | exact HB.out)) hb); clear HO183; clear HB; have HO183 := n0_; have HO188 := n1_; have HB := n2_; clear n0_ n1_ n2_; (try clear hb); (try clear hb2); (try clear hk); (try clear hi); (try clear ho0)) | (go_at_call 13; (with_reducible refine (lexer_Lex.calls ((a0 ++ (⟨#[32]⟩ : ByteArray)) ++ a1) t189 t190 t191 _ A17.out).mono ?_); rintro e w56 ⟨v192, rfl, ho0, hb⟩; have n0_ := Aside0.mk (Kd.R_elder' (by (with_reducible repeat (first | apply Kd.R_alloc | apply Kd.R_drewN | apply Kd.R_drew)); exact HO183.out) (Kd.R_base ho0) hb); have n1_ := Aside0.mk (Kd.R_elder' (by (with_reducible repeat (first | apply Kd.R_alloc | apply Kd.R_drewN | apply Kd.R_drew)); exact HO188.out) (Kd.R_base ho0) hb); have n2_ := Aside0.mk (Kd.R_lower (Kd.R_new' (Kd.R_new' ho0 (Kd.R_lt (by (with_reducible repeat (first | apply Kd.R_alloc | apply Kd.R_drewN | apply Kd.R_drew)); exact HO183.out))) (Kd.R_lt (by (with_reducible repeat (first | apply Kd.R_alloc | apply Kd.R_drewN | apply Kd.R_drew)); exact HO188.out))) (below_size (by repeat (first | (with_reducible first | exact HB.out | apply below_alloc | apply pw_below_drewN | apply below_drew1) | exact HB.out)))); have n3_ := Aside0.mk (below_step (by repeat (first | (with_reducible first | exact HB.out | apply below_alloc | apply pw_below_drewN | apply below_drew1) | exact HB.out)) hb); clear HO183; clear HO188; clear HB; have HO183 := n0_; have HO188 := n1_; have HO193 := n2_; have HB := n3_; clear n0_ n1_ n2_ n3_; (try clear hb); (try clear hb2); (try clear hk); (try clear hi); (try clear ho0)))
                  repeat (go_quiet (first | (go_at_call 13; (with_reducible refine (lexer_Lex.calls a0 t179 t180 t181 _ A13.out).mono ?_); rintro e w54 ⟨v182, rfl, ho0, hb⟩; have n0_ := Aside0.mk (Kd.R_lower ho0 (below_size (by repeat (first | (with_reducible first | exact HB.out | apply below_alloc | apply pw_below_drewN | apply below_drew1) | exact HB.out)))); have n1_ := Aside0.mk (below_step (by repeat (first | (with_reducible first | exact HB.out | apply below_alloc | apply pw_below_drewN | apply below_drew1) | exact HB.out)) hb); clear HB; have HO183 := n0_; have HB := n1_; clear n0_ n1_; (try clear hb); (try clear hb2); (try clear hk); (try clear hi); (try clear ho0)) | (go_at_call 13; (with_reducible refine (lexer_Lex.calls a1 t184 t185 t186 _ A14.out).mono ?_); rintro e w55 ⟨v187, rfl, ho0, hb⟩; have n0_ := Aside0.mk (Kd.R_elder' (by (with_reducible repeat (first | apply Kd.R_alloc | apply Kd.R_drewN | apply Kd.R_drew)); exact HO183.out) (Kd.R_base ho0) hb); have n1_ := Aside0.mk (Kd.R_lower (Kd.R_new' ho0 (Kd.R_lt (by (with_reducible repeat (first | apply Kd.R_alloc | apply Kd.R_drewN | apply Kd.R_drew)); exact HO183.out))) (below_size (by repeat (first | (with_reducible first | exact HB.out | apply below_alloc | apply pw_below_drewN | apply below_drew1) | exact HB.out)))); have n2_ := Aside0.mk (below_step (by repeat (first | (with_reducible first | exact HB.out | apply below_alloc | apply pw_below_drewN | apply below_drew1) | exact HB.out)) hb); clear HO183; clear HB; have HO183 := n0_; have HO188 := n1_; have HB := n2_; clear n0_ n1_ n2_; (try clear hb); (try clear hb2); (try clear hk); (try clear hi); (try clear ho0)) | (go_at_call 13; (with_reducible refine (lexer_Lex.calls ((a0 ++ (⟨#[32]⟩ : ByteArray)) ++ a1) t189 t190 t191 _ A17.out).mono ?_); rintro e w56 ⟨v192, rfl, ho0, hb⟩; have n0_ := Aside0.mk (Kd.R_elder' (by (with_reducible repeat (first | apply Kd.R_alloc | apply Kd.R_drewN | apply Kd.R_drew)); exact HO183.out) (Kd.R_base ho0) hb); have n1_ := Aside0.mk (Kd.R_elder' (by (with_reducible repeat (first | apply Kd.R_alloc | apply Kd.R_drewN | apply Kd.R_drew)); exact HO188.out) (Kd.R_base ho0) hb); have n2_ := Aside0.mk (Kd.R_lower (Kd.R_new' (Kd.R_new' ho0 (Kd.R_lt (by (with_reducible repeat (first | apply Kd.R_alloc | apply Kd.R_drewN | apply Kd.R_drew)); exact HO183.out))) (Kd.R_lt (by (with_reducible repeat (first | apply Kd.R_alloc | apply Kd.R_drewN | apply Kd.R_drew)); exact HO188.out))) (below_size (by repeat (first | (with_reducible first | exact HB.out | apply below_alloc | apply pw_below_drewN | apply below_drew1) | exact HB.out)))); have n3_ := Aside0.mk (below_step (by repeat (first | (with_reducible first | exact HB.out | apply below_alloc | apply pw_below_drewN | apply below_drew1) | exact HB.out)) hb); clear HO183; clear HO188; clear HB; have HO183 := n0_; have HO188 := n1_; have HO193 := n2_; have HB := n3_; clear n0_ n1_ n2_ n3_; (try clear hb); (try clear hb2); (try clear hk); (try clear hi); (try clear ho0))); try go_wp2_with (first | (go_at_call 13; (with_reducible refine (lexer_Lex.calls a0 t179 t180 t181 _ A13.out).mono ?_); rintro e w54 ⟨v182, rfl, ho0, hb⟩; have n0_ := Aside0.mk (Kd.R_lower ho0 (below_size (by repeat (first | (with_reducible first | exact HB.out | apply below_alloc | apply pw_below_drewN | apply below_drew1) | exact HB.out)))); have n1_ := Aside0.mk (below_step (by repeat (first | (with_reducible first | exact HB.out | apply below_alloc | apply pw_below_drewN | apply below_drew1) | exact HB.out)) hb); clear HB; have HO183 := n0_; have HB := n1_; clear n0_ n1_; (try clear hb); (try clear hb2); (try clear hk); (try clear hi); (try clear ho0)) | (go_at_call 13; (with_reducible refine (lexer_Lex.calls a1 t184 t185 t186 _ A14.out).mono ?_); rintro e w55 ⟨v187, rfl, ho0, hb⟩; have n0_ := Aside0.mk (Kd.R_elder' (by (with_reducible repeat (first | apply Kd.R_alloc | apply Kd.R_drewN | apply Kd.R_drew)); exact HO183.out) (Kd.R_base ho0) hb); have n1_ := Aside0.mk (Kd.R_lower (Kd.R_new' ho0 (Kd.R_lt (by (with_reducible repeat (first | apply Kd.R_alloc | apply Kd.R_drewN | apply Kd.R_drew)); exact HO183.out))) (below_size (by repeat (first | (with_reducible first | exact HB.out | apply below_alloc | apply pw_below_drewN | apply below_drew1) | exact HB.out)))); have n2_ := Aside0.mk (below_step (by repeat (first | (with_reducible first | exact HB.out | apply below_alloc | apply pw_below_drewN | apply below_drew1) | exact HB.out)) hb); clear HO183; clear HB; have HO183 := n0_; have HO188 := n1_; have HB := n2_; clear n0_ n1_ n2_; (try clear hb); (try clear hb2); (try clear hk); (try clear hi); (try clear ho0)) | (go_at_call 13; (with_reducible refine (lexer_Lex.calls ((a0 ++ (⟨#[32]⟩ : ByteArray)) ++ a1) t189 t190 t191 _ A17.out).mono ?_); rintro e w56 ⟨v192, rfl, ho0, hb⟩; have n0_ := Aside0.mk (Kd.R_elder' (by (with_reducible repeat (first | apply Kd.R_alloc | apply Kd.R_drewN | apply Kd.R_drew)); exact HO183.out) (Kd.R_base ho0) hb); have n1_ := Aside0.mk (Kd.R_elder' (by (with_reducible repeat (first | apply Kd.R_alloc | apply Kd.R_drewN | apply Kd.R_drew)); exact HO188.out) (Kd.R_base ho0) hb); have n2_ := Aside0.mk (Kd.R_lower (Kd.R_new' (Kd.R_new' ho0 (Kd.R_lt (by (with_reducible repeat (first | apply Kd.R_alloc | apply Kd.R_drewN | apply Kd.R_drew)); exact HO183.out))) (Kd.R_lt (by (with_reducible repeat (first | apply Kd.R_alloc | apply Kd.R_drewN | apply Kd.R_drew)); exact HO188.out))) (below_size (by repeat (first | (with_reducible first | exact HB.out | apply below_alloc | apply pw_below_drewN | apply below_drew1) | exact HB.out)))); have n3_ := Aside0.mk (below_step (by repeat (first | (with_reducible first | exact HB.out | apply below_alloc | apply pw_below_drewN | apply below_drew1) | exact HB.out)) hb); clear HO183; clear HO188; clear HB; have HO183 := n0_; have HO188 := n1_; have HO193 := n2_; have HB := n3_; clear n0_ n1_ n2_ n3_; (try clear hb); (try clear hb2); (try clear hk); (try clear hi); (try clear ho0))))
                  go_ret
                  exact ⟨by first | rfl | (simp [errW_none, errW_some] <;> rfl) | (simp [*, errW_none, errW_some] <;> rfl) | (rw [wrap64_wrap_add]; rfl) | (have e_ := Option.some.inj (A28.out.symm.trans A30.out); subst e_; rfl), by repeat (first | (with_reducible first | exact HB.out | apply below_alloc | apply pw_below_drewN | apply below_drew1) | exact HB.out)⟩
                · rw [if_neg c53] at H
                  have c53b0 : (t191 == t186) = false := beq_eq_false_iff_ne.mpr c53
                  have c53b1 : (t191 != t186) = true := bne_iff_ne.mpr c53
                  obtain rfl := Option.some.inj H
                  go_wp2_with (first | (go_at_call 13; (with_reducible refine (lexer_Lex.calls a0 t179 t180 t181 _ A13.out).mono ?_); rintro e w57 ⟨v182, rfl, ho0, hb⟩; have n0_ := Aside0.mk (Kd.R_lower ho0 (below_size (by repeat (first | (with_reducible first | exact HB.out | apply below_alloc | apply pw_below_drewN | apply below_drew1) | exact HB.out)))); have n1_ := Aside0.mk (below_step (by repeat (first | (with_reducible first | exact HB.out | apply below_alloc | apply pw_below_drewN | apply below_drew1) | exact HB.out)) hb); clear HB; have HO183 := n0_; have HB := n1_; clear n0_ n1_; (try clear hb); (try clear hb2); (try clear hk); (try clear hi); (try clear ho0)) | (go_at_call 13; (with_reducible refine (lexer_Lex.calls a1 t184 t185 t186 _ A14.out).mono ?_); rintro e w58 ⟨v187, rfl, ho0, hb⟩; have n0_ := Aside0.mk (Kd.R_elder' (by (with_reducible repeat (first | apply Kd.R_alloc | apply Kd.R_drewN | apply Kd.R_drew)); exact HO183.out) (Kd.R_base ho0) hb); have n1_ := Aside0.mk (Kd.R_lower (Kd.R_new' ho0 (Kd.R_lt (by (with_reducible repeat (first | apply Kd.R_alloc | apply Kd.R_drewN | apply Kd.R_drew)); exact HO183.out))) (below_size (by repeat (first | (with_reducible first | exact HB.out | apply below_alloc | apply pw_below_drewN | apply below_drew1) | exact HB.out)))); have n2_ := Aside0.mk (below_step (by repeat (first | (with_reducible first | exact HB.out | apply below_alloc | apply pw_below_drewN | apply below_drew1) | exact HB.out)) hb); clear HO183; clear HB; have HO183 := n0_; have HO188 := n1_; have HB := n2_; clear n0_ n1_ n2_; (try clear hb); (try clear hb2); (try clear hk); (try clear hi); (try clear ho0)) | (go_at_call 13; (with_reducible refine (lexer_Lex.calls ((a0 ++ (⟨#[32]⟩ : ByteArray)) ++ a1) t189 t190 t191 _ A17.out).mono ?_); rintro e w59 ⟨v192, rfl, ho0, hb⟩; have n0_ := Aside0.mk (Kd.R_elder' (by (with_reducible repeat (first | apply Kd.R_alloc | apply Kd.R_drewN | apply Kd.R_drew)); exact HO183.out) (Kd.R_base ho0) hb); have n1_ := Aside0.mk (Kd.R_elder' (by (with_reducible repeat (first | apply Kd.R_alloc | apply Kd.R_drewN | apply Kd.R_drew)); exact HO188.out) (Kd.R_base ho0) hb); have n2_ := Aside0.mk (Kd.R_lower (Kd.R_new' (Kd.R_new' ho0 (Kd.R_lt (by (with_reducible repeat (first | apply Kd.R_alloc | apply Kd.R_drewN | apply Kd.R_drew)); exact HO183.out))) (Kd.R_lt (by (with_reducible repeat (first | apply Kd.R_alloc | apply Kd.R_drewN | apply Kd.R_drew)); exact HO188.out))) (below_size (by repeat (first | (with_reducible first | exact HB.out | apply below_alloc | apply pw_below_drewN | apply below_drew1) | exact HB.out)))); have n3_ := Aside0.mk (below_step (by repeat (first | (with_reducible first | exact HB.out | apply below_alloc | apply pw_below_drewN | apply below_drew1) | exact HB.out)) hb); clear HO183; clear HO188; clear HB; have HO183 := n0_; have HO188 := n1_; have HO193 := n2_; have HB := n3_; clear n0_ n1_ n2_ n3_; (try clear hb); (try clear hb2); (try clear hk); (try clear hi); (try clear ho0)))
                  repeat (go_quiet (first | (go_at_call 13; (with_reducible refine (lexer_Lex.calls a0 t179 t180 t181 _ A13.out).mono ?_); rintro e w57 ⟨v182, rfl, ho0, hb⟩; have n0_ := Aside0.mk (Kd.R_lower ho0 (below_size (by repeat (first | (with_reducible first | exact HB.out | apply below_alloc | apply pw_below_drewN | apply below_drew1) | exact HB.out)))); have n1_ := Aside0.mk (below_step (by repeat (first | (with_reducible first | exact HB.out | apply below_alloc | apply pw_below_drewN | apply below_drew1) | exact HB.out)) hb); clear HB; have HO183 := n0_; have HB := n1_; clear n0_ n1_; (try clear hb); (try clear hb2); (try clear hk); (try clear hi); (try clear ho0)) | (go_at_call 13; (with_reducible refine (lexer_Lex.calls a1 t184 t185 t186 _ A14.out).mono ?_); rintro e w58 ⟨v187, rfl, ho0, hb⟩; have n0_ := Aside0.mk (Kd.R_elder' (by (with_reducible repeat (first | apply Kd.R_alloc | apply Kd.R_drewN | apply Kd.R_drew)); exact HO183.out) (Kd.R_base ho0) hb); have n1_ := Aside0.mk (Kd.R_lower (Kd.R_new' ho0 (Kd.R_lt (by (with_reducible repeat (first | apply Kd.R_alloc | apply Kd.R_drewN | apply Kd.R_drew)); exact HO183.out))) (below_size (by repeat (first | (with_reducible first | exact HB.out | apply below_alloc | apply pw_below_drewN | apply below_drew1) | exact HB.out)))); have n2_ := Aside0.mk (below_step (by repeat (first | (with_reducible first | exact HB.out | apply below_alloc | apply pw_below_drewN | apply below_drew1) | exact HB.out)) hb); clear HO183; clear HB; have HO183 := n0_; have HO188 := n1_; have HB := n2_; clear n0_ n1_ n2_; (try clear hb); (try clear hb2); (try clear hk); (try clear hi); (try clear ho0)) | (go_at_call 13; (with_reducible refine (lexer_Lex.calls ((a0 ++ (⟨#[32]⟩ : ByteArray)) ++ a1) t189 t190 t191 _ A17.out).mono ?_); rintro e w59 ⟨v192, rfl, ho0, hb⟩; have n0_ := Aside0.mk (Kd.R_elder' (by (with_reducible repeat (first | apply Kd.R_alloc | apply Kd.R_drewN | apply Kd.R_drew)); exact HO183.out) (Kd.R_base ho0) hb); have n1_ := Aside0.mk (Kd.R_elder' (by (with_reducible repeat (first | apply Kd.R_alloc | apply Kd.R_drewN | apply Kd.R_drew)); exact HO188.out) (Kd.R_base ho0) hb); have n2_ := Aside0.mk (Kd.R_lower (Kd.R_new' (Kd.R_new' ho0 (Kd.R_lt (by (with_reducible repeat (first | apply Kd.R_alloc | apply Kd.R_drewN | apply Kd.R_drew)); exact HO183.out))) (Kd.R_lt (by (with_reducible repeat (first | apply Kd.R_alloc | apply Kd.R_drewN | apply Kd.R_drew)); exact HO188.out))) (below_size (by repeat (first | (with_reducible first | exact HB.out | apply below_alloc | apply pw_below_drewN | apply below_drew1) | exact HB.out)))); have n3_ := Aside0.mk (below_step (by repeat (first | (with_reducible first | exact HB.out | apply below_alloc | apply pw_below_drewN | apply below_drew1) | exact HB.out)) hb); clear HO183; clear HO188; clear HB; have HO183 := n0_; have HO188 := n1_; have HO193 := n2_; have HB := n3_; clear n0_ n1_ n2_ n3_; (try clear hb); (try clear hb2); (try clear hk); (try clear hi); (try clear ho0))); try go_wp2_with (first | (go_at_call 13; (with_reducible refine (lexer_Lex.calls a0 t179 t180 t181 _ A13.out).mono ?_); rintro e w57 ⟨v182, rfl, ho0, hb⟩; have n0_ := Aside0.mk (Kd.R_lower ho0 (below_size (by repeat (first | (with_reducible first | exact HB.out | apply below_alloc | apply pw_below_drewN | apply below_drew1) | exact HB.out)))); have n1_ := Aside0.mk (below_step (by repeat (first | (with_reducible first | exact HB.out | apply below_alloc | apply pw_below_drewN | apply below_drew1) | exact HB.out)) hb); clear HB; have HO183 := n0_; have HB := n1_; clear n0_ n1_; (try clear hb); (try clear hb2); (try clear hk); (try clear hi); (try clear ho0)) | (go_at_call 13; (with_reducible refine (lexer_Lex.calls a1 t184 t185 t186 _ A14.out).mono ?_); rintro e w58 ⟨v187, rfl, ho0, hb⟩; have n0_ := Aside0.mk (Kd.R_elder' (by (with_reducible repeat (first | apply Kd.R_alloc | apply Kd.R_drewN | apply Kd.R_drew)); exact HO183.out) (Kd.R_base ho0) hb); have n1_ := Aside0.mk (Kd.R_lower (Kd.R_new' ho0 (Kd.R_lt (by (with_reducible repeat (first | apply Kd.R_alloc | apply Kd.R_drewN | apply Kd.R_drew)); exact HO183.out))) (below_size (by repeat (first | (with_reducible first | exact HB.out | apply below_alloc | apply pw_below_drewN | apply below_drew1) | exact HB.out)))); have n2_ := Aside0.mk (below_step (by repeat (first | (with_reducible first | exact HB.out | apply below_alloc | apply pw_below_drewN | apply below_drew1) | exact HB.out)) hb); clear HO183; clear HB; have HO183 := n0_; have HO188 := n1_; have HB := n2_; clear n0_ n1_ n2_; (try clear hb); (try clear hb2); (try clear hk); (try clear hi); (try clear ho0)) | (go_at_call 13; (with_reducible refine (lexer_Lex.calls ((a0 ++ (⟨#[32]⟩ : ByteArray)) ++ a1) t189 t190 t191 _ A17.out).mono ?_); rintro e w59 ⟨v192, rfl, ho0, hb⟩; have n0_ := Aside0.mk (Kd.R_elder' (by (with_reducible repeat (first | apply Kd.R_alloc | apply Kd.R_drewN | apply Kd.R_drew)); exact HO183.out) (Kd.R_base ho0) hb); have n1_ := Aside0.mk (Kd.R_elder' (by (with_reducible repeat (first | apply Kd.R_alloc | apply Kd.R_drewN | apply Kd.R_drew)); exact HO188.out) (Kd.R_base ho0) hb); have n2_ := Aside0.mk (Kd.R_lower (Kd.R_new' (Kd.R_new' ho0 (Kd.R_lt (by (with_reducible repeat (first | apply Kd.R_alloc | apply Kd.R_drewN | apply Kd.R_drew)); exact HO183.out))) (Kd.R_lt (by (with_reducible repeat (first | apply Kd.R_alloc | apply Kd.R_drewN | apply Kd.R_drew)); exact HO188.out))) (below_size (by repeat (first | (with_reducible first | exact HB.out | apply below_alloc | apply pw_below_drewN | apply below_drew1) | exact HB.out)))); have n3_ := Aside0.mk (below_step (by repeat (first | (with_reducible first | exact HB.out | apply below_alloc | apply pw_below_drewN | apply below_drew1) | exact HB.out)) hb); clear HO183; clear HO188; clear HB; have HO183 := n0_; have HO188 := n1_; have HO193 := n2_; have HB := n3_; clear n0_ n1_ n2_ n3_; (try clear hb); (try clear hb2); (try clear hk); (try clear hi); (try clear ho0))))
                  go_ret
                  exact ⟨by first | rfl | (simp [errW_none, errW_some] <;> rfl) | (simp [*, errW_none, errW_some] <;> rfl) | (rw [wrap64_wrap_add]; rfl) | (have e_ := Option.some.inj (A28.out.symm.trans A30.out); subst e_; rfl), by repeat (first | (with_reducible first | exact HB.out | apply below_alloc | apply pw_below_drewN | apply below_drew1) | exact HB.out)⟩
            · rw [if_neg c18] at H
              have c18b0 : (t181 == 0) = false := beq_eq_false_iff_ne.mpr c18
              have c18b1 : (t181 != 0) = true := bne_iff_ne.mpr c18
              by_cases c60 : t191 = t181
              · rw [if_pos c60] at H
                have c60b0 : (t191 == t181) = true := beq_iff_eq.mpr c60
                have c60b1 : (t191 != t181) = false := bne_eq_false_iff_eq.mpr c60
                clear c60
                obtain rfl := Option.some.inj H
                go_wp2_with (first | (go_at_call 13; (with_reducible refine (lexer_Lex.calls a0 t179 t180 t181 _ A13.out).mono ?_); rintro e w61 ⟨v182, rfl, ho0, hb⟩; have n0_ := Aside0.mk (Kd.R_lower ho0 (below_size (by repeat (first | (with_reducible first | exact HB.out | apply below_alloc | apply pw_below_drewN | apply below_drew1) | exact HB.out)))); have n1_ := Aside0.mk (below_step (by repeat (first | (with_reducible first | exact HB.out | apply below_alloc | apply pw_below_drewN | apply below_drew1) | exact HB.out)) hb); clear HB; have HO183 := n0_; have HB := n1_; clear n0_ n1_; (try clear hb); (try clear hb2); (try clear hk); (try clear hi); (try clear ho0)) | (go_at_call 13; (with_reducible refine (lexer_Lex.calls a1 t184 t185 t186 _ A14.out).mono ?_); rintro e w62 ⟨v187, rfl, ho0, hb⟩; have n0_ := Aside0.mk (Kd.R_elder' (by (with_reducible repeat (first | apply Kd.R_alloc | apply Kd.R_drewN | apply Kd.R_drew)); exact HO183.out) (Kd.R_base ho0) hb); have n1_ := Aside0.mk (Kd.R_lower (Kd.R_new' ho0 (Kd.R_lt (by (with_reducible repeat (first | apply Kd.R_alloc | apply Kd.R_drewN | apply Kd.R_drew)); exact HO183.out))) (below_size (by repeat (first | (with_reducible first | exact HB.out | apply below_alloc | apply pw_below_drewN | apply below_drew1) | exact HB.out)))); have n2_ := Aside0.mk (below_step (by repeat (first | (with_reducible first | exact HB.out | apply below_alloc | apply pw_below_drewN | apply below_drew1) | exact HB.out)) hb); clear HO183; clear HB; have HO183 := n0_; have HO188 := n1_; have HB := n2_; clear n0_ n1_ n2_; (try clear hb); (try clear hb2); (try clear hk); (try clear hi); (try clear ho0)) | (go_at_call 13; (with_reducible refine (lexer_Lex.calls ((a0 ++ (⟨#[32]⟩ : ByteArray)) ++ a1) t189 t190 t191 _ A17.out).mono ?_); rintro e w63 ⟨v192, rfl, ho0, hb⟩; have n0_ := Aside0.mk (Kd.R_elder' (by (with_reducible repeat (first | apply Kd.R_alloc | apply Kd.R_drewN | apply Kd.R_drew)); exact HO183.out) (Kd.R_base ho0) hb); have n1_ := Aside0.mk (Kd.R_elder' (by (with_reducible repeat (first | apply Kd.R_alloc | apply Kd.R_drewN | apply Kd.R_drew)); exact HO188.out) (Kd.R_base ho0) hb); have n2_ := Aside0.mk (Kd.R_lower (Kd.R_new' (Kd.R_new' ho0 (Kd.R_lt (by (with_reducible repeat (first | apply Kd.R_alloc | apply Kd.R_drewN | apply Kd.R_drew)); exact HO183.out))) (Kd.R_lt (by (with_reducible repeat (first | apply Kd.R_alloc | apply Kd.R_drewN | apply Kd.R_drew)); exact HO188.out))) (below_size (by repeat (first | (with_reducible first | exact HB.out | apply below_alloc | apply pw_below_drewN | apply below_drew1) | exact HB.out)))); have n3_ := Aside0.mk (below_step (by repeat (first | (with_reducible first | exact HB.out | apply below_alloc | apply pw_below_drewN | apply below_drew1) | exact HB.out)) hb); clear HO183; clear HO188; clear HB; have HO183 := n0_; have HO188 := n1_; have HO193 := n2_; have HB := n3_; clear n0_ n1_ n2_ n3_; (try clear hb); (try clear hb2); (try clear hk); (try clear hi); (try clear ho0)))
                repeat (go_quiet (first | (go_at_call 13; (with_reducible refine (lexer_Lex.calls a0 t179 t180 t181 _ A13.out).mono ?_); rintro e w61 ⟨v182, rfl, ho0, hb⟩; have n0_ := Aside0.mk (Kd.R_lower ho0 (below_size (by repeat (first | (with_reducible first | exact HB.out | apply below_alloc | apply pw_below_drewN | apply below_drew1) | exact HB.out)))); have n1_ := Aside0.mk (below_step (by repeat (first | (with_reducible first | exact HB.out | apply below_alloc | apply pw_below_drewN | apply below_drew1) | exact HB.out)) hb); clear HB; have HO183 := n0_; have HB := n1_; clear n0_ n1_; (try clear hb); (try clear hb2); (try clear hk); (try clear hi); (try clear ho0)) | (go_at_call 13; (with_reducible refine (lexer_Lex.calls a1 t184 t185 t186 _ A14.out).mono ?_); rintro e w62 ⟨v187, rfl, ho0, hb⟩; have n0_ := Aside0.mk (Kd.R_elder' (by (with_reducible repeat (first | apply Kd.R_alloc | apply Kd.R_drewN | apply Kd.R_drew)); exact HO183.out) (Kd.R_base ho0) hb); have n1_ := Aside0.mk (Kd.R_lower (Kd.R_new' ho0 (Kd.R_lt (by (with_reducible repeat (first | apply Kd.R_alloc | apply Kd.R_drewN | apply Kd.R_drew)); exact HO183.out))) (below_size (by repeat (first | (with_reducible first | exact HB.out | apply below_alloc | apply pw_below_drewN | apply below_drew1) | exact HB.out)))); have n2_ := Aside0.mk (below_step (by repeat (first | (with_reducible first | exact HB.out | apply below_alloc | apply pw_below_drewN | apply below_drew1) | exact HB.out)) hb); clear HO183; clear HB; have HO183 := n0_; have HO188 := n1_; have HB := n2_; clear n0_ n1_ n2_; (try clear hb); (try clear hb2); (try clear hk); (try clear hi); (try clear ho0)) | (go_at_call 13; (with_reducible refine (lexer_Lex.calls ((a0 ++ (⟨#[32]⟩ : ByteArray)) ++ a1) t189 t190 t191 _ A17.out).mono ?_); rintro e w63 ⟨v192, rfl, ho0, hb⟩; have n0_ := Aside0.mk (Kd.R_elder' (by (with_reducible repeat (first | apply Kd.R_alloc | apply Kd.R_drewN | apply Kd.R_drew)); exact HO183.out) (Kd.R_base ho0) hb); have n1_ := Aside0.mk (Kd.R_elder' (by (with_reducible repeat (first | apply Kd.R_alloc | apply Kd.R_drewN | apply Kd.R_drew)); exact HO188.out) (Kd.R_base ho0) hb); have n2_ := Aside0.mk (Kd.R_lower (Kd.R_new' (Kd.R_new' ho0 (Kd.R_lt (by (with_reducible repeat (first | apply Kd.R_alloc | apply Kd.R_drewN | apply Kd.R_drew)); exact HO183.out))) (Kd.R_lt (by (with_reducible repeat (first | apply Kd.R_alloc | apply Kd.R_drewN | apply Kd.R_drew)); exact HO188.out))) (below_size (by repeat (first | (with_reducible first | exact HB.out | apply below_alloc | apply pw_below_drewN | apply below_drew1) | exact HB.out)))); have n3_ := Aside0.mk (below_step (by repeat (first | (with_reducible first | exact HB.out | apply below_alloc | apply pw_below_drewN | apply below_drew1) | exact HB.out)) hb); clear HO183; clear HO188; clear HB; have HO183 := n0_; have HO188 := n1_; have HO193 := n2_; have HB := n3_; clear n0_ n1_ n2_ n3_; (try clear hb); (try clear hb2); (try clear hk); (try clear hi); (try clear ho0))); try go_wp2_with (first | (go_at_call 13; (with_reducible refine (lexer_Lex.calls a0 t179 t180 t181 _ A13.out).mono ?_); rintro e w61 ⟨v182, rfl, ho0, hb⟩; have n0_ := Aside0.mk (Kd.R_lower ho0 (below_size (by repeat (first | (with_reducible first | exact HB.out | apply below_alloc | apply pw_below_drewN | apply below_drew1) | exact HB.out)))); have n1_ := Aside0.mk (below_step (by repeat (first | (with_reducible first | exact HB.out | apply below_alloc | apply pw_below_drewN | apply below_drew1) | exact HB.out)) hb); clear HB; have HO183 := n0_; have HB := n1_; clear n0_ n1_; (try clear hb); (try clear hb2); (try clear hk); (try clear hi); (try clear ho0)) | (go_at_call 13; (with_reducible refine (lexer_Lex.calls a1 t184 t185 t186 _ A14.out).mono ?_); rintro e w62 ⟨v187, rfl, ho0, hb⟩; have n0_ := Aside0.mk (Kd.R_elder' (by (with_reducible repeat (first | apply Kd.R_alloc | apply Kd.R_drewN | apply Kd.R_drew)); exact HO183.out) (Kd.R_base ho0) hb); have n1_ := Aside0.mk (Kd.R_lower (Kd.R_new' ho0 (Kd.R_lt (by (with_reducible repeat (first | apply Kd.R_alloc | apply Kd.R_drewN | apply Kd.R_drew)); exact HO183.out))) (below_size (by repeat (first | (with_reducible first | exact HB.out | apply below_alloc | apply pw_below_drewN | apply below_drew1) | exact HB.out)))); have n2_ := Aside0.mk (below_step (by repeat (first | (with_reducible first | exact HB.out | apply below_alloc | apply pw_below_drewN | apply below_drew1) | exact HB.out)) hb); clear HO183; clear HB; have HO183 := n0_; have HO188 := n1_; have HB := n2_; clear n0_ n1_ n2_; (try clear hb); (try clear hb2); (try clear hk); (try clear hi); (try clear ho0)) | (go_at_call 13; (with_reducible refine (lexer_Lex.calls ((a0 ++ (⟨#[32]⟩ : ByteArray)) ++ a1) t189 t190 t191 _ A17.out).mono ?_); rintro e w63 ⟨v192, rfl, ho0, hb⟩; have n0_ := Aside0.mk (Kd.R_elder' (by (with_reducible repeat (first | apply Kd.R_alloc | apply Kd.R_drewN | apply Kd.R_drew)); exact HO183.out) (Kd.R_base ho0) hb); have n1_ := Aside0.mk (Kd.R_elder' (by (with_reducible repeat (first | apply Kd.R_alloc | apply Kd.R_drewN | apply Kd.R_drew)); exact HO188.out) (Kd.R_base ho0) hb); have n2_ := Aside0.mk (Kd.R_lower (Kd.R_new' (Kd.R_new' ho0 (Kd.R_lt (by (with_reducible repeat (first | apply Kd.R_alloc | apply Kd.R_drewN | apply Kd.R_drew)); exact HO183.out))) (Kd.R_lt (by (with_reducible repeat (first | apply Kd.R_alloc | apply Kd.R_drewN | apply Kd.R_drew)); exact HO188.out))) (below_size (by repeat (first | (with_reducible first | exact HB.out | apply below_alloc | apply pw_below_drewN | apply below_drew1) | exact HB.out)))); have n3_ := Aside0.mk (below_step (by repeat (first | (with_reducible first | exact HB.out | apply below_alloc | apply pw_below_drewN | apply below_drew1) | exact HB.out)) hb); clear HO183; clear HO188; clear HB; have HO183 := n0_; have HO188 := n1_; have HO193 := n2_; have HB := n3_; clear n0_ n1_ n2_ n3_; (try clear hb); (try clear hb2); (try clear hk); (try clear hi); (try clear ho0))))
                go_ret
                exact ⟨by first | rfl | (simp [errW_none, errW_some] <;> rfl) | (simp [*, errW_none, errW_some] <;> rfl) | (rw [wrap64_wrap_add]; rfl) | (have e_ := Option.some.inj (A28.out.symm.trans A30.out); subst e_; rfl), by repeat (first | (with_reducible first | exact HB.out | apply below_alloc | apply pw_below_drewN | apply below_drew1) | exact HB.out)⟩
              · rw [if_neg c60] at H
                have c60b0 : (t191 == t181) = false := beq_eq_false_iff_ne.mpr c60
                have c60b1 : (t191 != t181) = true := bne_iff_ne.mpr c60
                obtain rfl := Option.some.inj H
                go_wp2_with (first | (go_at_call 13; (with_reducible refine (lexer_Lex.calls a0 t179 t180 t181 _ A13.out).mono ?_); rintro e w64 ⟨v182, rfl, ho0, hb⟩; have n0_ := Aside0.mk (Kd.R_lower ho0 (below_size (by repeat (first | (with_reducible first | exact HB.out | apply below_alloc | apply pw_below_drewN | apply below_drew1) | exact HB.out)))); have n1_ := Aside0.mk (below_step (by repeat (first | (with_reducible first | exact HB.out | apply below_alloc | apply pw_below_drewN | apply below_drew1) | exact HB.out)) hb); clear HB; have HO183 := n0_; have HB := n1_; clear n0_ n1_; (try clear hb); (try clear hb2); (try clear hk); (try clear hi); (try clear ho0)) | (go_at_call 13; (with_reducible refine (lexer_Lex.calls a1 t184 t185 t186 _ A14.out).mono ?_); rintro e w65 ⟨v187, rfl, ho0, hb⟩; have n0_ := Aside0.mk (Kd.R_elder' (by (with_reducible repeat (first | apply Kd.R_alloc | apply Kd.R_drewN | apply Kd.R_drew)); exact HO183.out) (Kd.R_base ho0) hb); have n1_ := Aside0.mk (Kd.R_lower (Kd.R_new' ho0 (Kd.R_lt (by (with_reducible repeat (first | apply Kd.R_alloc | apply Kd.R_drewN | apply Kd.R_drew)); exact HO183.out))) (below_size (by repeat (first | (with_reducible first | exact HB.out | apply below_alloc | apply pw_below_drewN | apply below_drew1) | exact HB.out)))); have n2_ := Aside0.mk (below_step (by repeat (first | (with_reducible first | exact HB.out | apply below_alloc | apply pw_below_drewN | apply below_drew1) | exact HB.out)) hb); clear HO183; clear HB; have HO183 := n0_; have HO188 := n1_; have HB := n2_; clear n0_ n1_ n2_; (try clear hb); (try clear hb2); (try clear hk); (try clear hi); (try clear ho0)) | (go_at_call 13; (with_reducible refine (lexer_Lex.calls ((a0 ++ (⟨#[32]⟩ : ByteArray)) ++ a1) t189 t190 t191 _ A17.out).mono ?_); rintro e w66 ⟨v192, rfl, ho0, hb⟩; have n0_ := Aside0.mk (Kd.R_elder' (by (with_reducible repeat (first | apply Kd.R_alloc | apply Kd.R_drewN | apply Kd.R_drew)); exact HO183.out) (Kd.R_base ho0) hb); have n1_ := Aside0.mk (Kd.R_elder' (by (with_reducible repeat (first | apply Kd.R_alloc | apply Kd.R_drewN | apply Kd.R_drew)); exact HO188.out) (Kd.R_base ho0) hb); have n2_ := Aside0.mk (Kd.R_lower (Kd.R_new' (Kd.R_new' ho0 (Kd.R_lt (by (with_reducible repeat (first | apply Kd.R_alloc | apply Kd.R_drewN | apply Kd.R_drew)); exact HO183.out))) (Kd.R_lt (by (with_reducible repeat (first | apply Kd.R_alloc | apply Kd.R_drewN | apply Kd.R_drew)); exact HO188.out))) (below_size (by repeat (first | (with_reducible first | exact HB.out | apply below_alloc | apply pw_below_drewN | apply below_drew1) | exact HB.out)))); have n3_ := Aside0.mk (below_step (by repeat (first | (with_reducible first | exact HB.out | apply below_alloc | apply pw_below_drewN | apply below_drew1) | exact HB.out)) hb); clear HO183; clear HO188; clear HB; have HO183 := n0_; have HO188 := n1_; have HO193 := n2_; have HB := n3_; clear n0_ n1_ n2_ n3_; (try clear hb); (try clear hb2); (try clear hk); (try clear hi); (try clear ho0)))
                repeat (go_quiet (first | (go_at_call 13; (with_reducible refine (lexer_Lex.calls a0 t179 t180 t181 _ A13.out).mono ?_); rintro e w64 ⟨v182, rfl, ho0, hb⟩; have n0_ := Aside0.mk (Kd.R_lower ho0 (below_size (by repeat (first | (with_reducible first | exact HB.out | apply below_alloc | apply pw_below_drewN | apply below_drew1) | exact HB.out)))); have n1_ := Aside0.mk (below_step (by repeat (first | (with_reducible first | exact HB.out | apply below_alloc | apply pw_below_drewN | apply below_drew1) | exact HB.out)) hb); clear HB; have HO183 := n0_; have HB := n1_; clear n0_ n1_; (try clear hb); (try clear hb2); (try clear hk); (try clear hi); (try clear ho0)) | (go_at_call 13; (with_reducible refine (lexer_Lex.calls a1 t184 t185 t186 _ A14.out).mono ?_); rintro e w65 ⟨v187, rfl, ho0, hb⟩; have n0_ := Aside0.mk (Kd.R_elder' (by (with_reducible repeat (first | apply Kd.R_alloc | apply Kd.R_drewN | apply Kd.R_drew)); exact HO183.out) (Kd.R_base ho0) hb); have n1_ := Aside0.mk (Kd.R_lower (Kd.R_new' ho0 (Kd.R_lt (by (with_reducible repeat (first | apply Kd.R_alloc | apply Kd.R_drewN | apply Kd.R_drew)); exact HO183.out))) (below_size (by repeat (first | (with_reducible first | exact HB.out | apply below_alloc | apply pw_below_drewN | apply below_drew1) | exact HB.out)))); have n2_ := Aside0.mk (below_step (by repeat (first | (with_reducible first | exact HB.out | apply below_alloc | apply pw_below_drewN | apply below_drew1) | exact HB.out)) hb); clear HO183; clear HB; have HO183 := n0_; have HO188 := n1_; have HB := n2_; clear n0_ n1_ n2_; (try clear hb); (try clear hb2); (try clear hk); (try clear hi); (try clear ho0)) | (go_at_call 13; (with_reducible refine (lexer_Lex.calls ((a0 ++ (⟨#[32]⟩ : ByteArray)) ++ a1) t189 t190 t191 _ A17.out).mono ?_); rintro e w66 ⟨v192, rfl, ho0, hb⟩; have n0_ := Aside0.mk (Kd.R_elder' (by (with_reducible repeat (first | apply Kd.R_alloc | apply Kd.R_drewN | apply Kd.R_drew)); exact HO183.out) (Kd.R_base ho0) hb); have n1_ := Aside0.mk (Kd.R_elder' (by (with_reducible repeat (first | apply Kd.R_alloc | apply Kd.R_drewN | apply Kd.R_drew)); exact HO188.out) (Kd.R_base ho0) hb); have n2_ := Aside0.mk (Kd.R_lower (Kd.R_new' (Kd.R_new' ho0 (Kd.R_lt (by (with_reducible repeat (first | apply Kd.R_alloc | apply Kd.R_drewN | apply Kd.R_drew)); exact HO183.out))) (Kd.R_lt (by (with_reducible repeat (first | apply Kd.R_alloc | apply Kd.R_drewN | apply Kd.R_drew)); exact HO188.out))) (below_size (by repeat (first | (with_reducible first | exact HB.out | apply below_alloc | apply pw_below_drewN | apply below_drew1) | exact HB.out)))); have n3_ := Aside0.mk (below_step (by repeat (first | (with_reducible first | exact HB.out | apply below_alloc | apply pw_below_drewN | apply below_drew1) | exact HB.out)) hb); clear HO183; clear HO188; clear HB; have HO183 := n0_; have HO188 := n1_; have HO193 := n2_; have HB := n3_; clear n0_ n1_ n2_ n3_; (try clear hb); (try clear hb2); (try clear hk); (try clear hi); (try clear ho0))); try go_wp2_with (first | (go_at_call 13; (with_reducible refine (lexer_Lex.calls a0 t179 t180 t181 _ A13.out).mono ?_); rintro e w64 ⟨v182, rfl, ho0, hb⟩; have n0_ := Aside0.mk (Kd.R_lower ho0 (below_size (by repeat (first | (with_reducible first | exact HB.out | apply below_alloc | apply pw_below_drewN | apply below_drew1) | exact HB.out)))); have n1_ := Aside0.mk (below_step (by repeat (first | (with_reducible first | exact HB.out | apply below_alloc | apply pw_below_drewN | apply below_drew1) | exact HB.out)) hb); clear HB; have HO183 := n0_; have HB := n1_; clear n0_ n1_; (try clear hb); (try clear hb2); (try clear hk); (try clear hi); (try clear ho0)) | (go_at_call 13; (with_reducible refine (lexer_Lex.calls a1 t184 t185 t186 _ A14.out).mono ?_); rintro e w65 ⟨v187, rfl, ho0, hb⟩; have n0_ := Aside0.mk (Kd.R_elder' (by (with_reducible repeat (first | apply Kd.R_alloc | apply Kd.R_drewN | apply Kd.R_drew)); exact HO183.out) (Kd.R_base ho0) hb); have n1_ := Aside0.mk (Kd.R_lower (Kd.R_new' ho0 (Kd.R_lt (by (with_reducible repeat (first | apply Kd.R_alloc | apply Kd.R_drewN | apply Kd.R_drew)); exact HO183.out))) (below_size (by repeat (first | (with_reducible first | exact HB.out | apply below_alloc | apply pw_below_drewN | apply below_drew1) | exact HB.out)))); have n2_ := Aside0.mk (below_step (by repeat (first | (with_reducible first | exact HB.out | apply below_alloc | apply pw_below_drewN | apply below_drew1) | exact HB.out)) hb); clear HO183; clear HB; have HO183 := n0_; have HO188 := n1_; have HB := n2_; clear n0_ n1_ n2_; (try clear hb); (try clear hb2); (try clear hk); (try clear hi); (try clear ho0)) | (go_at_call 13; (with_reducible refine (lexer_Lex.calls ((a0 ++ (⟨#[32]⟩ : ByteArray)) ++ a1) t189 t190 t191 _ A17.out).mono ?_); rintro e w66 ⟨v192, rfl, ho0, hb⟩; have n0_ := Aside0.mk (Kd.R_elder' (by (with_reducible repeat (first | apply Kd.R_alloc | apply Kd.R_drewN | apply Kd.R_drew)); exact HO183.out) (Kd.R_base ho0) hb); have n1_ := Aside0.mk (Kd.R_elder' (by (with_reducible repeat (first | apply Kd.R_alloc | apply Kd.R_drewN | apply Kd.R_drew)); exact HO188.out) (Kd.R_base ho0) hb); have n2_ := Aside0.mk (Kd.R_lower (Kd.R_new' (Kd.R_new' ho0 (Kd.R_lt (by (with_reducible repeat (first | apply Kd.R_alloc | apply Kd.R_drewN | apply Kd.R_drew)); exact HO183.out))) (Kd.R_lt (by (with_reducible repeat (first | apply Kd.R_alloc | apply Kd.R_drewN | apply Kd.R_drew)); exact HO188.out))) (below_size (by repeat (first | (with_reducible first | exact HB.out | apply below_alloc | apply pw_below_drewN | apply below_drew1) | exact HB.out)))); have n3_ := Aside0.mk (below_step (by repeat (first | (with_reducible first | exact HB.out | apply below_alloc | apply pw_below_drewN | apply below_drew1) | exact HB.out)) hb); clear HO183; clear HO188; clear HB; have HO183 := n0_; have HO188 := n1_; have HO193 := n2_; have HB := n3_; clear n0_ n1_ n2_ n3_; (try clear hb); (try clear hb2); (try clear hk); (try clear hi); (try clear ho0))))
                go_ret
                exact ⟨by first | rfl | (simp [errW_none, errW_some] <;> rfl) | (simp [*, errW_none, errW_some] <;> rfl) | (rw [wrap64_wrap_add]; rfl) | (have e_ := Option.some.inj (A28.out.symm.trans A30.out); subst e_; rfl), by repeat (first | (with_reducible first | exact HB.out | apply below_alloc | apply pw_below_drewN | apply below_drew1) | exact HB.out)⟩
          · rw [if_neg c16] at H
            exact absurd H (by simp)
        · rw [if_neg c15] at H
          exact absurd H (by simp)

/-- THE ONE PURE STATEMENT of cylinderlaw35_LexerTwo: yours. -/
def cylinderlaw35_LexerTwo.Pure : Prop := ∀ (a0 : ByteArray) (a1 : ByteArray), a0.size ≤ 140737488351232 → a1.size ≤ 140737488351232 → ∃ k, cylinderlaw35_LexerTwo.f k a0 a1 = some true
theorem cylinderlaw35_LexerTwo.walk (P : cylinderlaw35_LexerTwo.Pure) (a0 : ByteArray) (a1 : ByteArray) (w : World) (w0 : a0.size ≤ 140737488351232) (w1 : a1.size ≤ 140737488351232) :
    Calls Try.prog 6 #[.string a0, .string a1] w fun e w' => e = .returned (.bool true) ∧ Below w.heap.size w w' := by
  obtain ⟨k, h⟩ := P a0 a1 w0 w1
  refine (cylinderlaw35_LexerTwo.calls k a0 a1 true w h).mono ?_
  rintro e w' ⟨rfl, hd⟩
  exact ⟨rfl, hd⟩

end Go.Proofs.Ytkomgnaleocleaa.PAll
