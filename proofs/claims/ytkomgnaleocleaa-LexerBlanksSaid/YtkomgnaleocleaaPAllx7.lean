-- printed by wip/tools/xprint.py (the kit's print program, with stubs); checked by Lean
import Derived.Test.YtkomgnaleocleaaPAllx0
import Derived.Test.YtkomgnaleocleaaPAllx2
import Derived.Test.YtkomgnaleocleaaLex
namespace Go.Proofs.Ytkomgnaleocleaa.PAll
open Go.RowKit Go.Proofs.YtkomgnaleocleaaW.PrintWords Go.Proofs.YtkomgnaleocleaaW.PrintLast Go.Proofs.YtkomgnaleocleaaW.PrintMore
attribute [local go_sem] max2_int min2_int max_two min_two max_three min_three max_four min_four   -- for this text's walks alone
set_option linter.unusedVariables false
set_option linter.unusedSimpArgs false

/-! ### cylinderlaw35_LexerPrefix: function 7 -/
mutual
def cylinderlaw35_LexerPrefix.j0 : Nat → ByteArray → Int → Bool → Option (Bool)
  | 0, _, _, _ => none
  | k + 1, x0, x1, x19 => if x19 = true then ((cylinderlaw35_awake.f).bind fun t201 => (some t201)) else ((lexer_Lex.f x0).bind fun bt202 => (if (wrap64 ((x0.size : Int) + 1)) = 0 then (none) else (if 0 ≤ (Int.tmod (wrap64 (x1)) (wrap64 ((x0.size : Int) + 1))) then (if (Int.tmod (wrap64 (x1)) (wrap64 ((x0.size : Int) + 1))) ≤ (x0.size : Int) then ((lexer_Lex.f (x0.extract 0 ((Int.tmod (wrap64 (x1)) (wrap64 ((x0.size : Int) + 1))) : Int).toNat)).bind fun bt207 => (if bt202.2.2 = 0 then (if bt207.2.2 = 0 then (cylinderlaw35_LexerPrefix.j1 k bt202.1 (Int.tmod (wrap64 (x1)) (wrap64 ((x0.size : Int) + 1))) bt207.1 (decide ((bt207.1.length : Int) > (bt202.1.length : Int)))) else (cylinderlaw35_LexerPrefix.j1 k bt202.1 (Int.tmod (wrap64 (x1)) (wrap64 ((x0.size : Int) + 1))) bt207.1 true)) else (some true))) else (none)) else (none))))
def cylinderlaw35_LexerPrefix.j1 : Nat → List (S30) → Int → List (S30) → Bool → Option (Bool)
  | 0, _, _, _, _ => none
  | k + 1, x5, x8, x9, x51 => if x51 = true then (some false) else (cylinderlaw35_LexerPrefix.l0 k x5 x8 x9 (x5.length : Int) 0)
def cylinderlaw35_LexerPrefix.l0 : Nat → List (S30) → Int → List (S30) → Int → Int → Option (Bool)
  | 0, _, _, _, _, _ => none
  | k + 1, x5, x8, x9, x53, x54 => if x54 < x53 then (if 0 ≤ x54 then (if x54 < (x5.length : Int) then (if (wrap64 (((rd_T30 x5 x54).f2) + (((rd_T30 x5 x54).f1).size : Int))) ≤ x8 then (if x54 ≥ (x9.length : Int) then (cylinderlaw35_LexerPrefix.j3 k x5 x8 x9 x54 x53 x54 true) else (if x54 < (x9.length : Int) then (if ((rd_T30 x9 x54).f2) = ((rd_T30 x5 x54).f2) then (cylinderlaw35_LexerPrefix.j3 k x5 x8 x9 x54 x53 x54 (((rd_T30 x9 x54).f1).toList != ((rd_T30 x5 x54).f1).toList)) else (cylinderlaw35_LexerPrefix.j3 k x5 x8 x9 x54 x53 x54 true)) else (none))) else (cylinderlaw35_LexerPrefix.j3 k x5 x8 x9 x54 x53 x54 false)) else (none)) else (none)) else (some true)
def cylinderlaw35_LexerPrefix.j3 : Nat → List (S30) → Int → List (S30) → Int → Int → Int → Bool → Option (Bool)
  | 0, _, _, _, _, _, _, _ => none
  | k + 1, x5, x8, x9, x12, x53, x54, x102 => if x102 = true then (some false) else (if 0 ≤ x12 then (if x12 < (x5.length : Int) then (if ((rd_T30 x5 x12).f2) ≥ x8 then (if x12 < (x9.length : Int) then (some false) else (cylinderlaw35_LexerPrefix.l0 k x5 x8 x9 x53 (wrap64 (x54 + 1)))) else (cylinderlaw35_LexerPrefix.l0 k x5 x8 x9 x53 (wrap64 (x54 + 1)))) else (none)) else (none))
end
def cylinderlaw35_LexerPrefix.f (k : Nat) (a0 : ByteArray) (a1 : Int) : Option (Bool) := (cylinderlaw35_awake.f).bind fun t200 => (if t200 = true then (cylinderlaw35_LexerPrefix.j0 k a0 a1 (decide ((a0.size : Int) > 3000))) else (cylinderlaw35_LexerPrefix.j0 k a0 a1 true))
theorem cylinderlaw35_LexerPrefix.mono_l : ∀ k, (∀ y0 y1 y2, LeO (cylinderlaw35_LexerPrefix.j0 k y0 y1 y2) (cylinderlaw35_LexerPrefix.j0 (k + 1) y0 y1 y2)) ∧ (∀ y0 y1 y2 y3, LeO (cylinderlaw35_LexerPrefix.j1 k y0 y1 y2 y3) (cylinderlaw35_LexerPrefix.j1 (k + 1) y0 y1 y2 y3)) ∧ (∀ y0 y1 y2 y3 y4, LeO (cylinderlaw35_LexerPrefix.l0 k y0 y1 y2 y3 y4) (cylinderlaw35_LexerPrefix.l0 (k + 1) y0 y1 y2 y3 y4)) ∧ (∀ y0 y1 y2 y3 y4 y5 y6, LeO (cylinderlaw35_LexerPrefix.j3 k y0 y1 y2 y3 y4 y5 y6) (cylinderlaw35_LexerPrefix.j3 (k + 1) y0 y1 y2 y3 y4 y5 y6))
  | 0 => ⟨fun _ _ _ r h => by simp [cylinderlaw35_LexerPrefix.j0] at h, fun _ _ _ _ r h => by simp [cylinderlaw35_LexerPrefix.j1] at h, fun _ _ _ _ _ r h => by simp [cylinderlaw35_LexerPrefix.l0] at h, fun _ _ _ _ _ _ _ r h => by simp [cylinderlaw35_LexerPrefix.j3] at h⟩
  | k + 1 => by
    obtain ⟨ih0, ih1, ih2, ih3⟩ := cylinderlaw35_LexerPrefix.mono_l k
    refine ⟨?_, ?_, ?_, ?_⟩
    · intro y0 y1 y2
      unfold cylinderlaw35_LexerPrefix.j0
      repeat' first
      | (with_reducible exact ih0 _ _ _)
      | (with_reducible exact ih1 _ _ _ _)
      | (with_reducible exact ih2 _ _ _ _ _)
      | (with_reducible exact ih3 _ _ _ _ _ _ _)
      | (with_reducible exact LeO.refl _)
      | (with_reducible exact LeO.none _)
      | (with_reducible refine LeO.ite ?_ ?_)
      | (with_reducible refine LeO.bind ?_ (fun _ => ?_))
      | exact ih0 _ _ _
      | exact ih1 _ _ _ _
      | exact ih2 _ _ _ _ _
      | exact ih3 _ _ _ _ _ _ _
      | exact LeO.none _
      | refine LeO.ite ?_ ?_
      | refine LeO.bind ?_ (fun _ => ?_)
    · intro y0 y1 y2 y3
      unfold cylinderlaw35_LexerPrefix.j1
      repeat' first
      | (with_reducible exact ih0 _ _ _)
      | (with_reducible exact ih1 _ _ _ _)
      | (with_reducible exact ih2 _ _ _ _ _)
      | (with_reducible exact ih3 _ _ _ _ _ _ _)
      | (with_reducible exact LeO.refl _)
      | (with_reducible exact LeO.none _)
      | (with_reducible refine LeO.ite ?_ ?_)
      | (with_reducible refine LeO.bind ?_ (fun _ => ?_))
      | exact ih0 _ _ _
      | exact ih1 _ _ _ _
      | exact ih2 _ _ _ _ _
      | exact ih3 _ _ _ _ _ _ _
      | exact LeO.none _
      | refine LeO.ite ?_ ?_
      | refine LeO.bind ?_ (fun _ => ?_)
    · intro y0 y1 y2 y3 y4
      unfold cylinderlaw35_LexerPrefix.l0
      repeat' first
      | (with_reducible exact ih0 _ _ _)
      | (with_reducible exact ih1 _ _ _ _)
      | (with_reducible exact ih2 _ _ _ _ _)
      | (with_reducible exact ih3 _ _ _ _ _ _ _)
      | (with_reducible exact LeO.refl _)
      | (with_reducible exact LeO.none _)
      | (with_reducible refine LeO.ite ?_ ?_)
      | (with_reducible refine LeO.bind ?_ (fun _ => ?_))
      | exact ih0 _ _ _
      | exact ih1 _ _ _ _
      | exact ih2 _ _ _ _ _
      | exact ih3 _ _ _ _ _ _ _
      | exact LeO.none _
      | refine LeO.ite ?_ ?_
      | refine LeO.bind ?_ (fun _ => ?_)
    · intro y0 y1 y2 y3 y4 y5 y6
      unfold cylinderlaw35_LexerPrefix.j3
      repeat' first
      | (with_reducible exact ih0 _ _ _)
      | (with_reducible exact ih1 _ _ _ _)
      | (with_reducible exact ih2 _ _ _ _ _)
      | (with_reducible exact ih3 _ _ _ _ _ _ _)
      | (with_reducible exact LeO.refl _)
      | (with_reducible exact LeO.none _)
      | (with_reducible refine LeO.ite ?_ ?_)
      | (with_reducible refine LeO.bind ?_ (fun _ => ?_))
      | exact ih0 _ _ _
      | exact ih1 _ _ _ _
      | exact ih2 _ _ _ _ _
      | exact ih3 _ _ _ _ _ _ _
      | exact LeO.none _
      | refine LeO.ite ?_ ?_
      | refine LeO.bind ?_ (fun _ => ?_)
theorem cylinderlaw35_LexerPrefix.mono : ∀ a0 a1 k, LeO (cylinderlaw35_LexerPrefix.f k a0 a1) (cylinderlaw35_LexerPrefix.f (k + 1) a0 a1) := by
  intro a0 a1 k
  obtain ⟨ih0, ih1, ih2, ih3⟩ := cylinderlaw35_LexerPrefix.mono_l k
  unfold cylinderlaw35_LexerPrefix.f
  repeat' first
      | (with_reducible exact ih0 _ _ _)
      | (with_reducible exact ih1 _ _ _ _)
      | (with_reducible exact ih2 _ _ _ _ _)
      | (with_reducible exact ih3 _ _ _ _ _ _ _)
      | (with_reducible exact LeO.refl _)
      | (with_reducible exact LeO.none _)
      | (with_reducible refine LeO.ite ?_ ?_)
      | (with_reducible refine LeO.bind ?_ (fun _ => ?_))
      | exact ih0 _ _ _
      | exact ih1 _ _ _ _
      | exact ih2 _ _ _ _ _
      | exact ih3 _ _ _ _ _ _ _
      | exact LeO.none _
      | refine LeO.ite ?_ ?_
      | refine LeO.bind ?_ (fun _ => ?_)
set_option maxHeartbeats 8000000 in
set_option maxRecDepth 100000 in
theorem cylinderlaw35_LexerPrefix.calls (k : Nat) (a0 : ByteArray) (a1 : Int) (r : Bool) (w : World) (h : cylinderlaw35_LexerPrefix.f k a0 a1 = some r) :
    Calls Try.prog 7 #[.string a0, .int .u16 a1] w fun e w' => e = .returned (.bool r) ∧ Below w.heap.size w w' := by
  have HB := Aside0.mk (Below.refl w.heap.size w)
  have H : ((cylinderlaw35_awake.f).bind fun t200 => (if t200 = true then (cylinderlaw35_LexerPrefix.j0 k a0 a1 (decide ((a0.size : Int) > 3000))) else (cylinderlaw35_LexerPrefix.j0 k a0 a1 true))) = some r := h
  clear h
  have HC3 := Aside0.mk H
  clear H
  go_enter Try.func7, Try.ntmps7
  go_upto_region 1 with (fail)
  repeat (go_quiet (fail); go_upto_region 1 with (fail))
  go_cut [19] (fun v19 wc => ∃ (kq : Nat) (x19_2 : Bool), v19 = .bool x19_2 ∧ Aside0 (cylinderlaw35_LexerPrefix.j0 kq a0 a1 x19_2 = some r) ∧ Aside0 (kq ≤ k) ∧ Aside0 (Below w.heap.size w wc))
  case first =>
    have H := HC3.out
    clear HC3
    replace H := Option.bind_eq_some_iff.mp H
    obtain ⟨t200, A40, H⟩ := H
    replace H : (if t200 = true then (cylinderlaw35_LexerPrefix.j0 k a0 a1 (decide ((a0.size : Int) > 3000))) else (cylinderlaw35_LexerPrefix.j0 k a0 a1 true)) = some r := H
    have A4 := Aside0.mk A40
    clear A40
    by_cases c5 : t200 = true
    · subst c5
      have H1 : (cylinderlaw35_LexerPrefix.j0 k a0 a1 (decide ((a0.size : Int) > 3000))) = some r := by rw [if_pos rfl] at H; exact H
      clear H
      have H := H1
      clear H1
      have H' := Aside0.mk H
      clear H
      go_wp2_with (first | (go_at_call 12; (with_reducible refine (cylinderlaw35_awake.calls  true _ A4.out).mono ?_); rintro e w6 ⟨rfl, hb⟩; have n0_ := Aside0.mk (below_step (by repeat (first | (with_reducible first | exact HB.out | apply below_alloc | apply pw_below_drewN | apply below_drew1) | exact HB.out)) hb); clear HB; have HB := n0_; clear n0_; (try clear hb); (try clear hb2); (try clear hk); (try clear hi)))
      repeat (go_quiet (first | (go_at_call 12; (with_reducible refine (cylinderlaw35_awake.calls  true _ A4.out).mono ?_); rintro e w6 ⟨rfl, hb⟩; have n0_ := Aside0.mk (below_step (by repeat (first | (with_reducible first | exact HB.out | apply below_alloc | apply pw_below_drewN | apply below_drew1) | exact HB.out)) hb); clear HB; have HB := n0_; clear n0_; (try clear hb); (try clear hb2); (try clear hk); (try clear hi))); try go_wp2_with (first | (go_at_call 12; (with_reducible refine (cylinderlaw35_awake.calls  true _ A4.out).mono ?_); rintro e w6 ⟨rfl, hb⟩; have n0_ := Aside0.mk (below_step (by repeat (first | (with_reducible first | exact HB.out | apply below_alloc | apply pw_below_drewN | apply below_drew1) | exact HB.out)) hb); clear HB; have HB := n0_; clear n0_; (try clear hb); (try clear hb2); (try clear hk); (try clear hi))))
      go_meet
      case rel => exact ⟨_, (decide ((a0.size : Int) > 3000)), (by first | rfl | (simp; done) | (simp [*]; done)), H', ⟨by first | omega | exact Nat.le_refl _⟩, ⟨by repeat (first | (with_reducible first | exact HB.out | apply below_alloc | apply pw_below_drewN | apply below_drew1) | exact HB.out)⟩⟩
    · replace c5 := Bool.eq_false_iff.mpr c5
      subst c5
      have H1 : (cylinderlaw35_LexerPrefix.j0 k a0 a1 true) = some r := by rw [if_neg (show ¬ (false = true) by decide)] at H; exact H
      clear H
      have H := H1
      clear H1
      have H' := Aside0.mk H
      clear H
      go_wp2_with (first | (go_at_call 12; (with_reducible refine (cylinderlaw35_awake.calls  false _ A4.out).mono ?_); rintro e w7 ⟨rfl, hb⟩; have n0_ := Aside0.mk (below_step (by repeat (first | (with_reducible first | exact HB.out | apply below_alloc | apply pw_below_drewN | apply below_drew1) | exact HB.out)) hb); clear HB; have HB := n0_; clear n0_; (try clear hb); (try clear hb2); (try clear hk); (try clear hi)))
      repeat (go_quiet (first | (go_at_call 12; (with_reducible refine (cylinderlaw35_awake.calls  false _ A4.out).mono ?_); rintro e w7 ⟨rfl, hb⟩; have n0_ := Aside0.mk (below_step (by repeat (first | (with_reducible first | exact HB.out | apply below_alloc | apply pw_below_drewN | apply below_drew1) | exact HB.out)) hb); clear HB; have HB := n0_; clear n0_; (try clear hb); (try clear hb2); (try clear hk); (try clear hi))); try go_wp2_with (first | (go_at_call 12; (with_reducible refine (cylinderlaw35_awake.calls  false _ A4.out).mono ?_); rintro e w7 ⟨rfl, hb⟩; have n0_ := Aside0.mk (below_step (by repeat (first | (with_reducible first | exact HB.out | apply below_alloc | apply pw_below_drewN | apply below_drew1) | exact HB.out)) hb); clear HB; have HB := n0_; clear n0_; (try clear hb); (try clear hb2); (try clear hk); (try clear hi))))
      go_meet
      case rel => exact ⟨_, (true), (by first | rfl | (simp; done) | (simp [*]; done)), H', ⟨by first | omega | exact Nat.le_refl _⟩, ⟨by repeat (first | (with_reducible first | exact HB.out | apply below_alloc | apply pw_below_drewN | apply below_drew1) | exact HB.out)⟩⟩
  case rest =>
    clear HC3
    try clear p2
    try clear c5
    try clear c7
    obtain ⟨kq, x19_2, rfl, HA, HJ2, HB⟩ := hcut
    cases kq with
    | zero => exact absurd HA.out (by simp [cylinderlaw35_LexerPrefix.j0])
    | succ kj2 =>
      have H := HA.out
      clear HA
      simp only [cylinderlaw35_LexerPrefix.j0] at H
      by_cases c8 : x19_2 = true
      · subst c8
        have H1 : ((cylinderlaw35_awake.f).bind fun t201 => (some t201)) = some r := by rw [if_pos rfl] at H; exact H
        clear H
        have H := H1
        clear H1
        replace H := Option.bind_eq_some_iff.mp H
        obtain ⟨t201, A90, H⟩ := H
        replace H : (some t201) = some r := H
        have A9 := Aside0.mk A90
        clear A90
        obtain rfl := Option.some.inj H
        go_wp2_with (first | (go_at_call 12; (with_reducible refine (cylinderlaw35_awake.calls  t201 _ A9.out).mono ?_); rintro e w10 ⟨rfl, hb⟩; have n0_ := Aside0.mk (below_step (by repeat (first | (with_reducible first | exact HB.out | apply below_alloc | apply pw_below_drewN | apply below_drew1) | exact HB.out)) hb); clear HB; have HB := n0_; clear n0_; (try clear hb); (try clear hb2); (try clear hk); (try clear hi)))
        repeat (go_quiet (first | (go_at_call 12; (with_reducible refine (cylinderlaw35_awake.calls  t201 _ A9.out).mono ?_); rintro e w10 ⟨rfl, hb⟩; have n0_ := Aside0.mk (below_step (by repeat (first | (with_reducible first | exact HB.out | apply below_alloc | apply pw_below_drewN | apply below_drew1) | exact HB.out)) hb); clear HB; have HB := n0_; clear n0_; (try clear hb); (try clear hb2); (try clear hk); (try clear hi))); try go_wp2_with (first | (go_at_call 12; (with_reducible refine (cylinderlaw35_awake.calls  t201 _ A9.out).mono ?_); rintro e w10 ⟨rfl, hb⟩; have n0_ := Aside0.mk (below_step (by repeat (first | (with_reducible first | exact HB.out | apply below_alloc | apply pw_below_drewN | apply below_drew1) | exact HB.out)) hb); clear HB; have HB := n0_; clear n0_; (try clear hb); (try clear hb2); (try clear hk); (try clear hi))))
        go_ret
        exact ⟨by first | rfl | (simp [errW_none, errW_some] <;> rfl) | (simp [*, errW_none, errW_some] <;> rfl) | (rw [wrap64_wrap_add]; rfl) | (have e_ := Option.some.inj (A28.out.symm.trans A30.out); subst e_; rfl), by repeat (first | (with_reducible first | exact HB.out | apply below_alloc | apply pw_below_drewN | apply below_drew1) | exact HB.out)⟩
      · replace c8 := Bool.eq_false_iff.mpr c8
        subst c8
        have H1 : ((lexer_Lex.f a0).bind fun bt202 => (if (wrap64 ((a0.size : Int) + 1)) = 0 then (none) else (if 0 ≤ (Int.tmod (wrap64 (a1)) (wrap64 ((a0.size : Int) + 1))) then (if (Int.tmod (wrap64 (a1)) (wrap64 ((a0.size : Int) + 1))) ≤ (a0.size : Int) then ((lexer_Lex.f (a0.extract 0 ((Int.tmod (wrap64 (a1)) (wrap64 ((a0.size : Int) + 1))) : Int).toNat)).bind fun bt207 => (if bt202.2.2 = 0 then (if bt207.2.2 = 0 then (cylinderlaw35_LexerPrefix.j1 kj2 bt202.1 (Int.tmod (wrap64 (a1)) (wrap64 ((a0.size : Int) + 1))) bt207.1 (decide ((bt207.1.length : Int) > (bt202.1.length : Int)))) else (cylinderlaw35_LexerPrefix.j1 kj2 bt202.1 (Int.tmod (wrap64 (a1)) (wrap64 ((a0.size : Int) + 1))) bt207.1 true)) else (some true))) else (none)) else (none)))) = some r := by rw [if_neg (show ¬ (false = true) by decide)] at H; exact H
        clear H
        have H := H1
        clear H1
        replace H := Option.bind_eq_some_iff.mp H
        obtain ⟨⟨t202, t203, t204⟩, A110, H⟩ := H
        replace H : (if (wrap64 ((a0.size : Int) + 1)) = 0 then (none) else (if 0 ≤ (Int.tmod (wrap64 (a1)) (wrap64 ((a0.size : Int) + 1))) then (if (Int.tmod (wrap64 (a1)) (wrap64 ((a0.size : Int) + 1))) ≤ (a0.size : Int) then ((lexer_Lex.f (a0.extract 0 ((Int.tmod (wrap64 (a1)) (wrap64 ((a0.size : Int) + 1))) : Int).toNat)).bind fun bt207 => (if t204 = 0 then (if bt207.2.2 = 0 then (cylinderlaw35_LexerPrefix.j1 kj2 t202 (Int.tmod (wrap64 (a1)) (wrap64 ((a0.size : Int) + 1))) bt207.1 (decide ((bt207.1.length : Int) > (t202.length : Int)))) else (cylinderlaw35_LexerPrefix.j1 kj2 t202 (Int.tmod (wrap64 (a1)) (wrap64 ((a0.size : Int) + 1))) bt207.1 true)) else (some true))) else (none)) else (none))) = some r := H
        have A11 := Aside0.mk A110
        clear A110
        by_cases c12 : (wrap64 ((a0.size : Int) + 1)) = 0
        · rw [if_pos c12] at H
          exact absurd H (by simp)
        · rw [if_neg c12] at H
          have c12b0 : ((wrap64 ((a0.size : Int) + 1)) == 0) = false := beq_eq_false_iff_ne.mpr c12
          have c12b1 : ((wrap64 ((a0.size : Int) + 1)) != 0) = true := bne_iff_ne.mpr c12
          obtain ⟨ji13, hji13⟩ : ∃ j_ : Int, (Int.tmod (wrap64 (a1)) (wrap64 ((a0.size : Int) + 1))) = j_ := ⟨_, rfl⟩
          replace H : (if 0 ≤ (ji13) then (if (ji13) ≤ (a0.size : Int) then ((lexer_Lex.f (a0.extract 0 ((ji13) : Int).toNat)).bind fun bt207 => (if t204 = 0 then (if bt207.2.2 = 0 then (cylinderlaw35_LexerPrefix.j1 kj2 t202 ji13 bt207.1 (decide ((bt207.1.length : Int) > (t202.length : Int)))) else (cylinderlaw35_LexerPrefix.j1 kj2 t202 ji13 bt207.1 true)) else (some true))) else (none)) else (none)) = some r := by first | (rw [hji13] at H; exact H) | (simp only [hji13] at H ⊢; exact H)
          (try rw [hji13] at A11)
          by_cases c14 : 0 ≤ (ji13)
          · rw [if_pos c14] at H
            have c14b0 := eq_true c14
            have c14b1 : decide (0 ≤ (ji13)) = true := decide_eq_true c14
            clear c14
            by_cases c15 : (ji13) ≤ (a0.size : Int)
            · rw [if_pos c15] at H
              have c15b0 := eq_true c15
              have c15b1 : decide ((ji13) ≤ (a0.size : Int)) = true := decide_eq_true c15
              clear c15
              replace H := Option.bind_eq_some_iff.mp H
              obtain ⟨⟨t207, t208, t209⟩, A160, H⟩ := H
              replace H : (if t204 = 0 then (if t209 = 0 then (cylinderlaw35_LexerPrefix.j1 kj2 t202 ji13 t207 (decide ((t207.length : Int) > (t202.length : Int)))) else (cylinderlaw35_LexerPrefix.j1 kj2 t202 ji13 t207 true)) else (some true)) = some r := H
              have A16 := Aside0.mk A160
              clear A160
              by_cases c17 : t204 = 0
              · rw [if_pos c17] at H
                have c17b0 : (t204 == 0) = true := beq_iff_eq.mpr c17
                have c17b1 : (t204 != 0) = false := bne_eq_false_iff_eq.mpr c17
                clear c17
                have HC18 := Aside0.mk H
                clear H
                go_upto_region 8 with (first | (go_at_call 13; (with_reducible refine (lexer_Lex.calls a0 t202 t203 t204 _ A11.out).mono ?_); rintro e w19 ⟨v205, rfl, ho0, hb⟩; have n0_ := Aside0.mk (Kd.R_lower ho0 (below_size (by repeat (first | (with_reducible first | exact HB.out | apply below_alloc | apply pw_below_drewN | apply below_drew1) | exact HB.out)))); have n1_ := Aside0.mk (below_step (by repeat (first | (with_reducible first | exact HB.out | apply below_alloc | apply pw_below_drewN | apply below_drew1) | exact HB.out)) hb); clear HB; have HO206 := n0_; have HB := n1_; clear n0_ n1_; (try clear hb); (try clear hb2); (try clear hk); (try clear hi); (try clear ho0)) | (go_at_call 13; (with_reducible refine (lexer_Lex.calls (a0.extract 0 ((ji13) : Int).toNat) t207 t208 t209 _ A16.out).mono ?_); rintro e w20 ⟨v210, rfl, ho0, hb⟩; have n0_ := Aside0.mk (Kd.R_elder' (by (with_reducible repeat (first | apply Kd.R_alloc | apply Kd.R_drewN | apply Kd.R_drew)); exact HO206.out) (Kd.R_base ho0) hb); have n1_ := Aside0.mk (Kd.R_lower (Kd.R_new' ho0 (Kd.R_lt (by (with_reducible repeat (first | apply Kd.R_alloc | apply Kd.R_drewN | apply Kd.R_drew)); exact HO206.out))) (below_size (by repeat (first | (with_reducible first | exact HB.out | apply below_alloc | apply pw_below_drewN | apply below_drew1) | exact HB.out)))); have n2_ := Aside0.mk (below_step (by repeat (first | (with_reducible first | exact HB.out | apply below_alloc | apply pw_below_drewN | apply below_drew1) | exact HB.out)) hb); clear HO206; clear HB; have HO206 := n0_; have HO211 := n1_; have HB := n2_; clear n0_ n1_ n2_; (try clear hb); (try clear hb2); (try clear hk); (try clear hi); (try clear ho0)))
                repeat (go_quiet (first | (go_at_call 13; (with_reducible refine (lexer_Lex.calls a0 t202 t203 t204 _ A11.out).mono ?_); rintro e w19 ⟨v205, rfl, ho0, hb⟩; have n0_ := Aside0.mk (Kd.R_lower ho0 (below_size (by repeat (first | (with_reducible first | exact HB.out | apply below_alloc | apply pw_below_drewN | apply below_drew1) | exact HB.out)))); have n1_ := Aside0.mk (below_step (by repeat (first | (with_reducible first | exact HB.out | apply below_alloc | apply pw_below_drewN | apply below_drew1) | exact HB.out)) hb); clear HB; have HO206 := n0_; have HB := n1_; clear n0_ n1_; (try clear hb); (try clear hb2); (try clear hk); (try clear hi); (try clear ho0)) | (go_at_call 13; (with_reducible refine (lexer_Lex.calls (a0.extract 0 ((ji13) : Int).toNat) t207 t208 t209 _ A16.out).mono ?_); rintro e w20 ⟨v210, rfl, ho0, hb⟩; have n0_ := Aside0.mk (Kd.R_elder' (by (with_reducible repeat (first | apply Kd.R_alloc | apply Kd.R_drewN | apply Kd.R_drew)); exact HO206.out) (Kd.R_base ho0) hb); have n1_ := Aside0.mk (Kd.R_lower (Kd.R_new' ho0 (Kd.R_lt (by (with_reducible repeat (first | apply Kd.R_alloc | apply Kd.R_drewN | apply Kd.R_drew)); exact HO206.out))) (below_size (by repeat (first | (with_reducible first | exact HB.out | apply below_alloc | apply pw_below_drewN | apply below_drew1) | exact HB.out)))); have n2_ := Aside0.mk (below_step (by repeat (first | (with_reducible first | exact HB.out | apply below_alloc | apply pw_below_drewN | apply below_drew1) | exact HB.out)) hb); clear HO206; clear HB; have HO206 := n0_; have HO211 := n1_; have HB := n2_; clear n0_ n1_ n2_; (try clear hb); (try clear hb2); (try clear hk); (try clear hi); (try clear ho0))); go_upto_region 8 with (first | (go_at_call 13; (with_reducible refine (lexer_Lex.calls a0 t202 t203 t204 _ A11.out).mono ?_); rintro e w19 ⟨v205, rfl, ho0, hb⟩; have n0_ := Aside0.mk (Kd.R_lower ho0 (below_size (by repeat (first | (with_reducible first | exact HB.out | apply below_alloc | apply pw_below_drewN | apply below_drew1) | exact HB.out)))); have n1_ := Aside0.mk (below_step (by repeat (first | (with_reducible first | exact HB.out | apply below_alloc | apply pw_below_drewN | apply below_drew1) | exact HB.out)) hb); clear HB; have HO206 := n0_; have HB := n1_; clear n0_ n1_; (try clear hb); (try clear hb2); (try clear hk); (try clear hi); (try clear ho0)) | (go_at_call 13; (with_reducible refine (lexer_Lex.calls (a0.extract 0 ((ji13) : Int).toNat) t207 t208 t209 _ A16.out).mono ?_); rintro e w20 ⟨v210, rfl, ho0, hb⟩; have n0_ := Aside0.mk (Kd.R_elder' (by (with_reducible repeat (first | apply Kd.R_alloc | apply Kd.R_drewN | apply Kd.R_drew)); exact HO206.out) (Kd.R_base ho0) hb); have n1_ := Aside0.mk (Kd.R_lower (Kd.R_new' ho0 (Kd.R_lt (by (with_reducible repeat (first | apply Kd.R_alloc | apply Kd.R_drewN | apply Kd.R_drew)); exact HO206.out))) (below_size (by repeat (first | (with_reducible first | exact HB.out | apply below_alloc | apply pw_below_drewN | apply below_drew1) | exact HB.out)))); have n2_ := Aside0.mk (below_step (by repeat (first | (with_reducible first | exact HB.out | apply below_alloc | apply pw_below_drewN | apply below_drew1) | exact HB.out)) hb); clear HO206; clear HB; have HO206 := n0_; have HO211 := n1_; have HB := n2_; clear n0_ n1_ n2_; (try clear hb); (try clear hb2); (try clear hk); (try clear hi); (try clear ho0))))
                (try simp only [Act.put, List.setIfInBounds_toArray, List.set_cons_zero, List.set_cons_succ])
                go_cut [51] (fun v51 wc => ∃ (kq : Nat) (x51_17 : Bool), v51 = .bool x51_17 ∧ Aside0 (cylinderlaw35_LexerPrefix.j1 kq t202 ji13 t207 x51_17 = some r) ∧ Aside0 (kq ≤ kj2) ∧ Aside0 (Kd.R k30 30 wc w.heap.size (fun k_ => some k_ ≠ (v210 : Value).ownBlock) v205 t202) ∧ Aside0 (Kd.R k30 30 wc w.heap.size (fun k_ => some k_ ≠ (v205 : Value).ownBlock) v210 t207) ∧ Aside0 (Below w.heap.size w wc))
                case first =>
                  have H := HC18.out
                  clear HC18
                  by_cases c21 : t209 = 0
                  · rw [if_pos c21] at H
                    have c21b0 : (t209 == 0) = true := beq_iff_eq.mpr c21
                    have c21b1 : (t209 != 0) = false := bne_eq_false_iff_eq.mpr c21
                    clear c21
                    (first | rw [c21b0] | (simp only [i64_w, i32_w]; rw [c21b0]) | skip)
                    have H' := Aside0.mk H
                    clear H
                    obtain ⟨Ao22, co22, eo22⟩ := Kd.R_slice HO211.out
                    subst eo22
                    obtain ⟨Ao23, co23, eo23⟩ := Kd.R_slice HO206.out
                    subst eo23
                    go_wp2
                    repeat (go_quiet (fail); try go_wp2)
                    go_meet
                    case rel => exact ⟨_, (decide ((t207.length : Int) > (t202.length : Int))), (by first | rfl | (simp; done) | (simp [*]; done)), H', ⟨by have := HJ2.out; first | omega | exact Nat.le_refl _⟩, ⟨by (with_reducible repeat (first | apply Kd.R_alloc | apply Kd.R_drewN | apply Kd.R_drew)); exact Kd.R_mono HO206.out (fun _ hk => hk.2)⟩, ⟨by (with_reducible repeat (first | apply Kd.R_alloc | apply Kd.R_drewN | apply Kd.R_drew)); exact Kd.R_mono HO211.out (fun _ hk => hk.2)⟩, ⟨by repeat (first | (with_reducible first | exact HB.out | apply below_alloc | apply pw_below_drewN | apply below_drew1) | exact HB.out)⟩⟩
                  · rw [if_neg c21] at H
                    have c21b0 : (t209 == 0) = false := beq_eq_false_iff_ne.mpr c21
                    have c21b1 : (t209 != 0) = true := bne_iff_ne.mpr c21
                    (first | rw [c21b0] | (simp only [i64_w, i32_w]; rw [c21b0]) | skip)
                    have H' := Aside0.mk H
                    clear H
                    go_wp2
                    repeat (go_quiet (fail); try go_wp2)
                    go_meet
                    case rel => exact ⟨_, (true), (by first | rfl | (simp; done) | (simp [*]; done)), H', ⟨by have := HJ2.out; first | omega | exact Nat.le_refl _⟩, ⟨by (with_reducible repeat (first | apply Kd.R_alloc | apply Kd.R_drewN | apply Kd.R_drew)); exact Kd.R_mono HO206.out (fun _ hk => hk.2)⟩, ⟨by (with_reducible repeat (first | apply Kd.R_alloc | apply Kd.R_drewN | apply Kd.R_drew)); exact Kd.R_mono HO211.out (fun _ hk => hk.2)⟩, ⟨by repeat (first | (with_reducible first | exact HB.out | apply below_alloc | apply pw_below_drewN | apply below_drew1) | exact HB.out)⟩⟩
                case rest =>
                  clear HC18
                  try clear c1
                  try clear c2
                  try clear p2
                  try clear c5
                  try clear p6
                  try clear c7
                  try clear c8
                  try clear c12
                  try clear c12b0
                  try clear c12b1
                  try clear c14
                  try clear c14b0
                  try clear c14b1
                  try clear c15
                  try clear c15b0
                  try clear c15b1
                  try clear c17
                  try clear c17b0
                  try clear c17b1
                  try clear c21
                  try clear c21b0
                  try clear c21b1
                  try clear p2
                  obtain ⟨kq, x51_17, rfl, HA, HJ17, HO_5, HO_9, HB⟩ := hcut
                  cases kq with
                  | zero => exact absurd HA.out (by simp [cylinderlaw35_LexerPrefix.j1])
                  | succ kj17 =>
                    have H := HA.out
                    clear HA
                    simp only [cylinderlaw35_LexerPrefix.j1] at H
                    by_cases c24 : x51_17 = true
                    · subst c24
                      have H1 : (some false) = some r := by rw [if_pos rfl] at H; exact H
                      clear H
                      have H := H1
                      clear H1
                      obtain rfl := Option.some.inj H
                      go_wp2
                      repeat (go_quiet (fail); try go_wp2)
                      go_ret
                      exact ⟨by first | rfl | (simp [errW_none, errW_some] <;> rfl) | (simp only [← hji13]; first | rfl | (simp [errW_none, errW_some] <;> rfl)) | (simp [*, errW_none, errW_some] <;> rfl), by repeat (first | (with_reducible first | exact HB.out | apply below_alloc | apply pw_below_drewN | apply below_drew1) | exact HB.out)⟩
                    · replace c24 := Bool.eq_false_iff.mpr c24
                      subst c24
                      have H1 : (cylinderlaw35_LexerPrefix.l0 kj17 t202 ji13 t207 (t202.length : Int) 0) = some r := by rw [if_neg (show ¬ (false = true) by decide)] at H; exact H
                      clear H
                      have H := H1
                      clear H1
                      have H' := Aside0.mk H
                      clear H
                      obtain ⟨Ao25, co25, eo25⟩ := Kd.R_slice HO_5.out
                      subst eo25
                      go_wp2
                      repeat (go_quiet (fail); try go_wp2)
                      go_loopg [54] kj17 (fun kq v54 w' => ∃ (x54_3 : Int), v54 = .int .i64 x54_3 ∧ Aside0 (cylinderlaw35_LexerPrefix.l0 kq t202 ji13 t207 (t202.length : Int) x54_3 = some r) ∧ Aside0 (kq ≤ kj17) ∧ Aside0 (Kd.R k30 30 w' w.heap.size (fun k_ => some k_ ≠ (v210 : Value).ownBlock) (.slice Ao25 t202.length co25) t202) ∧ Aside0 (Kd.R k30 30 w' w.heap.size (fun k_ => some k_ ≠ ((.slice Ao25 t202.length co25) : Value).ownBlock) v210 t207) ∧ Aside0 (Below w.heap.size w w'))
                      case atStart => exact ⟨(0), (by first | rfl | (simp; done) | (simp [*]; done)), H', ⟨Nat.le_refl _⟩, ⟨by (with_reducible repeat (first | apply Kd.R_alloc | apply Kd.R_drewN | apply Kd.R_drew)); exact HO_5.out⟩, ⟨by (with_reducible repeat (first | apply Kd.R_alloc | apply Kd.R_drewN | apply Kd.R_drew)); exact HO_9.out⟩, ⟨by repeat (first | (with_reducible first | exact HB.out | apply below_alloc | apply pw_below_drewN | apply below_drew1) | exact HB.out)⟩⟩
                      case round =>
                        clear H'
                        try clear c1
                        try clear c2
                        try clear p2
                        try clear c5
                        try clear p6
                        try clear c7
                        try clear c8
                        try clear c12
                        try clear c12b0
                        try clear c12b1
                        try clear c14
                        try clear c14b0
                        try clear c14b1
                        try clear c15
                        try clear c15b0
                        try clear c15b1
                        try clear c17
                        try clear c17b0
                        try clear c17b1
                        try clear c21
                        try clear c21b0
                        try clear c21b1
                        try clear c24
                        try clear p2
                        try clear p6
                        obtain ⟨x54_3, rfl, HA, HK3, HO_5, HO_9, HB⟩ := hrel
                        cases gk with
                        | zero => exact absurd HA.out (by simp [cylinderlaw35_LexerPrefix.l0])
                        | succ k3 =>
                          have H := HA.out
                          clear HA
                          simp only [cylinderlaw35_LexerPrefix.l0] at H
                          by_cases c26 : x54_3 < (t202.length : Int)
                          · rw [if_pos c26] at H
                            have c26b0 : decide (x54_3 < (t202.length : Int)) = true := decide_eq_true c26
                            clear c26
                            have HC27 := Aside0.mk H
                            clear H
                            go_upto_region 13 with (fail)
                            repeat (go_quiet (fail); go_upto_region 13 with (fail))
                            go_cut [102] (fun v102 wc => ∃ (kq : Nat) (x102_26 : Bool), v102 = .bool x102_26 ∧ Aside0 (cylinderlaw35_LexerPrefix.j3 kq t202 ji13 t207 x54_3 (t202.length : Int) x54_3 x102_26 = some r) ∧ Aside0 (kq ≤ k3) ∧ Aside0 (Kd.R k30 30 wc w.heap.size (fun k_ => some k_ ≠ (v210 : Value).ownBlock) (.slice Ao25 t202.length co25) t202) ∧ Aside0 (Kd.R k30 30 wc w.heap.size (fun k_ => some k_ ≠ ((.slice Ao25 t202.length co25) : Value).ownBlock) v210 t207) ∧ Aside0 (Below w.heap.size w wc))
                            case first =>
                              have H := HC27.out
                              clear HC27
                              by_cases c28 : 0 ≤ x54_3
                              · rw [if_pos c28] at H
                                have c28b0 : decide (0 ≤ x54_3) = true := decide_eq_true c28
                                clear c28
                                (first | rw [c28b0] | (simp only [i64_w, i32_w]; rw [c28b0]) | skip)
                                by_cases c29 : x54_3 < (t202.length : Int)
                                · rw [if_pos c29] at H
                                  have c29b0 : decide (x54_3 < (t202.length : Int)) = true := decide_eq_true c29
                                  clear c29
                                  by_cases c30 : (wrap64 (((rd_T30 t202 x54_3).f2) + (((rd_T30 t202 x54_3).f1).size : Int))) ≤ ji13
                                  · rw [if_pos c30] at H
                                    have c30b0 : decide ((wrap64 (((rd_T30 t202 x54_3).f2) + (((rd_T30 t202 x54_3).f1).size : Int))) ≤ ji13) = true := decide_eq_true c30
                                    clear c30
                                    by_cases c31 : x54_3 ≥ (t207.length : Int)
                                    · rw [if_pos c31] at H
                                      have c31b0 : decide ((t207.length : Int) ≤ x54_3) = true := decide_eq_true c31
                                      clear c31
                                      have H' := Aside0.mk H
                                      clear H
                                      have p212 : 0 ≤ (x54_3 : Int) := of_decide_eq_true (by first | (with_reducible assumption) | assumption)
                                      have q212 : x54_3 < (t202.length : Int) := of_decide_eq_true (by first | (with_reducible assumption) | assumption)
                                      obtain ⟨ad212, e212, hx212_0, hx212_1, hx212_2⟩ := at_T30 (Kd.R_reads' HO_5.out).2.2 x54_3 p212 q212
                                      cases e212
                                      replace p212 := eq_true p212
                                      replace q212 := eq_true q212
                                      have p213 : 0 ≤ (x54_3 : Int) := of_decide_eq_true (by first | (with_reducible assumption) | assumption)
                                      have q213 : x54_3 < (t202.length : Int) := of_decide_eq_true (by first | (with_reducible assumption) | assumption)
                                      obtain ⟨ad213, e213, hx213_0, hx213_1, hx213_2⟩ := at_T30 (Kd.R_reads' HO_5.out).2.2 x54_3 p213 q213
                                      obtain rfl : ad212 = ad213 := (by injection e213)
                                      replace p213 := eq_true p213
                                      replace q213 := eq_true q213
                                      obtain ⟨Ao32, co32, eo32⟩ := Kd.R_slice HO_9.out
                                      subst eo32
                                      go_wp2
                                      repeat (go_quiet (fail); try go_wp2)
                                      go_meet
                                      case rel => exact ⟨_, (true), (by first | rfl | (simp; done) | (simp [*]; done)), H', ⟨by have := HJ2.out; have := HJ17.out; have := HK3.out; first | omega | exact Nat.le_refl _⟩, ⟨by (with_reducible repeat (first | apply Kd.R_alloc | apply Kd.R_drewN | apply Kd.R_drew)); exact HO_5.out⟩, ⟨by (with_reducible repeat (first | apply Kd.R_alloc | apply Kd.R_drewN | apply Kd.R_drew)); exact HO_9.out⟩, ⟨by repeat (first | (with_reducible first | exact HB.out | apply below_alloc | apply pw_below_drewN | apply below_drew1) | exact HB.out)⟩⟩
                                    · rw [if_neg c31] at H
                                      have c31b0 : decide ((t207.length : Int) ≤ x54_3) = false := decide_eq_false c31
                                      clear c31
                                      by_cases c33 : x54_3 < (t207.length : Int)
                                      · rw [if_pos c33] at H
                                        have c33b0 : decide (x54_3 < (t207.length : Int)) = true := decide_eq_true c33
                                        clear c33
                                        by_cases c34 : ((rd_T30 t207 x54_3).f2) = ((rd_T30 t202 x54_3).f2)
                                        · rw [if_pos c34] at H
                                          have c34b0 : (((rd_T30 t207 x54_3).f2) == ((rd_T30 t202 x54_3).f2)) = true := beq_iff_eq.mpr c34
                                          have c34b1 : (((rd_T30 t207 x54_3).f2) != ((rd_T30 t202 x54_3).f2)) = false := bne_eq_false_iff_eq.mpr c34
                                          clear c34
                                          have H' := Aside0.mk H
                                          clear H
                                          have p212 : 0 ≤ (x54_3 : Int) := of_decide_eq_true (by first | (with_reducible assumption) | assumption)
                                          have q212 : x54_3 < (t202.length : Int) := of_decide_eq_true (by first | (with_reducible assumption) | assumption)
                                          obtain ⟨ad212, e212, hx212_0, hx212_1, hx212_2⟩ := at_T30 (Kd.R_reads' HO_5.out).2.2 x54_3 p212 q212
                                          cases e212
                                          replace p212 := eq_true p212
                                          replace q212 := eq_true q212
                                          have p213 : 0 ≤ (x54_3 : Int) := of_decide_eq_true (by first | (with_reducible assumption) | assumption)
                                          have q213 : x54_3 < (t202.length : Int) := of_decide_eq_true (by first | (with_reducible assumption) | assumption)
                                          obtain ⟨ad213, e213, hx213_0, hx213_1, hx213_2⟩ := at_T30 (Kd.R_reads' HO_5.out).2.2 x54_3 p213 q213
                                          obtain rfl : ad212 = ad213 := (by injection e213)
                                          replace p213 := eq_true p213
                                          replace q213 := eq_true q213
                                          obtain ⟨Ao35, co35, eo35⟩ := Kd.R_slice HO_9.out
                                          subst eo35
                                          have p214 : 0 ≤ (x54_3 : Int) := of_decide_eq_true (by first | (with_reducible assumption) | assumption)
                                          have q214 : x54_3 < (t207.length : Int) := of_decide_eq_true (by first | (with_reducible assumption) | assumption)
                                          obtain ⟨ad214, e214, hx214_0, hx214_1, hx214_2⟩ := at_T30 (Kd.R_reads' HO_9.out).2.2 x54_3 p214 q214
                                          cases e214
                                          replace p214 := eq_true p214
                                          replace q214 := eq_true q214
                                          have p215 : 0 ≤ (x54_3 : Int) := of_decide_eq_true (by first | (with_reducible assumption) | assumption)
                                          have q215 : x54_3 < (t202.length : Int) := of_decide_eq_true (by first | (with_reducible assumption) | assumption)
                                          obtain ⟨ad215, e215, hx215_0, hx215_1, hx215_2⟩ := at_T30 (Kd.R_reads' HO_5.out).2.2 x54_3 p215 q215
                                          obtain rfl : ad212 = ad215 := (by injection e215)
                                          replace p215 := eq_true p215
                                          replace q215 := eq_true q215
                                          have p216 : 0 ≤ (x54_3 : Int) := of_decide_eq_true (by first | (with_reducible assumption) | assumption)
                                          have q216 : x54_3 < (t207.length : Int) := of_decide_eq_true (by first | (with_reducible assumption) | assumption)
                                          obtain ⟨ad216, e216, hx216_0, hx216_1, hx216_2⟩ := at_T30 (Kd.R_reads' HO_9.out).2.2 x54_3 p216 q216
                                          obtain rfl : ad214 = ad216 := (by injection e216)
                                          replace p216 := eq_true p216
                                          replace q216 := eq_true q216
                                          have p217 : 0 ≤ (x54_3 : Int) := of_decide_eq_true (by first | (with_reducible assumption) | assumption)
                                          have q217 : x54_3 < (t202.length : Int) := of_decide_eq_true (by first | (with_reducible assumption) | assumption)
                                          obtain ⟨ad217, e217, hx217_0, hx217_1, hx217_2⟩ := at_T30 (Kd.R_reads' HO_5.out).2.2 x54_3 p217 q217
                                          obtain rfl : ad212 = ad217 := (by injection e217)
                                          replace p217 := eq_true p217
                                          replace q217 := eq_true q217
                                          go_wp2
                                          repeat (go_quiet (fail); try go_wp2)
                                          go_meet
                                          case rel => exact ⟨_, ((((rd_T30 t207 x54_3).f1).toList != ((rd_T30 t202 x54_3).f1).toList)), (by first | rfl | (simp; done) | (simp [*]; done)), H', ⟨by have := HJ2.out; have := HJ17.out; have := HK3.out; first | omega | exact Nat.le_refl _⟩, ⟨by (with_reducible repeat (first | apply Kd.R_alloc | apply Kd.R_drewN | apply Kd.R_drew)); exact HO_5.out⟩, ⟨by (with_reducible repeat (first | apply Kd.R_alloc | apply Kd.R_drewN | apply Kd.R_drew)); exact HO_9.out⟩, ⟨by repeat (first | (with_reducible first | exact HB.out | apply below_alloc | apply pw_below_drewN | apply below_drew1) | exact HB.out)⟩⟩
                                        · rw [if_neg c34] at H
                                          have c34b0 : (((rd_T30 t207 x54_3).f2) == ((rd_T30 t202 x54_3).f2)) = false := beq_eq_false_iff_ne.mpr c34
                                          have c34b1 : (((rd_T30 t207 x54_3).f2) != ((rd_T30 t202 x54_3).f2)) = true := bne_iff_ne.mpr c34
                                          have H' := Aside0.mk H
                                          clear H
                                          have p212 : 0 ≤ (x54_3 : Int) := of_decide_eq_true (by first | (with_reducible assumption) | assumption)
                                          have q212 : x54_3 < (t202.length : Int) := of_decide_eq_true (by first | (with_reducible assumption) | assumption)
                                          obtain ⟨ad212, e212, hx212_0, hx212_1, hx212_2⟩ := at_T30 (Kd.R_reads' HO_5.out).2.2 x54_3 p212 q212
                                          cases e212
                                          replace p212 := eq_true p212
                                          replace q212 := eq_true q212
                                          have p213 : 0 ≤ (x54_3 : Int) := of_decide_eq_true (by first | (with_reducible assumption) | assumption)
                                          have q213 : x54_3 < (t202.length : Int) := of_decide_eq_true (by first | (with_reducible assumption) | assumption)
                                          obtain ⟨ad213, e213, hx213_0, hx213_1, hx213_2⟩ := at_T30 (Kd.R_reads' HO_5.out).2.2 x54_3 p213 q213
                                          obtain rfl : ad212 = ad213 := (by injection e213)
                                          replace p213 := eq_true p213
                                          replace q213 := eq_true q213
                                          obtain ⟨Ao36, co36, eo36⟩ := Kd.R_slice HO_9.out
                                          subst eo36
                                          have p214 : 0 ≤ (x54_3 : Int) := of_decide_eq_true (by first | (with_reducible assumption) | assumption)
                                          have q214 : x54_3 < (t207.length : Int) := of_decide_eq_true (by first | (with_reducible assumption) | assumption)
                                          obtain ⟨ad214, e214, hx214_0, hx214_1, hx214_2⟩ := at_T30 (Kd.R_reads' HO_9.out).2.2 x54_3 p214 q214
                                          cases e214
                                          replace p214 := eq_true p214
                                          replace q214 := eq_true q214
                                          have p215 : 0 ≤ (x54_3 : Int) := of_decide_eq_true (by first | (with_reducible assumption) | assumption)
                                          have q215 : x54_3 < (t202.length : Int) := of_decide_eq_true (by first | (with_reducible assumption) | assumption)
                                          obtain ⟨ad215, e215, hx215_0, hx215_1, hx215_2⟩ := at_T30 (Kd.R_reads' HO_5.out).2.2 x54_3 p215 q215
                                          obtain rfl : ad212 = ad215 := (by injection e215)
                                          replace p215 := eq_true p215
                                          replace q215 := eq_true q215
                                          go_wp2
                                          repeat (go_quiet (fail); try go_wp2)
                                          go_meet
                                          case rel => exact ⟨_, (true), (by first | rfl | (simp; done) | (simp [*]; done)), H', ⟨by have := HJ2.out; have := HJ17.out; have := HK3.out; first | omega | exact Nat.le_refl _⟩, ⟨by (with_reducible repeat (first | apply Kd.R_alloc | apply Kd.R_drewN | apply Kd.R_drew)); exact HO_5.out⟩, ⟨by (with_reducible repeat (first | apply Kd.R_alloc | apply Kd.R_drewN | apply Kd.R_drew)); exact HO_9.out⟩, ⟨by repeat (first | (with_reducible first | exact HB.out | apply below_alloc | apply pw_below_drewN | apply below_drew1) | exact HB.out)⟩⟩
                                      · rw [if_neg c33] at H
                                        exact absurd H (by simp)
                                  · rw [if_neg c30] at H
                                    have c30b0 : decide ((wrap64 (((rd_T30 t202 x54_3).f2) + (((rd_T30 t202 x54_3).f1).size : Int))) ≤ ji13) = false := decide_eq_false c30
                                    clear c30
                                    have H' := Aside0.mk H
                                    clear H
                                    have p212 : 0 ≤ (x54_3 : Int) := of_decide_eq_true (by first | (with_reducible assumption) | assumption)
                                    have q212 : x54_3 < (t202.length : Int) := of_decide_eq_true (by first | (with_reducible assumption) | assumption)
                                    obtain ⟨ad212, e212, hx212_0, hx212_1, hx212_2⟩ := at_T30 (Kd.R_reads' HO_5.out).2.2 x54_3 p212 q212
                                    cases e212
                                    replace p212 := eq_true p212
                                    replace q212 := eq_true q212
                                    have p213 : 0 ≤ (x54_3 : Int) := of_decide_eq_true (by first | (with_reducible assumption) | assumption)
                                    have q213 : x54_3 < (t202.length : Int) := of_decide_eq_true (by first | (with_reducible assumption) | assumption)
                                    obtain ⟨ad213, e213, hx213_0, hx213_1, hx213_2⟩ := at_T30 (Kd.R_reads' HO_5.out).2.2 x54_3 p213 q213
                                    obtain rfl : ad212 = ad213 := (by injection e213)
                                    replace p213 := eq_true p213
                                    replace q213 := eq_true q213
                                    go_wp2
                                    repeat (go_quiet (fail); try go_wp2)
                                    go_meet
                                    case rel => exact ⟨_, (false), (by first | rfl | (simp; done) | (simp [*]; done)), H', ⟨by have := HJ2.out; have := HJ17.out; have := HK3.out; first | omega | exact Nat.le_refl _⟩, ⟨by (with_reducible repeat (first | apply Kd.R_alloc | apply Kd.R_drewN | apply Kd.R_drew)); exact HO_5.out⟩, ⟨by (with_reducible repeat (first | apply Kd.R_alloc | apply Kd.R_drewN | apply Kd.R_drew)); exact HO_9.out⟩, ⟨by repeat (first | (with_reducible first | exact HB.out | apply below_alloc | apply pw_below_drewN | apply below_drew1) | exact HB.out)⟩⟩
                                · rw [if_neg c29] at H
                                  exact absurd H (by simp)
                              · rw [if_neg c28] at H
                                exact absurd H (by simp)
                            case rest =>
                              clear HC27
                              try clear c1
                              try clear c2
                              try clear p2
                              try clear q2
                              try clear hx2
                              try clear c3
                              try clear c5
                              try clear p6
                              try clear c7
                              try clear c8
                              try clear c12
                              try clear c12b0
                              try clear c12b1
                              try clear c14
                              try clear c14b0
                              try clear c14b1
                              try clear c15
                              try clear c15b0
                              try clear c15b1
                              try clear c17
                              try clear c17b0
                              try clear c17b1
                              try clear c21
                              try clear c21b0
                              try clear c21b1
                              try clear p21
                              try clear q21
                              try clear hx21
                              try clear c24
                              try clear c26
                              try clear c26b0
                              try clear c28
                              try clear c28b0
                              try clear c29
                              try clear c29b0
                              try clear c30
                              try clear c30b0
                              try clear c31
                              try clear c31b0
                              try clear c33
                              try clear c33b0
                              try clear c34
                              try clear c34b0
                              try clear c34b1
                              try clear hx212_0
                              try clear hx212_1
                              try clear hx212_2
                              try clear hx213_0
                              try clear hx213_1
                              try clear hx213_2
                              try clear hx214_0
                              try clear hx214_1
                              try clear hx214_2
                              try clear hx215_0
                              try clear hx215_1
                              try clear hx215_2
                              try clear hx216_0
                              try clear hx216_1
                              try clear hx216_2
                              try clear hx217_0
                              try clear hx217_1
                              try clear hx217_2
                              try clear p2
                              try clear p212
                              try clear p213
                              try clear p214
                              try clear p215
                              try clear p216
                              try clear p217
                              try clear p6
                              try clear q212
                              try clear q213
                              try clear q214
                              try clear q215
                              try clear q216
                              try clear q217
                              obtain ⟨kq, x102_26, rfl, HA, HJ26, HO_5, HO_9, HB⟩ := hcut
                              cases kq with
                              | zero => exact absurd HA.out (by simp [cylinderlaw35_LexerPrefix.j3])
                              | succ kj26 =>
                                have H := HA.out
                                clear HA
                                simp only [cylinderlaw35_LexerPrefix.j3] at H
                                by_cases c37 : x102_26 = true
                                · subst c37
                                  have H1 : (some false) = some r := by rw [if_pos rfl] at H; exact H
                                  clear H
                                  have H := H1
                                  clear H1
                                  obtain rfl := Option.some.inj H
                                  go_wp2
                                  repeat (go_quiet (fail); try go_wp2)
                                  go_ret
                                  exact ⟨by first | rfl | (simp [errW_none, errW_some] <;> rfl) | (simp only [← hji13]; first | rfl | (simp [errW_none, errW_some] <;> rfl)) | (simp [*, errW_none, errW_some] <;> rfl), by repeat (first | (with_reducible first | exact HB.out | apply below_alloc | apply pw_below_drewN | apply below_drew1) | exact HB.out)⟩
                                · replace c37 := Bool.eq_false_iff.mpr c37
                                  subst c37
                                  have H1 : (if 0 ≤ x54_3 then (if x54_3 < (t202.length : Int) then (if ((rd_T30 t202 x54_3).f2) ≥ ji13 then (if x54_3 < (t207.length : Int) then (some false) else (cylinderlaw35_LexerPrefix.l0 kj26 t202 ji13 t207 (t202.length : Int) (wrap64 (x54_3 + 1)))) else (cylinderlaw35_LexerPrefix.l0 kj26 t202 ji13 t207 (t202.length : Int) (wrap64 (x54_3 + 1)))) else (none)) else (none)) = some r := by rw [if_neg (show ¬ (false = true) by decide)] at H; exact H
                                  clear H
                                  have H := H1
                                  clear H1
                                  by_cases c38 : 0 ≤ x54_3
                                  · rw [if_pos c38] at H
                                    have c38b0 : decide (0 ≤ x54_3) = true := decide_eq_true c38
                                    clear c38
                                    by_cases c39 : x54_3 < (t202.length : Int)
                                    · rw [if_pos c39] at H
                                      have c39b0 : decide (x54_3 < (t202.length : Int)) = true := decide_eq_true c39
                                      clear c39
                                      by_cases c40 : ((rd_T30 t202 x54_3).f2) ≥ ji13
                                      · rw [if_pos c40] at H
                                        have c40b0 : decide (ji13 ≤ ((rd_T30 t202 x54_3).f2)) = true := decide_eq_true c40
                                        clear c40
                                        by_cases c41 : x54_3 < (t207.length : Int)
                                        · rw [if_pos c41] at H
                                          have c41b0 : decide (x54_3 < (t207.length : Int)) = true := decide_eq_true c41
                                          clear c41
                                          obtain rfl := Option.some.inj H
                                          have p218 : 0 ≤ (x54_3 : Int) := of_decide_eq_true (by first | (with_reducible assumption) | assumption)
                                          have q218 : x54_3 < (t202.length : Int) := of_decide_eq_true (by first | (with_reducible assumption) | assumption)
                                          obtain ⟨ad218, e218, hx218_0, hx218_1, hx218_2⟩ := at_T30 (Kd.R_reads' HO_5.out).2.2 x54_3 p218 q218
                                          cases e218
                                          replace p218 := eq_true p218
                                          replace q218 := eq_true q218
                                          obtain ⟨Ao42, co42, eo42⟩ := Kd.R_slice HO_9.out
                                          subst eo42
                                          go_wp2
                                          repeat (go_quiet (fail); try go_wp2)
                                          go_ret
                                          exact ⟨by first | rfl | (simp [errW_none, errW_some] <;> rfl) | (simp only [← hji13]; first | rfl | (simp [errW_none, errW_some] <;> rfl)) | (simp [*, errW_none, errW_some] <;> rfl), by repeat (first | (with_reducible first | exact HB.out | apply below_alloc | apply pw_below_drewN | apply below_drew1) | exact HB.out)⟩
                                        · rw [if_neg c41] at H
                                          have c41b0 : decide (x54_3 < (t207.length : Int)) = false := decide_eq_false c41
                                          clear c41
                                          have H' := Aside0.mk H
                                          clear H
                                          have p218 : 0 ≤ (x54_3 : Int) := of_decide_eq_true (by first | (with_reducible assumption) | assumption)
                                          have q218 : x54_3 < (t202.length : Int) := of_decide_eq_true (by first | (with_reducible assumption) | assumption)
                                          obtain ⟨ad218, e218, hx218_0, hx218_1, hx218_2⟩ := at_T30 (Kd.R_reads' HO_5.out).2.2 x54_3 p218 q218
                                          cases e218
                                          replace p218 := eq_true p218
                                          replace q218 := eq_true q218
                                          obtain ⟨Ao43, co43, eo43⟩ := Kd.R_slice HO_9.out
                                          subst eo43
                                          go_wp2
                                          repeat (go_quiet (fail); try go_wp2)
                                          go_roundg kj26
                                          case measure => have := HJ2.out; have := HJ17.out; have := HK3.out; have := HJ26.out; omega
                                          case rel => exact ⟨(wrap64 (x54_3 + 1)), (by first | rfl | (simp; done) | (simp [*]; done)), H', ⟨by have := HJ2.out; have := HJ17.out; have := HK3.out; have := HJ26.out; omega⟩, ⟨by (with_reducible repeat (first | apply Kd.R_alloc | apply Kd.R_drewN | apply Kd.R_drew)); exact HO_5.out⟩, ⟨by (with_reducible repeat (first | apply Kd.R_alloc | apply Kd.R_drewN | apply Kd.R_drew)); exact HO_9.out⟩, ⟨by repeat (first | (with_reducible first | exact HB.out | apply below_alloc | apply pw_below_drewN | apply below_drew1) | exact HB.out)⟩⟩
                                      · rw [if_neg c40] at H
                                        have c40b0 : decide (ji13 ≤ ((rd_T30 t202 x54_3).f2)) = false := decide_eq_false c40
                                        clear c40
                                        have H' := Aside0.mk H
                                        clear H
                                        have p218 : 0 ≤ (x54_3 : Int) := of_decide_eq_true (by first | (with_reducible assumption) | assumption)
                                        have q218 : x54_3 < (t202.length : Int) := of_decide_eq_true (by first | (with_reducible assumption) | assumption)
                                        obtain ⟨ad218, e218, hx218_0, hx218_1, hx218_2⟩ := at_T30 (Kd.R_reads' HO_5.out).2.2 x54_3 p218 q218
                                        cases e218
                                        replace p218 := eq_true p218
                                        replace q218 := eq_true q218
                                        go_wp2
                                        repeat (go_quiet (fail); try go_wp2)
                                        go_roundg kj26
                                        case measure => have := HJ2.out; have := HJ17.out; have := HK3.out; have := HJ26.out; omega
                                        case rel => exact ⟨(wrap64 (x54_3 + 1)), (by first | rfl | (simp; done) | (simp [*]; done)), H', ⟨by have := HJ2.out; have := HJ17.out; have := HK3.out; have := HJ26.out; omega⟩, ⟨by (with_reducible repeat (first | apply Kd.R_alloc | apply Kd.R_drewN | apply Kd.R_drew)); exact HO_5.out⟩, ⟨by (with_reducible repeat (first | apply Kd.R_alloc | apply Kd.R_drewN | apply Kd.R_drew)); exact HO_9.out⟩, ⟨by repeat (first | (with_reducible first | exact HB.out | apply below_alloc | apply pw_below_drewN | apply below_drew1) | exact HB.out)⟩⟩
                                    · rw [if_neg c39] at H
                                      exact absurd H (by simp)
                                  · rw [if_neg c38] at H
                                    exact absurd H (by simp)
                          · rw [if_neg c26] at H
                            have c26b0 : decide (x54_3 < (t202.length : Int)) = false := decide_eq_false c26
                            clear c26
                            obtain rfl := Option.some.inj H
                            go_wp2
                            repeat (go_quiet (fail); try go_wp2)
                            go_ret
                            exact ⟨by first | rfl | (simp [errW_none, errW_some] <;> rfl) | (simp only [← hji13]; first | rfl | (simp [errW_none, errW_some] <;> rfl)) | (simp [*, errW_none, errW_some] <;> rfl), by repeat (first | (with_reducible first | exact HB.out | apply below_alloc | apply pw_below_drewN | apply below_drew1) | exact HB.out)⟩
              · rw [if_neg c17] at H
                have c17b0 : (t204 == 0) = false := beq_eq_false_iff_ne.mpr c17
                have c17b1 : (t204 != 0) = true := bne_iff_ne.mpr c17
                obtain rfl := Option.some.inj H
                go_wp2_with (first | (go_at_call 13; (with_reducible refine (lexer_Lex.calls a0 t202 t203 t204 _ A11.out).mono ?_); rintro e w44 ⟨v205, rfl, ho0, hb⟩; have n0_ := Aside0.mk (Kd.R_lower ho0 (below_size (by repeat (first | (with_reducible first | exact HB.out | apply below_alloc | apply pw_below_drewN | apply below_drew1) | exact HB.out)))); have n1_ := Aside0.mk (below_step (by repeat (first | (with_reducible first | exact HB.out | apply below_alloc | apply pw_below_drewN | apply below_drew1) | exact HB.out)) hb); clear HB; have HO206 := n0_; have HB := n1_; clear n0_ n1_; (try clear hb); (try clear hb2); (try clear hk); (try clear hi); (try clear ho0)) | (go_at_call 13; (with_reducible refine (lexer_Lex.calls (a0.extract 0 ((ji13) : Int).toNat) t207 t208 t209 _ A16.out).mono ?_); rintro e w45 ⟨v210, rfl, ho0, hb⟩; have n0_ := Aside0.mk (Kd.R_elder' (by (with_reducible repeat (first | apply Kd.R_alloc | apply Kd.R_drewN | apply Kd.R_drew)); exact HO206.out) (Kd.R_base ho0) hb); have n1_ := Aside0.mk (Kd.R_lower (Kd.R_new' ho0 (Kd.R_lt (by (with_reducible repeat (first | apply Kd.R_alloc | apply Kd.R_drewN | apply Kd.R_drew)); exact HO206.out))) (below_size (by repeat (first | (with_reducible first | exact HB.out | apply below_alloc | apply pw_below_drewN | apply below_drew1) | exact HB.out)))); have n2_ := Aside0.mk (below_step (by repeat (first | (with_reducible first | exact HB.out | apply below_alloc | apply pw_below_drewN | apply below_drew1) | exact HB.out)) hb); clear HO206; clear HB; have HO206 := n0_; have HO211 := n1_; have HB := n2_; clear n0_ n1_ n2_; (try clear hb); (try clear hb2); (try clear hk); (try clear hi); (try clear ho0)))
                repeat (go_quiet (first | (go_at_call 13; (with_reducible refine (lexer_Lex.calls a0 t202 t203 t204 _ A11.out).mono ?_); rintro e w44 ⟨v205, rfl, ho0, hb⟩; have n0_ := Aside0.mk (Kd.R_lower ho0 (below_size (by repeat (first | (with_reducible first | exact HB.out | apply below_alloc | apply pw_below_drewN | apply below_drew1) | exact HB.out)))); have n1_ := Aside0.mk (below_step (by repeat (first | (with_reducible first | exact HB.out | apply below_alloc | apply pw_below_drewN | apply below_drew1) | exact HB.out)) hb); clear HB; have HO206 := n0_; have HB := n1_; clear n0_ n1_; (try clear hb); (try clear hb2); (try clear hk); (try clear hi); (try clear ho0)) | (go_at_call 13; (with_reducible refine (lexer_Lex.calls (a0.extract 0 ((ji13) : Int).toNat) t207 t208 t209 _ A16.out).mono ?_); rintro e w45 ⟨v210, rfl, ho0, hb⟩; have n0_ := Aside0.mk (Kd.R_elder' (by (with_reducible repeat (first | apply Kd.R_alloc | apply Kd.R_drewN | apply Kd.R_drew)); exact HO206.out) (Kd.R_base ho0) hb); have n1_ := Aside0.mk (Kd.R_lower (Kd.R_new' ho0 (Kd.R_lt (by (with_reducible repeat (first | apply Kd.R_alloc | apply Kd.R_drewN | apply Kd.R_drew)); exact HO206.out))) (below_size (by repeat (first | (with_reducible first | exact HB.out | apply below_alloc | apply pw_below_drewN | apply below_drew1) | exact HB.out)))); have n2_ := Aside0.mk (below_step (by repeat (first | (with_reducible first | exact HB.out | apply below_alloc | apply pw_below_drewN | apply below_drew1) | exact HB.out)) hb); clear HO206; clear HB; have HO206 := n0_; have HO211 := n1_; have HB := n2_; clear n0_ n1_ n2_; (try clear hb); (try clear hb2); (try clear hk); (try clear hi); (try clear ho0))); try go_wp2_with (first | (go_at_call 13; (with_reducible refine (lexer_Lex.calls a0 t202 t203 t204 _ A11.out).mono ?_); rintro e w44 ⟨v205, rfl, ho0, hb⟩; have n0_ := Aside0.mk (Kd.R_lower ho0 (below_size (by repeat (first | (with_reducible first | exact HB.out | apply below_alloc | apply pw_below_drewN | apply below_drew1) | exact HB.out)))); have n1_ := Aside0.mk (below_step (by repeat (first | (with_reducible first | exact HB.out | apply below_alloc | apply pw_below_drewN | apply below_drew1) | exact HB.out)) hb); clear HB; have HO206 := n0_; have HB := n1_; clear n0_ n1_; (try clear hb); (try clear hb2); (try clear hk); (try clear hi); (try clear ho0)) | (go_at_call 13; (with_reducible refine (lexer_Lex.calls (a0.extract 0 ((ji13) : Int).toNat) t207 t208 t209 _ A16.out).mono ?_); rintro e w45 ⟨v210, rfl, ho0, hb⟩; have n0_ := Aside0.mk (Kd.R_elder' (by (with_reducible repeat (first | apply Kd.R_alloc | apply Kd.R_drewN | apply Kd.R_drew)); exact HO206.out) (Kd.R_base ho0) hb); have n1_ := Aside0.mk (Kd.R_lower (Kd.R_new' ho0 (Kd.R_lt (by (with_reducible repeat (first | apply Kd.R_alloc | apply Kd.R_drewN | apply Kd.R_drew)); exact HO206.out))) (below_size (by repeat (first | (with_reducible first | exact HB.out | apply below_alloc | apply pw_below_drewN | apply below_drew1) | exact HB.out)))); have n2_ := Aside0.mk (below_step (by repeat (first | (with_reducible first | exact HB.out | apply below_alloc | apply pw_below_drewN | apply below_drew1) | exact HB.out)) hb); clear HO206; clear HB; have HO206 := n0_; have HO211 := n1_; have HB := n2_; clear n0_ n1_ n2_; (try clear hb); (try clear hb2); (try clear hk); (try clear hi); (try clear ho0))))
                go_ret
                exact ⟨by first | rfl | (simp [errW_none, errW_some] <;> rfl) | (simp only [← hji13]; first | rfl | (simp [errW_none, errW_some] <;> rfl)) | (simp [*, errW_none, errW_some] <;> rfl), by repeat (first | (with_reducible first | exact HB.out | apply below_alloc | apply pw_below_drewN | apply below_drew1) | exact HB.out)⟩
            · rw [if_neg c15] at H
              exact absurd H (by simp)
          · rw [if_neg c14] at H
            exact absurd H (by simp)

/-- THE ONE PURE STATEMENT of cylinderlaw35_LexerPrefix: yours. -/
def cylinderlaw35_LexerPrefix.Pure : Prop := ∀ (a0 : ByteArray) (a1 : Int), a0.size ≤ 140737488351232 → (Lit.int .u16 a1).wf = true → ∃ k, cylinderlaw35_LexerPrefix.f k a0 a1 = some true
theorem cylinderlaw35_LexerPrefix.walk (P : cylinderlaw35_LexerPrefix.Pure) (a0 : ByteArray) (a1 : Int) (w : World) (w0 : a0.size ≤ 140737488351232) (w1 : (Lit.int .u16 a1).wf = true) :
    Calls Try.prog 7 #[.string a0, .int .u16 a1] w fun e w' => e = .returned (.bool true) ∧ Below w.heap.size w w' := by
  obtain ⟨k, h⟩ := P a0 a1 w0 w1
  refine (cylinderlaw35_LexerPrefix.calls k a0 a1 true w h).mono ?_
  rintro e w' ⟨rfl, hd⟩
  exact ⟨rfl, hd⟩

/-! ### formula_letter: function 30 -/
def formula_letter.f (a0 : Int) : Option (Bool) := if a0 ≥ 97 then (if a0 ≤ 122 then (some true) else (if a0 ≥ 65 then (if a0 ≤ 90 then (some true) else (some (a0 == 95))) else (some (a0 == 95)))) else (if a0 ≥ 65 then (if a0 ≤ 90 then (some true) else (some (a0 == 95))) else (some (a0 == 95)))
set_option maxHeartbeats 8000000 in
set_option maxRecDepth 100000 in
theorem formula_letter.calls (a0 : Int) (r : Bool) (w : World) (h : formula_letter.f a0 = some r) :
    Calls Try.prog 30 #[.int .u8 a0] w fun e w' => e = .returned (.bool r) ∧ Drawn0 w w' := by
  have H : (if a0 ≥ 97 then (if a0 ≤ 122 then (some true) else (if a0 ≥ 65 then (if a0 ≤ 90 then (some true) else (some (a0 == 95))) else (some (a0 == 95)))) else (if a0 ≥ 65 then (if a0 ≤ 90 then (some true) else (some (a0 == 95))) else (some (a0 == 95)))) = some r := h
  clear h
  by_cases c2 : a0 ≥ 97
  · rw [if_pos c2] at H
    have c2b0 : decide (97 ≤ a0) = true := decide_eq_true c2
    clear c2
    by_cases c3 : a0 ≤ 122
    · rw [if_pos c3] at H
      have c3b0 : decide (a0 ≤ 122) = true := decide_eq_true c3
      clear c3
      obtain rfl := Option.some.inj H
      go_enter Try.func30, Try.ntmps30
      go_wp2
      go_ret
      exact ⟨by first | rfl | (simp; done) | (simp [*]; done), by repeat (first | exact Drawn0.refl _ | apply Drawn0.step)⟩
    · rw [if_neg c3] at H
      have c3b0 : decide (a0 ≤ 122) = false := decide_eq_false c3
      clear c3
      by_cases c4 : a0 ≥ 65
      · rw [if_pos c4] at H
        have c4b0 : decide (65 ≤ a0) = true := decide_eq_true c4
        clear c4
        by_cases c5 : a0 ≤ 90
        · rw [if_pos c5] at H
          have c5b0 : decide (a0 ≤ 90) = true := decide_eq_true c5
          clear c5
          obtain rfl := Option.some.inj H
          go_enter Try.func30, Try.ntmps30
          go_wp2
          go_ret
          exact ⟨by first | rfl | (simp; done) | (simp [*]; done), by repeat (first | exact Drawn0.refl _ | apply Drawn0.step)⟩
        · rw [if_neg c5] at H
          have c5b0 : decide (a0 ≤ 90) = false := decide_eq_false c5
          clear c5
          obtain rfl := Option.some.inj H
          go_enter Try.func30, Try.ntmps30
          go_wp2
          go_ret
          exact ⟨by first | rfl | (simp; done) | (simp [*]; done), by repeat (first | exact Drawn0.refl _ | apply Drawn0.step)⟩
      · rw [if_neg c4] at H
        have c4b0 : decide (65 ≤ a0) = false := decide_eq_false c4
        clear c4
        obtain rfl := Option.some.inj H
        go_enter Try.func30, Try.ntmps30
        go_wp2
        go_ret
        exact ⟨by first | rfl | (simp; done) | (simp [*]; done), by repeat (first | exact Drawn0.refl _ | apply Drawn0.step)⟩
  · rw [if_neg c2] at H
    have c2b0 : decide (97 ≤ a0) = false := decide_eq_false c2
    clear c2
    by_cases c6 : a0 ≥ 65
    · rw [if_pos c6] at H
      have c6b0 : decide (65 ≤ a0) = true := decide_eq_true c6
      clear c6
      by_cases c7 : a0 ≤ 90
      · rw [if_pos c7] at H
        have c7b0 : decide (a0 ≤ 90) = true := decide_eq_true c7
        clear c7
        obtain rfl := Option.some.inj H
        go_enter Try.func30, Try.ntmps30
        go_wp2
        go_ret
        exact ⟨by first | rfl | (simp; done) | (simp [*]; done), by repeat (first | exact Drawn0.refl _ | apply Drawn0.step)⟩
      · rw [if_neg c7] at H
        have c7b0 : decide (a0 ≤ 90) = false := decide_eq_false c7
        clear c7
        obtain rfl := Option.some.inj H
        go_enter Try.func30, Try.ntmps30
        go_wp2
        go_ret
        exact ⟨by first | rfl | (simp; done) | (simp [*]; done), by repeat (first | exact Drawn0.refl _ | apply Drawn0.step)⟩
    · rw [if_neg c6] at H
      have c6b0 : decide (65 ≤ a0) = false := decide_eq_false c6
      clear c6
      obtain rfl := Option.some.inj H
      go_enter Try.func30, Try.ntmps30
      go_wp2
      go_ret
      exact ⟨by first | rfl | (simp; done) | (simp [*]; done), by repeat (first | exact Drawn0.refl _ | apply Drawn0.step)⟩

end Go.Proofs.Ytkomgnaleocleaa.PAll
