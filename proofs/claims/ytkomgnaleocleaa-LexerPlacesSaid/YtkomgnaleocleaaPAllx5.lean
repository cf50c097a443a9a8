-- printed by wip/tools/xprint.py (the kit's print program, with stubs); checked by Lean
import Derived.Test.YtkomgnaleocleaaPAllx0
import Derived.Test.YtkomgnaleocleaaPAllx2
import Derived.Test.YtkomgnaleocleaaLex
namespace Go.Proofs.Ytkomgnaleocleaa.PAll
open Go.RowKit Go.Proofs.YtkomgnaleocleaaW.PrintWords Go.Proofs.YtkomgnaleocleaaW.PrintLast Go.Proofs.YtkomgnaleocleaaW.PrintMore
attribute [local go_sem] max2_int min2_int max_two min_two max_three min_three max_four min_four   -- for this text's walks alone
set_option linter.unusedVariables false
set_option linter.unusedSimpArgs false

/-! ### cylinderlaw35_LexerPlaces: function 4 -/
mutual
def cylinderlaw35_LexerPlaces.j0 : Nat → ByteArray → Bool → Option (Bool)
  | 0, _, _ => none
  | k + 1, x0, x16 => if x16 = true then ((cylinderlaw35_awake.f).bind fun t164 => (some t164)) else ((lexer_Lex.f x0).bind fun bt165 => (if bt165.2.2 = 0 then (cylinderlaw35_LexerPlaces.l0 k x0 bt165.1 0 0) else (some ((bt165.1.length : Int) == 0))))
def cylinderlaw35_LexerPlaces.l0 : Nat → ByteArray → List (S30) → Int → Int → Option (Bool)
  | 0, _, _, _, _ => none
  | k + 1, x0, x3, x6, x7 => if x7 ≤ (x3.length : Int) then (if x7 < (x3.length : Int) then (if 0 ≤ x7 then (cylinderlaw35_LexerPlaces.j2 k x0 x3 x6 x7 ((rd_T30 x3 x7).f2)) else (none)) else (cylinderlaw35_LexerPlaces.j2 k x0 x3 x6 x7 (x0.size : Int))) else (some false)
def cylinderlaw35_LexerPlaces.j2 : Nat → ByteArray → List (S30) → Int → Int → Int → Option (Bool)
  | 0, _, _, _, _, _ => none
  | k + 1, x0, x3, x6, x7, x8 => if x8 < x6 then (cylinderlaw35_LexerPlaces.j3 k x0 x3 x6 x7 x8 true) else (cylinderlaw35_LexerPlaces.j3 k x0 x3 x6 x7 x8 (decide (x8 > (x0.size : Int))))
def cylinderlaw35_LexerPlaces.j3 : Nat → ByteArray → List (S30) → Int → Int → Int → Bool → Option (Bool)
  | 0, _, _, _, _, _, _ => none
  | k + 1, x0, x3, x6, x7, x8, x54 => if x54 = true then (some false) else (cylinderlaw35_LexerPlaces.l1 k x0 x3 x7 x8 x6)
def cylinderlaw35_LexerPlaces.l1 : Nat → ByteArray → List (S30) → Int → Int → Int → Option (Bool)
  | 0, _, _, _, _, _ => none
  | k + 1, x0, x3, x7, x8, x9 => if x9 < x8 then (if 0 ≤ x9 then (if x9 < (x0.size : Int) then ((cylinderref35_Blank.f (bt x0 x9)).bind fun t171 => (if t171 = true then (cylinderlaw35_LexerPlaces.l1 k x0 x3 x7 x8 (wrap64 (x9 + 1))) else (some false))) else (none)) else (none)) else (if x7 = (x3.length : Int) then (some true) else (if 0 ≤ x7 then (if x7 < (x3.length : Int) then (if (((rd_T30 x3 x7).f1).size : Int) = 0 then (some false) else (if (wrap64 ((x0.size : Int) - x8)) < (((rd_T30 x3 x7).f1).size : Int) then (some false) else (if 0 ≤ x8 then (if x8 ≤ (wrap64 (x8 + (((rd_T30 x3 x7).f1).size : Int))) then (if (wrap64 (x8 + (((rd_T30 x3 x7).f1).size : Int))) ≤ (x0.size : Int) then (if (x0.extract (x8 : Int).toNat ((wrap64 (x8 + (((rd_T30 x3 x7).f1).size : Int))) : Int).toNat).toList = ((rd_T30 x3 x7).f1).toList then (cylinderlaw35_LexerPlaces.l0 k x0 x3 (wrap64 (x8 + (((rd_T30 x3 x7).f1).size : Int))) (wrap64 (x7 + 1))) else (some false)) else (none)) else (none)) else (none)))) else (none)) else (none)))
end
def cylinderlaw35_LexerPlaces.f (k : Nat) (a0 : ByteArray) : Option (Bool) := (cylinderlaw35_awake.f).bind fun t163 => (if t163 = true then (cylinderlaw35_LexerPlaces.j0 k a0 (decide ((a0.size : Int) > 4000))) else (cylinderlaw35_LexerPlaces.j0 k a0 true))
theorem cylinderlaw35_LexerPlaces.mono_l : ∀ k, (∀ y0 y1, LeO (cylinderlaw35_LexerPlaces.j0 k y0 y1) (cylinderlaw35_LexerPlaces.j0 (k + 1) y0 y1)) ∧ (∀ y0 y1 y2 y3, LeO (cylinderlaw35_LexerPlaces.l0 k y0 y1 y2 y3) (cylinderlaw35_LexerPlaces.l0 (k + 1) y0 y1 y2 y3)) ∧ (∀ y0 y1 y2 y3 y4, LeO (cylinderlaw35_LexerPlaces.j2 k y0 y1 y2 y3 y4) (cylinderlaw35_LexerPlaces.j2 (k + 1) y0 y1 y2 y3 y4)) ∧ (∀ y0 y1 y2 y3 y4 y5, LeO (cylinderlaw35_LexerPlaces.j3 k y0 y1 y2 y3 y4 y5) (cylinderlaw35_LexerPlaces.j3 (k + 1) y0 y1 y2 y3 y4 y5)) ∧ (∀ y0 y1 y2 y3 y4, LeO (cylinderlaw35_LexerPlaces.l1 k y0 y1 y2 y3 y4) (cylinderlaw35_LexerPlaces.l1 (k + 1) y0 y1 y2 y3 y4))
  | 0 => ⟨fun _ _ r h => by simp [cylinderlaw35_LexerPlaces.j0] at h, fun _ _ _ _ r h => by simp [cylinderlaw35_LexerPlaces.l0] at h, fun _ _ _ _ _ r h => by simp [cylinderlaw35_LexerPlaces.j2] at h, fun _ _ _ _ _ _ r h => by simp [cylinderlaw35_LexerPlaces.j3] at h, fun _ _ _ _ _ r h => by simp [cylinderlaw35_LexerPlaces.l1] at h⟩
  | k + 1 => by
    obtain ⟨ih0, ih1, ih2, ih3, ih4⟩ := cylinderlaw35_LexerPlaces.mono_l k
    refine ⟨?_, ?_, ?_, ?_, ?_⟩
    · intro y0 y1
      unfold cylinderlaw35_LexerPlaces.j0
      repeat' first
      | (with_reducible exact ih0 _ _)
      | (with_reducible exact ih1 _ _ _ _)
      | (with_reducible exact ih2 _ _ _ _ _)
      | (with_reducible exact ih3 _ _ _ _ _ _)
      | (with_reducible exact ih4 _ _ _ _ _)
      | (with_reducible exact LeO.refl _)
      | (with_reducible exact LeO.none _)
      | (with_reducible refine LeO.ite ?_ ?_)
      | (with_reducible refine LeO.bind ?_ (fun _ => ?_))
      | exact ih0 _ _
      | exact ih1 _ _ _ _
      | exact ih2 _ _ _ _ _
      | exact ih3 _ _ _ _ _ _
      | exact ih4 _ _ _ _ _
      | exact LeO.none _
      | refine LeO.ite ?_ ?_
      | refine LeO.bind ?_ (fun _ => ?_)
    · intro y0 y1 y2 y3
      unfold cylinderlaw35_LexerPlaces.l0
      repeat' first
      | (with_reducible exact ih0 _ _)
      | (with_reducible exact ih1 _ _ _ _)
      | (with_reducible exact ih2 _ _ _ _ _)
      | (with_reducible exact ih3 _ _ _ _ _ _)
      | (with_reducible exact ih4 _ _ _ _ _)
      | (with_reducible exact LeO.refl _)
      | (with_reducible exact LeO.none _)
      | (with_reducible refine LeO.ite ?_ ?_)
      | (with_reducible refine LeO.bind ?_ (fun _ => ?_))
      | exact ih0 _ _
      | exact ih1 _ _ _ _
      | exact ih2 _ _ _ _ _
      | exact ih3 _ _ _ _ _ _
      | exact ih4 _ _ _ _ _
      | exact LeO.none _
      | refine LeO.ite ?_ ?_
      | refine LeO.bind ?_ (fun _ => ?_)
    · intro y0 y1 y2 y3 y4
      unfold cylinderlaw35_LexerPlaces.j2
      repeat' first
      | (with_reducible exact ih0 _ _)
      | (with_reducible exact ih1 _ _ _ _)
      | (with_reducible exact ih2 _ _ _ _ _)
      | (with_reducible exact ih3 _ _ _ _ _ _)
      | (with_reducible exact ih4 _ _ _ _ _)
      | (with_reducible exact LeO.refl _)
      | (with_reducible exact LeO.none _)
      | (with_reducible refine LeO.ite ?_ ?_)
      | (with_reducible refine LeO.bind ?_ (fun _ => ?_))
      | exact ih0 _ _
      | exact ih1 _ _ _ _
      | exact ih2 _ _ _ _ _
      | exact ih3 _ _ _ _ _ _
      | exact ih4 _ _ _ _ _
      | exact LeO.none _
      | refine LeO.ite ?_ ?_
      | refine LeO.bind ?_ (fun _ => ?_)
    · intro y0 y1 y2 y3 y4 y5
      unfold cylinderlaw35_LexerPlaces.j3
      repeat' first
      | (with_reducible exact ih0 _ _)
      | (with_reducible exact ih1 _ _ _ _)
      | (with_reducible exact ih2 _ _ _ _ _)
      | (with_reducible exact ih3 _ _ _ _ _ _)
      | (with_reducible exact ih4 _ _ _ _ _)
      | (with_reducible exact LeO.refl _)
      | (with_reducible exact LeO.none _)
      | (with_reducible refine LeO.ite ?_ ?_)
      | (with_reducible refine LeO.bind ?_ (fun _ => ?_))
      | exact ih0 _ _
      | exact ih1 _ _ _ _
      | exact ih2 _ _ _ _ _
      | exact ih3 _ _ _ _ _ _
      | exact ih4 _ _ _ _ _
      | exact LeO.none _
      | refine LeO.ite ?_ ?_
      | refine LeO.bind ?_ (fun _ => ?_)
    · intro y0 y1 y2 y3 y4
      unfold cylinderlaw35_LexerPlaces.l1
      repeat' first
      | (with_reducible exact ih0 _ _)
      | (with_reducible exact ih1 _ _ _ _)
      | (with_reducible exact ih2 _ _ _ _ _)
      | (with_reducible exact ih3 _ _ _ _ _ _)
      | (with_reducible exact ih4 _ _ _ _ _)
      | (with_reducible exact LeO.refl _)
      | (with_reducible exact LeO.none _)
      | (with_reducible refine LeO.ite ?_ ?_)
      | (with_reducible refine LeO.bind ?_ (fun _ => ?_))
      | exact ih0 _ _
      | exact ih1 _ _ _ _
      | exact ih2 _ _ _ _ _
      | exact ih3 _ _ _ _ _ _
      | exact ih4 _ _ _ _ _
      | exact LeO.none _
      | refine LeO.ite ?_ ?_
      | refine LeO.bind ?_ (fun _ => ?_)
theorem cylinderlaw35_LexerPlaces.mono : ∀ a0 k, LeO (cylinderlaw35_LexerPlaces.f k a0) (cylinderlaw35_LexerPlaces.f (k + 1) a0) := by
  intro a0 k
  obtain ⟨ih0, ih1, ih2, ih3, ih4⟩ := cylinderlaw35_LexerPlaces.mono_l k
  unfold cylinderlaw35_LexerPlaces.f
  repeat' first
      | (with_reducible exact ih0 _ _)
      | (with_reducible exact ih1 _ _ _ _)
      | (with_reducible exact ih2 _ _ _ _ _)
      | (with_reducible exact ih3 _ _ _ _ _ _)
      | (with_reducible exact ih4 _ _ _ _ _)
      | (with_reducible exact LeO.refl _)
      | (with_reducible exact LeO.none _)
      | (with_reducible refine LeO.ite ?_ ?_)
      | (with_reducible refine LeO.bind ?_ (fun _ => ?_))
      | exact ih0 _ _
      | exact ih1 _ _ _ _
      | exact ih2 _ _ _ _ _
      | exact ih3 _ _ _ _ _ _
      | exact ih4 _ _ _ _ _
      | exact LeO.none _
      | refine LeO.ite ?_ ?_
      | refine LeO.bind ?_ (fun _ => ?_)
set_option maxHeartbeats 8000000 in
set_option maxRecDepth 100000 in
theorem cylinderlaw35_LexerPlaces.calls (k : Nat) (a0 : ByteArray) (r : Bool) (w : World) (h : cylinderlaw35_LexerPlaces.f k a0 = some r) :
    Calls Try.prog 4 #[.string a0] w fun e w' => e = .returned (.bool r) ∧ Below w.heap.size w w' := by
  have HB := Aside0.mk (Below.refl w.heap.size w)
  have H : ((cylinderlaw35_awake.f).bind fun t163 => (if t163 = true then (cylinderlaw35_LexerPlaces.j0 k a0 (decide ((a0.size : Int) > 4000))) else (cylinderlaw35_LexerPlaces.j0 k a0 true))) = some r := h
  clear h
  have HC2 := Aside0.mk H
  clear H
  go_enter Try.func4, Try.ntmps4
  go_upto_region 1 with (fail)
  repeat (go_quiet (fail); go_upto_region 1 with (fail))
  go_cut [16] (fun v16 wc => ∃ (kq : Nat) (x16_1 : Bool), v16 = .bool x16_1 ∧ Aside0 (cylinderlaw35_LexerPlaces.j0 kq a0 x16_1 = some r) ∧ Aside0 (kq ≤ k) ∧ Aside0 (Below w.heap.size w wc))
  case first =>
    have H := HC2.out
    clear HC2
    replace H := Option.bind_eq_some_iff.mp H
    obtain ⟨t163, A30, H⟩ := H
    replace H : (if t163 = true then (cylinderlaw35_LexerPlaces.j0 k a0 (decide ((a0.size : Int) > 4000))) else (cylinderlaw35_LexerPlaces.j0 k a0 true)) = some r := H
    have A3 := Aside0.mk A30
    clear A30
    by_cases c4 : t163 = true
    · subst c4
      have H1 : (cylinderlaw35_LexerPlaces.j0 k a0 (decide ((a0.size : Int) > 4000))) = some r := by rw [if_pos rfl] at H; exact H
      clear H
      have H := H1
      clear H1
      have H' := Aside0.mk H
      clear H
      go_wp2_with (first | (go_at_call 12; (with_reducible refine (cylinderlaw35_awake.calls  true _ A3.out).mono ?_); rintro e w5 ⟨rfl, hb⟩; have n0_ := Aside0.mk (below_step (by repeat (first | (with_reducible first | exact HB.out | apply below_alloc | apply pw_below_drewN | apply below_drew1) | exact HB.out)) hb); clear HB; have HB := n0_; clear n0_; (try clear hb); (try clear hb2); (try clear hk); (try clear hi)))
      repeat (go_quiet (first | (go_at_call 12; (with_reducible refine (cylinderlaw35_awake.calls  true _ A3.out).mono ?_); rintro e w5 ⟨rfl, hb⟩; have n0_ := Aside0.mk (below_step (by repeat (first | (with_reducible first | exact HB.out | apply below_alloc | apply pw_below_drewN | apply below_drew1) | exact HB.out)) hb); clear HB; have HB := n0_; clear n0_; (try clear hb); (try clear hb2); (try clear hk); (try clear hi))); try go_wp2_with (first | (go_at_call 12; (with_reducible refine (cylinderlaw35_awake.calls  true _ A3.out).mono ?_); rintro e w5 ⟨rfl, hb⟩; have n0_ := Aside0.mk (below_step (by repeat (first | (with_reducible first | exact HB.out | apply below_alloc | apply pw_below_drewN | apply below_drew1) | exact HB.out)) hb); clear HB; have HB := n0_; clear n0_; (try clear hb); (try clear hb2); (try clear hk); (try clear hi))))
      go_meet
      case rel => exact ⟨_, (decide ((a0.size : Int) > 4000)), (by first | rfl | (simp; done) | (simp [*]; done)), H', ⟨by first | omega | exact Nat.le_refl _⟩, ⟨by repeat (first | (with_reducible first | exact HB.out | apply below_alloc | apply pw_below_drewN | apply below_drew1) | exact HB.out)⟩⟩
    · replace c4 := Bool.eq_false_iff.mpr c4
      subst c4
      have H1 : (cylinderlaw35_LexerPlaces.j0 k a0 true) = some r := by rw [if_neg (show ¬ (false = true) by decide)] at H; exact H
      clear H
      have H := H1
      clear H1
      have H' := Aside0.mk H
      clear H
      go_wp2_with (first | (go_at_call 12; (with_reducible refine (cylinderlaw35_awake.calls  false _ A3.out).mono ?_); rintro e w6 ⟨rfl, hb⟩; have n0_ := Aside0.mk (below_step (by repeat (first | (with_reducible first | exact HB.out | apply below_alloc | apply pw_below_drewN | apply below_drew1) | exact HB.out)) hb); clear HB; have HB := n0_; clear n0_; (try clear hb); (try clear hb2); (try clear hk); (try clear hi)))
      repeat (go_quiet (first | (go_at_call 12; (with_reducible refine (cylinderlaw35_awake.calls  false _ A3.out).mono ?_); rintro e w6 ⟨rfl, hb⟩; have n0_ := Aside0.mk (below_step (by repeat (first | (with_reducible first | exact HB.out | apply below_alloc | apply pw_below_drewN | apply below_drew1) | exact HB.out)) hb); clear HB; have HB := n0_; clear n0_; (try clear hb); (try clear hb2); (try clear hk); (try clear hi))); try go_wp2_with (first | (go_at_call 12; (with_reducible refine (cylinderlaw35_awake.calls  false _ A3.out).mono ?_); rintro e w6 ⟨rfl, hb⟩; have n0_ := Aside0.mk (below_step (by repeat (first | (with_reducible first | exact HB.out | apply below_alloc | apply pw_below_drewN | apply below_drew1) | exact HB.out)) hb); clear HB; have HB := n0_; clear n0_; (try clear hb); (try clear hb2); (try clear hk); (try clear hi))))
      go_meet
      case rel => exact ⟨_, (true), (by first | rfl | (simp; done) | (simp [*]; done)), H', ⟨by first | omega | exact Nat.le_refl _⟩, ⟨by repeat (first | (with_reducible first | exact HB.out | apply below_alloc | apply pw_below_drewN | apply below_drew1) | exact HB.out)⟩⟩
  case rest =>
    clear HC2
    try clear p2
    try clear c4
    obtain ⟨kq, x16_1, rfl, HA, HJ1, HB⟩ := hcut
    cases kq with
    | zero => exact absurd HA.out (by simp [cylinderlaw35_LexerPlaces.j0])
    | succ kj1 =>
      have H := HA.out
      clear HA
      simp only [cylinderlaw35_LexerPlaces.j0] at H
      by_cases c7 : x16_1 = true
      · subst c7
        have H1 : ((cylinderlaw35_awake.f).bind fun t164 => (some t164)) = some r := by rw [if_pos rfl] at H; exact H
        clear H
        have H := H1
        clear H1
        replace H := Option.bind_eq_some_iff.mp H
        obtain ⟨t164, A80, H⟩ := H
        replace H : (some t164) = some r := H
        have A8 := Aside0.mk A80
        clear A80
        obtain rfl := Option.some.inj H
        go_wp2_with (first | (go_at_call 12; (with_reducible refine (cylinderlaw35_awake.calls  t164 _ A8.out).mono ?_); rintro e w9 ⟨rfl, hb⟩; have n0_ := Aside0.mk (below_step (by repeat (first | (with_reducible first | exact HB.out | apply below_alloc | apply pw_below_drewN | apply below_drew1) | exact HB.out)) hb); clear HB; have HB := n0_; clear n0_; (try clear hb); (try clear hb2); (try clear hk); (try clear hi)))
        repeat (go_quiet (first | (go_at_call 12; (with_reducible refine (cylinderlaw35_awake.calls  t164 _ A8.out).mono ?_); rintro e w9 ⟨rfl, hb⟩; have n0_ := Aside0.mk (below_step (by repeat (first | (with_reducible first | exact HB.out | apply below_alloc | apply pw_below_drewN | apply below_drew1) | exact HB.out)) hb); clear HB; have HB := n0_; clear n0_; (try clear hb); (try clear hb2); (try clear hk); (try clear hi))); try go_wp2_with (first | (go_at_call 12; (with_reducible refine (cylinderlaw35_awake.calls  t164 _ A8.out).mono ?_); rintro e w9 ⟨rfl, hb⟩; have n0_ := Aside0.mk (below_step (by repeat (first | (with_reducible first | exact HB.out | apply below_alloc | apply pw_below_drewN | apply below_drew1) | exact HB.out)) hb); clear HB; have HB := n0_; clear n0_; (try clear hb); (try clear hb2); (try clear hk); (try clear hi))))
        go_ret
        exact ⟨by first | rfl | (simp [errW_none, errW_some] <;> rfl) | (simp [*, errW_none, errW_some] <;> rfl) | (rw [wrap64_wrap_add]; rfl) | (have e_ := Option.some.inj (A28.out.symm.trans A30.out); subst e_; rfl), by repeat (first | (with_reducible first | exact HB.out | apply below_alloc | apply pw_below_drewN | apply below_drew1) | exact HB.out)⟩
      · replace c7 := Bool.eq_false_iff.mpr c7
        subst c7
        have H1 : ((lexer_Lex.f a0).bind fun bt165 => (if bt165.2.2 = 0 then (cylinderlaw35_LexerPlaces.l0 kj1 a0 bt165.1 0 0) else (some ((bt165.1.length : Int) == 0)))) = some r := by rw [if_neg (show ¬ (false = true) by decide)] at H; exact H
        clear H
        have H := H1
        clear H1
        replace H := Option.bind_eq_some_iff.mp H
        obtain ⟨⟨t165, t166, t167⟩, A100, H⟩ := H
        replace H : (if t167 = 0 then (cylinderlaw35_LexerPlaces.l0 kj1 a0 t165 0 0) else (some ((t165.length : Int) == 0))) = some r := H
        have A10 := Aside0.mk A100
        clear A100
        by_cases c11 : t167 = 0
        · rw [if_pos c11] at H
          have c11b0 : (t167 == 0) = true := beq_iff_eq.mpr c11
          have c11b1 : (t167 != 0) = false := bne_eq_false_iff_eq.mpr c11
          clear c11
          have H' := Aside0.mk H
          clear H
          go_wp2_with (first | (go_at_call 13; (with_reducible refine (lexer_Lex.calls a0 t165 t166 t167 _ A10.out).mono ?_); rintro e w12 ⟨v168, rfl, ho0, hb⟩; have n0_ := Aside0.mk (Kd.R_lower ho0 (below_size (by repeat (first | (with_reducible first | exact HB.out | apply below_alloc | apply pw_below_drewN | apply below_drew1) | exact HB.out)))); have n1_ := Aside0.mk (below_step (by repeat (first | (with_reducible first | exact HB.out | apply below_alloc | apply pw_below_drewN | apply below_drew1) | exact HB.out)) hb); clear HB; have HO169 := n0_; have HB := n1_; clear n0_ n1_; (try clear hb); (try clear hb2); (try clear hk); (try clear hi); (try clear ho0)))
          repeat (go_quiet (first | (go_at_call 13; (with_reducible refine (lexer_Lex.calls a0 t165 t166 t167 _ A10.out).mono ?_); rintro e w12 ⟨v168, rfl, ho0, hb⟩; have n0_ := Aside0.mk (Kd.R_lower ho0 (below_size (by repeat (first | (with_reducible first | exact HB.out | apply below_alloc | apply pw_below_drewN | apply below_drew1) | exact HB.out)))); have n1_ := Aside0.mk (below_step (by repeat (first | (with_reducible first | exact HB.out | apply below_alloc | apply pw_below_drewN | apply below_drew1) | exact HB.out)) hb); clear HB; have HO169 := n0_; have HB := n1_; clear n0_ n1_; (try clear hb); (try clear hb2); (try clear hk); (try clear hi); (try clear ho0))); try go_wp2_with (first | (go_at_call 13; (with_reducible refine (lexer_Lex.calls a0 t165 t166 t167 _ A10.out).mono ?_); rintro e w12 ⟨v168, rfl, ho0, hb⟩; have n0_ := Aside0.mk (Kd.R_lower ho0 (below_size (by repeat (first | (with_reducible first | exact HB.out | apply below_alloc | apply pw_below_drewN | apply below_drew1) | exact HB.out)))); have n1_ := Aside0.mk (below_step (by repeat (first | (with_reducible first | exact HB.out | apply below_alloc | apply pw_below_drewN | apply below_drew1) | exact HB.out)) hb); clear HB; have HO169 := n0_; have HB := n1_; clear n0_ n1_; (try clear hb); (try clear hb2); (try clear hk); (try clear hi); (try clear ho0))))
          go_loopg [6, 7] kj1 (fun kq v6 v7 w' => ∃ (x6_2 : Int) (x7_2 : Int), v6 = .int .i64 x6_2 ∧ v7 = .int .i64 x7_2 ∧ Aside0 (cylinderlaw35_LexerPlaces.l0 kq a0 t165 x6_2 x7_2 = some r) ∧ Aside0 (kq ≤ kj1) ∧ Aside0 (Kd.R k30 30 w' w.heap.size (fun _ => True) v168 t165) ∧ Aside0 (Below w.heap.size w w'))
          case atStart => exact ⟨(0), (0), (by first | rfl | (simp; done) | (simp [*]; done)), (by first | rfl | (simp; done) | (simp [*]; done)), H', ⟨Nat.le_refl _⟩, ⟨by (with_reducible repeat (first | apply Kd.R_alloc | apply Kd.R_drewN | apply Kd.R_drew)); exact HO169.out⟩, ⟨by repeat (first | (with_reducible first | exact HB.out | apply below_alloc | apply pw_below_drewN | apply below_drew1) | exact HB.out)⟩⟩
          case round =>
            clear H'
            try clear c1
            try clear p2
            try clear c4
            try clear c7
            try clear c11
            try clear c11b0
            try clear c11b1
            try clear p2
            obtain ⟨x6_2, x7_2, rfl, rfl, HA, HK2, HO_3, HB⟩ := hrel
            cases gk with
            | zero => exact absurd HA.out (by simp [cylinderlaw35_LexerPlaces.l0])
            | succ k2 =>
              have H := HA.out
              clear HA
              simp only [cylinderlaw35_LexerPlaces.l0] at H
              by_cases c13 : x7_2 ≤ (t165.length : Int)
              · rw [if_pos c13] at H
                have c13b0 : decide (x7_2 ≤ (t165.length : Int)) = true := decide_eq_true c13
                clear c13
                have HC14 := Aside0.mk H
                clear H
                obtain ⟨Ao15, co15, eo15⟩ := Kd.R_slice HO_3.out
                subst eo15
                go_upto_if 40 with (fail)
                repeat (go_quiet (fail); go_upto_if 40 with (fail))
                go_cut [8] (fun v8 wc => ∃ (kq : Nat) (x8_13 : Int), v8 = .int .i64 x8_13 ∧ Aside0 (cylinderlaw35_LexerPlaces.j2 kq a0 t165 x6_2 x7_2 x8_13 = some r) ∧ Aside0 (kq ≤ k2) ∧ Aside0 (Kd.R k30 30 wc w.heap.size (fun _ => True) (.slice Ao15 t165.length co15) t165) ∧ Aside0 (Below w.heap.size w wc))
                case first =>
                  have H := HC14.out
                  clear HC14
                  by_cases c16 : x7_2 < (t165.length : Int)
                  · rw [if_pos c16] at H
                    have c16b0 : decide (x7_2 < (t165.length : Int)) = true := decide_eq_true c16
                    clear c16
                    (first | rw [c16b0] | (simp only [i64_w, i32_w]; rw [c16b0]) | skip)
                    by_cases c17 : 0 ≤ x7_2
                    · rw [if_pos c17] at H
                      have c17b0 : decide (0 ≤ x7_2) = true := decide_eq_true c17
                      clear c17
                      have H' := Aside0.mk H
                      clear H
                      have p170 : 0 ≤ (x7_2 : Int) := of_decide_eq_true (by first | (with_reducible assumption) | assumption)
                      have q170 : x7_2 < (t165.length : Int) := of_decide_eq_true (by first | (with_reducible assumption) | assumption)
                      obtain ⟨ad170, e170, hx170_0, hx170_1, hx170_2⟩ := at_T30 (Kd.R_reads' HO_3.out).2.2 x7_2 p170 q170
                      cases e170
                      replace p170 := eq_true p170
                      replace q170 := eq_true q170
                      go_wp2
                      repeat (go_quiet (fail); try go_wp2)
                      go_meet
                      case rel => exact ⟨_, ((rd_T30 t165 x7_2).f2), (by first | rfl | (simp; done) | (simp [*]; done)), H', ⟨by have := HJ1.out; have := HK2.out; first | omega | exact Nat.le_refl _⟩, ⟨by (with_reducible repeat (first | apply Kd.R_alloc | apply Kd.R_drewN | apply Kd.R_drew)); exact HO_3.out⟩, ⟨by repeat (first | (with_reducible first | exact HB.out | apply below_alloc | apply pw_below_drewN | apply below_drew1) | exact HB.out)⟩⟩
                    · rw [if_neg c17] at H
                      exact absurd H (by simp)
                  · rw [if_neg c16] at H
                    have c16b0 : decide (x7_2 < (t165.length : Int)) = false := decide_eq_false c16
                    clear c16
                    (first | rw [c16b0] | (simp only [i64_w, i32_w]; rw [c16b0]) | skip)
                    have H' := Aside0.mk H
                    clear H
                    go_wp2
                    repeat (go_quiet (fail); try go_wp2)
                    go_meet
                    case rel => exact ⟨_, ((a0.size : Int)), (by first | rfl | (simp; done) | (simp [*]; done)), H', ⟨by have := HJ1.out; have := HK2.out; first | omega | exact Nat.le_refl _⟩, ⟨by (with_reducible repeat (first | apply Kd.R_alloc | apply Kd.R_drewN | apply Kd.R_drew)); exact HO_3.out⟩, ⟨by repeat (first | (with_reducible first | exact HB.out | apply below_alloc | apply pw_below_drewN | apply below_drew1) | exact HB.out)⟩⟩
                case rest =>
                  clear HC14
                  try clear c1
                  try clear p1
                  try clear q1
                  try clear hx1
                  try clear p2
                  try clear c4
                  try clear c7
                  try clear c11
                  try clear c11b0
                  try clear c11b1
                  try clear c13
                  try clear c13b0
                  try clear c16
                  try clear c16b0
                  try clear c17
                  try clear c17b0
                  try clear p17
                  try clear q17
                  try clear hx17
                  try clear hx170_0
                  try clear hx170_1
                  try clear hx170_2
                  try clear p170
                  try clear p2
                  try clear q170
                  obtain ⟨kq, x8_13, rfl, HA, HJ13, HO_3, HB⟩ := hcut
                  cases kq with
                  | zero => exact absurd HA.out (by simp [cylinderlaw35_LexerPlaces.j2])
                  | succ kj13 =>
                    have H := HA.out
                    clear HA
                    simp only [cylinderlaw35_LexerPlaces.j2] at H
                    have HC18 := Aside0.mk H
                    clear H
                    go_upto_region 13 with (fail)
                    repeat (go_quiet (fail); go_upto_region 13 with (fail))
                    go_cut [54] (fun v54 wc => ∃ (kq : Nat) (x54_17 : Bool), v54 = .bool x54_17 ∧ Aside0 (cylinderlaw35_LexerPlaces.j3 kq a0 t165 x6_2 x7_2 x8_13 x54_17 = some r) ∧ Aside0 (kq ≤ kj13) ∧ Aside0 (Kd.R k30 30 wc w.heap.size (fun _ => True) (.slice Ao15 t165.length co15) t165) ∧ Aside0 (Below w.heap.size w wc))
                    case first =>
                      have H := HC18.out
                      clear HC18
                      by_cases c19 : x8_13 < x6_2
                      · rw [if_pos c19] at H
                        have c19b0 : decide (x8_13 < x6_2) = true := decide_eq_true c19
                        clear c19
                        (first | rw [c19b0] | (simp only [i64_w, i32_w]; rw [c19b0]) | skip)
                        have H' := Aside0.mk H
                        clear H
                        go_wp2
                        repeat (go_quiet (fail); try go_wp2)
                        go_meet
                        case rel => exact ⟨_, (true), (by first | rfl | (simp; done) | (simp [*]; done)), H', ⟨by have := HJ1.out; have := HK2.out; have := HJ13.out; first | omega | exact Nat.le_refl _⟩, ⟨by (with_reducible repeat (first | apply Kd.R_alloc | apply Kd.R_drewN | apply Kd.R_drew)); exact HO_3.out⟩, ⟨by repeat (first | (with_reducible first | exact HB.out | apply below_alloc | apply pw_below_drewN | apply below_drew1) | exact HB.out)⟩⟩
                      · rw [if_neg c19] at H
                        have c19b0 : decide (x8_13 < x6_2) = false := decide_eq_false c19
                        clear c19
                        (first | rw [c19b0] | (simp only [i64_w, i32_w]; rw [c19b0]) | skip)
                        have H' := Aside0.mk H
                        clear H
                        go_wp2
                        repeat (go_quiet (fail); try go_wp2)
                        go_meet
                        case rel => exact ⟨_, (decide (x8_13 > (a0.size : Int))), (by first | rfl | (simp; done) | (simp [*]; done)), H', ⟨by have := HJ1.out; have := HK2.out; have := HJ13.out; first | omega | exact Nat.le_refl _⟩, ⟨by (with_reducible repeat (first | apply Kd.R_alloc | apply Kd.R_drewN | apply Kd.R_drew)); exact HO_3.out⟩, ⟨by repeat (first | (with_reducible first | exact HB.out | apply below_alloc | apply pw_below_drewN | apply below_drew1) | exact HB.out)⟩⟩
                    case rest =>
                      clear HC18
                      try clear c1
                      try clear p1
                      try clear q1
                      try clear hx1
                      try clear p2
                      try clear c4
                      try clear c7
                      try clear c11
                      try clear c11b0
                      try clear c11b1
                      try clear c13
                      try clear c13b0
                      try clear c16
                      try clear c16b0
                      try clear c17
                      try clear c17b0
                      try clear p17
                      try clear q17
                      try clear hx17
                      try clear c19
                      try clear c19b0
                      try clear hx170_0
                      try clear hx170_1
                      try clear hx170_2
                      try clear p1
                      try clear p17
                      try clear p170
                      try clear p2
                      try clear q1
                      try clear q17
                      try clear q170
                      obtain ⟨kq, x54_17, rfl, HA, HJ17, HO_3, HB⟩ := hcut
                      cases kq with
                      | zero => exact absurd HA.out (by simp [cylinderlaw35_LexerPlaces.j3])
                      | succ kj17 =>
                        have H := HA.out
                        clear HA
                        simp only [cylinderlaw35_LexerPlaces.j3] at H
                        by_cases c20 : x54_17 = true
                        · subst c20
                          have H1 : (some false) = some r := by rw [if_pos rfl] at H; exact H
                          clear H
                          have H := H1
                          clear H1
                          obtain rfl := Option.some.inj H
                          go_wp2
                          repeat (go_quiet (fail); try go_wp2)
                          go_ret
                          exact ⟨by first | rfl | (simp [errW_none, errW_some] <;> rfl) | (simp [*, errW_none, errW_some] <;> rfl) | (rw [wrap64_wrap_add]; rfl) | (have e_ := Option.some.inj (A28.out.symm.trans A30.out); subst e_; rfl), by repeat (first | (with_reducible first | exact HB.out | apply below_alloc | apply pw_below_drewN | apply below_drew1) | exact HB.out)⟩
                        · replace c20 := Bool.eq_false_iff.mpr c20
                          subst c20
                          have H1 : (cylinderlaw35_LexerPlaces.l1 kj17 a0 t165 x7_2 x8_13 x6_2) = some r := by rw [if_neg (show ¬ (false = true) by decide)] at H; exact H
                          clear H
                          have H := H1
                          clear H1
                          have H' := Aside0.mk H
                          clear H
                          go_wp2
                          repeat (go_quiet (fail); try go_wp2)
                          go_loopg [9] kj17 (fun kq v9 w' => ∃ (x9_5 : Int), v9 = .int .i64 x9_5 ∧ Aside0 (cylinderlaw35_LexerPlaces.l1 kq a0 t165 x7_2 x8_13 x9_5 = some r) ∧ Aside0 (kq ≤ kj17) ∧ Aside0 (Kd.R k30 30 w' w.heap.size (fun _ => True) (.slice Ao15 t165.length co15) t165) ∧ Aside0 (Below w.heap.size w w'))
                          case atStart => exact ⟨(x6_2), (by first | rfl | (simp; done) | (simp [*]; done)), H', ⟨Nat.le_refl _⟩, ⟨by (with_reducible repeat (first | apply Kd.R_alloc | apply Kd.R_drewN | apply Kd.R_drew)); exact HO_3.out⟩, ⟨by repeat (first | (with_reducible first | exact HB.out | apply below_alloc | apply pw_below_drewN | apply below_drew1) | exact HB.out)⟩⟩
                          case round =>
                            clear H'
                            try clear c1
                            try clear p1
                            try clear q1
                            try clear hx1
                            try clear c2
                            try clear p2
                            try clear c4
                            try clear c7
                            try clear c11
                            try clear c11b0
                            try clear c11b1
                            try clear c13
                            try clear c13b0
                            try clear c16
                            try clear c16b0
                            try clear c17
                            try clear c17b0
                            try clear p17
                            try clear q17
                            try clear hx17
                            try clear c19
                            try clear c19b0
                            try clear c20
                            try clear hx170_0
                            try clear hx170_1
                            try clear hx170_2
                            try clear p1
                            try clear p17
                            try clear p170
                            try clear p2
                            try clear q1
                            try clear q17
                            try clear q170
                            obtain ⟨x9_5, rfl, HA, HK5, HO_3, HB⟩ := hrel
                            cases gk with
                            | zero => exact absurd HA.out (by simp [cylinderlaw35_LexerPlaces.l1])
                            | succ k5 =>
                              have H := HA.out
                              clear HA
                              simp only [cylinderlaw35_LexerPlaces.l1] at H
                              by_cases c21 : x9_5 < x8_13
                              · rw [if_pos c21] at H
                                have c21b0 : decide (x9_5 < x8_13) = true := decide_eq_true c21
                                clear c21
                                by_cases c22 : 0 ≤ x9_5
                                · rw [if_pos c22] at H
                                  have c22b0 : decide (0 ≤ x9_5) = true := decide_eq_true c22
                                  clear c22
                                  by_cases c23 : x9_5 < (a0.size : Int)
                                  · rw [if_pos c23] at H
                                    have c23b0 : decide (x9_5 < (a0.size : Int)) = true := decide_eq_true c23
                                    clear c23
                                    replace H := Option.bind_eq_some_iff.mp H
                                    obtain ⟨t171, A250, H⟩ := H
                                    replace H : (if t171 = true then (cylinderlaw35_LexerPlaces.l1 k5 a0 t165 x7_2 x8_13 (wrap64 (x9_5 + 1))) else (some false)) = some r := H
                                    have A25 := Aside0.mk A250
                                    clear A250
                                    by_cases c26 : t171 = true
                                    · subst c26
                                      have H1 : (cylinderlaw35_LexerPlaces.l1 k5 a0 t165 x7_2 x8_13 (wrap64 (x9_5 + 1))) = some r := by rw [if_pos rfl] at H; exact H
                                      clear H
                                      have H := H1
                                      clear H1
                                      have H' := Aside0.mk H
                                      clear H
                                      have p24 : 0 ≤ (x9_5 : Int) := of_decide_eq_true (by first | (with_reducible assumption) | assumption)
                                      have q24 : x9_5 < (a0.size : Int) := of_decide_eq_true (by first | (with_reducible assumption) | assumption)
                                      have hx24 := bt_at a0 x9_5
                                      replace p24 := eq_true p24
                                      replace q24 := eq_true q24
                                      go_wp2_with (first | (go_at_call 16; (with_reducible refine (cylinderref35_Blank.calls (bt a0 x9_5) true _ A25.out).mono ?_); rintro e w' ⟨rfl, ⟨nd, rfl⟩⟩; (try first | exact ⟨rfl, _, World.drewN_drewN _ _ _⟩ | exact ⟨rfl, _, Eq.trans (World.drewN_drewN _ _ _) (congrArg (World.drewN _) (Nat.add_assoc _ _ _))⟩)))
                                      repeat (go_quiet (first | (go_at_call 16; (with_reducible refine (cylinderref35_Blank.calls (bt a0 x9_5) true _ A25.out).mono ?_); rintro e w' ⟨rfl, ⟨nd, rfl⟩⟩; (try first | exact ⟨rfl, _, World.drewN_drewN _ _ _⟩ | exact ⟨rfl, _, Eq.trans (World.drewN_drewN _ _ _) (congrArg (World.drewN _) (Nat.add_assoc _ _ _))⟩))); try go_wp2_with (first | (go_at_call 16; (with_reducible refine (cylinderref35_Blank.calls (bt a0 x9_5) true _ A25.out).mono ?_); rintro e w' ⟨rfl, ⟨nd, rfl⟩⟩; (try first | exact ⟨rfl, _, World.drewN_drewN _ _ _⟩ | exact ⟨rfl, _, Eq.trans (World.drewN_drewN _ _ _) (congrArg (World.drewN _) (Nat.add_assoc _ _ _))⟩))))
                                      go_roundg k5
                                      case measure => have := HJ1.out; have := HK2.out; have := HJ13.out; have := HJ17.out; have := HK5.out; omega
                                      case rel => exact ⟨(wrap64 (x9_5 + 1)), (by first | rfl | (simp; done) | (simp [*]; done)), H', ⟨by have := HJ1.out; have := HK2.out; have := HJ13.out; have := HJ17.out; have := HK5.out; omega⟩, ⟨by (with_reducible repeat (first | apply Kd.R_alloc | apply Kd.R_drewN | apply Kd.R_drew)); exact HO_3.out⟩, ⟨by repeat (first | (with_reducible first | exact HB.out | apply below_alloc | apply pw_below_drewN | apply below_drew1) | exact HB.out)⟩⟩
                                    · replace c26 := Bool.eq_false_iff.mpr c26
                                      subst c26
                                      have H1 : (some false) = some r := by rw [if_neg (show ¬ (false = true) by decide)] at H; exact H
                                      clear H
                                      have H := H1
                                      clear H1
                                      obtain rfl := Option.some.inj H
                                      have p24 : 0 ≤ (x9_5 : Int) := of_decide_eq_true (by first | (with_reducible assumption) | assumption)
                                      have q24 : x9_5 < (a0.size : Int) := of_decide_eq_true (by first | (with_reducible assumption) | assumption)
                                      have hx24 := bt_at a0 x9_5
                                      replace p24 := eq_true p24
                                      replace q24 := eq_true q24
                                      go_wp2_with (first | (go_at_call 16; (with_reducible refine (cylinderref35_Blank.calls (bt a0 x9_5) false _ A25.out).mono ?_); rintro e w' ⟨rfl, ⟨nd, rfl⟩⟩; (try first | exact ⟨rfl, _, World.drewN_drewN _ _ _⟩ | exact ⟨rfl, _, Eq.trans (World.drewN_drewN _ _ _) (congrArg (World.drewN _) (Nat.add_assoc _ _ _))⟩)))
                                      repeat (go_quiet (first | (go_at_call 16; (with_reducible refine (cylinderref35_Blank.calls (bt a0 x9_5) false _ A25.out).mono ?_); rintro e w' ⟨rfl, ⟨nd, rfl⟩⟩; (try first | exact ⟨rfl, _, World.drewN_drewN _ _ _⟩ | exact ⟨rfl, _, Eq.trans (World.drewN_drewN _ _ _) (congrArg (World.drewN _) (Nat.add_assoc _ _ _))⟩))); try go_wp2_with (first | (go_at_call 16; (with_reducible refine (cylinderref35_Blank.calls (bt a0 x9_5) false _ A25.out).mono ?_); rintro e w' ⟨rfl, ⟨nd, rfl⟩⟩; (try first | exact ⟨rfl, _, World.drewN_drewN _ _ _⟩ | exact ⟨rfl, _, Eq.trans (World.drewN_drewN _ _ _) (congrArg (World.drewN _) (Nat.add_assoc _ _ _))⟩))))
                                      go_ret
                                      exact ⟨by first | rfl | (simp [errW_none, errW_some] <;> rfl) | (simp [*, errW_none, errW_some] <;> rfl) | (rw [wrap64_wrap_add]; rfl) | (have e_ := Option.some.inj (A28.out.symm.trans A30.out); subst e_; rfl), by repeat (first | (with_reducible first | exact HB.out | apply below_alloc | apply pw_below_drewN | apply below_drew1) | exact HB.out)⟩
                                  · rw [if_neg c23] at H
                                    exact absurd H (by simp)
                                · rw [if_neg c22] at H
                                  exact absurd H (by simp)
                              · rw [if_neg c21] at H
                                have c21b0 : decide (x9_5 < x8_13) = false := decide_eq_false c21
                                clear c21
                                by_cases c27 : x7_2 = (t165.length : Int)
                                · rw [if_pos c27] at H
                                  have c27b0 : (x7_2 == (t165.length : Int)) = true := beq_iff_eq.mpr c27
                                  have c27b1 : (x7_2 != (t165.length : Int)) = false := bne_eq_false_iff_eq.mpr c27
                                  clear c27
                                  obtain rfl := Option.some.inj H
                                  go_wp2
                                  repeat (go_quiet (fail); try go_wp2)
                                  go_ret
                                  exact ⟨by first | rfl | (simp [errW_none, errW_some] <;> rfl) | (simp [*, errW_none, errW_some] <;> rfl) | (rw [wrap64_wrap_add]; rfl) | (have e_ := Option.some.inj (A28.out.symm.trans A30.out); subst e_; rfl), by repeat (first | (with_reducible first | exact HB.out | apply below_alloc | apply pw_below_drewN | apply below_drew1) | exact HB.out)⟩
                                · rw [if_neg c27] at H
                                  have c27b0 : (x7_2 == (t165.length : Int)) = false := beq_eq_false_iff_ne.mpr c27
                                  have c27b1 : (x7_2 != (t165.length : Int)) = true := bne_iff_ne.mpr c27
                                  by_cases c28 : 0 ≤ x7_2
                                  · rw [if_pos c28] at H
                                    have c28b0 : decide (0 ≤ x7_2) = true := decide_eq_true c28
                                    clear c28
                                    by_cases c29 : x7_2 < (t165.length : Int)
                                    · rw [if_pos c29] at H
                                      have c29b0 : decide (x7_2 < (t165.length : Int)) = true := decide_eq_true c29
                                      clear c29
                                      by_cases c30 : (((rd_T30 t165 x7_2).f1).size : Int) = 0
                                      · rw [if_pos c30] at H
                                        have c30b0 : ((((rd_T30 t165 x7_2).f1).size : Int) == 0) = true := beq_iff_eq.mpr c30
                                        have c30b1 : ((((rd_T30 t165 x7_2).f1).size : Int) != 0) = false := bne_eq_false_iff_eq.mpr c30
                                        clear c30
                                        obtain rfl := Option.some.inj H
                                        have p172 : 0 ≤ (x7_2 : Int) := of_decide_eq_true (by first | (with_reducible assumption) | assumption)
                                        have q172 : x7_2 < (t165.length : Int) := of_decide_eq_true (by first | (with_reducible assumption) | assumption)
                                        obtain ⟨ad172, e172, hx172_0, hx172_1, hx172_2⟩ := at_T30 (Kd.R_reads' HO_3.out).2.2 x7_2 p172 q172
                                        cases e172
                                        replace p172 := eq_true p172
                                        replace q172 := eq_true q172
                                        go_wp2
                                        repeat (go_quiet (fail); try go_wp2)
                                        go_ret
                                        exact ⟨by first | rfl | (simp [errW_none, errW_some] <;> rfl) | (simp [*, errW_none, errW_some] <;> rfl) | (rw [wrap64_wrap_add]; rfl) | (have e_ := Option.some.inj (A28.out.symm.trans A30.out); subst e_; rfl), by repeat (first | (with_reducible first | exact HB.out | apply below_alloc | apply pw_below_drewN | apply below_drew1) | exact HB.out)⟩
                                      · rw [if_neg c30] at H
                                        have c30b0 : ((((rd_T30 t165 x7_2).f1).size : Int) == 0) = false := beq_eq_false_iff_ne.mpr c30
                                        have c30b1 : ((((rd_T30 t165 x7_2).f1).size : Int) != 0) = true := bne_iff_ne.mpr c30
                                        by_cases c31 : (wrap64 ((a0.size : Int) - x8_13)) < (((rd_T30 t165 x7_2).f1).size : Int)
                                        · rw [if_pos c31] at H
                                          have c31b0 : decide ((wrap64 ((a0.size : Int) - x8_13)) < (((rd_T30 t165 x7_2).f1).size : Int)) = true := decide_eq_true c31
                                          clear c31
                                          obtain rfl := Option.some.inj H
                                          have p172 : 0 ≤ (x7_2 : Int) := of_decide_eq_true (by first | (with_reducible assumption) | assumption)
                                          have q172 : x7_2 < (t165.length : Int) := of_decide_eq_true (by first | (with_reducible assumption) | assumption)
                                          obtain ⟨ad172, e172, hx172_0, hx172_1, hx172_2⟩ := at_T30 (Kd.R_reads' HO_3.out).2.2 x7_2 p172 q172
                                          cases e172
                                          replace p172 := eq_true p172
                                          replace q172 := eq_true q172
                                          have p173 : 0 ≤ (x7_2 : Int) := of_decide_eq_true (by first | (with_reducible assumption) | assumption)
                                          have q173 : x7_2 < (t165.length : Int) := of_decide_eq_true (by first | (with_reducible assumption) | assumption)
                                          obtain ⟨ad173, e173, hx173_0, hx173_1, hx173_2⟩ := at_T30 (Kd.R_reads' HO_3.out).2.2 x7_2 p173 q173
                                          obtain rfl : ad172 = ad173 := (by injection e173)
                                          replace p173 := eq_true p173
                                          replace q173 := eq_true q173
                                          go_wp2
                                          repeat (go_quiet (fail); try go_wp2)
                                          go_ret
                                          exact ⟨by first | rfl | (simp [errW_none, errW_some] <;> rfl) | (simp [*, errW_none, errW_some] <;> rfl) | (rw [wrap64_wrap_add]; rfl) | (have e_ := Option.some.inj (A28.out.symm.trans A30.out); subst e_; rfl), by repeat (first | (with_reducible first | exact HB.out | apply below_alloc | apply pw_below_drewN | apply below_drew1) | exact HB.out)⟩
                                        · rw [if_neg c31] at H
                                          have c31b0 : decide ((wrap64 ((a0.size : Int) - x8_13)) < (((rd_T30 t165 x7_2).f1).size : Int)) = false := decide_eq_false c31
                                          clear c31
                                          by_cases c32 : 0 ≤ x8_13
                                          · rw [if_pos c32] at H
                                            have c32b0 := eq_true c32
                                            have c32b1 : decide (0 ≤ x8_13) = true := decide_eq_true c32
                                            clear c32
                                            by_cases c33 : x8_13 ≤ (wrap64 (x8_13 + (((rd_T30 t165 x7_2).f1).size : Int)))
                                            · rw [if_pos c33] at H
                                              have c33b0 := eq_true c33
                                              have c33b1 : decide (x8_13 ≤ (wrap64 (x8_13 + (((rd_T30 t165 x7_2).f1).size : Int)))) = true := decide_eq_true c33
                                              by_cases c34 : (wrap64 (x8_13 + (((rd_T30 t165 x7_2).f1).size : Int))) ≤ (a0.size : Int)
                                              · rw [if_pos c34] at H
                                                have c34b0 := eq_true c34
                                                have c34b1 : decide ((wrap64 (x8_13 + (((rd_T30 t165 x7_2).f1).size : Int))) ≤ (a0.size : Int)) = true := decide_eq_true c34
                                                by_cases c35 : (a0.extract (x8_13 : Int).toNat ((wrap64 (x8_13 + (((rd_T30 t165 x7_2).f1).size : Int))) : Int).toNat).toList = ((rd_T30 t165 x7_2).f1).toList
                                                · rw [if_pos c35] at H
                                                  have c35b0 : ((a0.extract (x8_13 : Int).toNat ((wrap64 (x8_13 + (((rd_T30 t165 x7_2).f1).size : Int))) : Int).toNat).toList == ((rd_T30 t165 x7_2).f1).toList) = true := beq_iff_eq.mpr c35
                                                  have c35b1 : ((a0.extract (x8_13 : Int).toNat ((wrap64 (x8_13 + (((rd_T30 t165 x7_2).f1).size : Int))) : Int).toNat).toList != ((rd_T30 t165 x7_2).f1).toList) = false := bne_eq_false_iff_eq.mpr c35
                                                  clear c35
                                                  have H' := Aside0.mk H
                                                  clear H
                                                  have p172 : 0 ≤ (x7_2 : Int) := of_decide_eq_true (by first | (with_reducible assumption) | assumption)
                                                  have q172 : x7_2 < (t165.length : Int) := of_decide_eq_true (by first | (with_reducible assumption) | assumption)
                                                  obtain ⟨ad172, e172, hx172_0, hx172_1, hx172_2⟩ := at_T30 (Kd.R_reads' HO_3.out).2.2 x7_2 p172 q172
                                                  cases e172
                                                  replace p172 := eq_true p172
                                                  replace q172 := eq_true q172
                                                  have p173 : 0 ≤ (x7_2 : Int) := of_decide_eq_true (by first | (with_reducible assumption) | assumption)
                                                  have q173 : x7_2 < (t165.length : Int) := of_decide_eq_true (by first | (with_reducible assumption) | assumption)
                                                  obtain ⟨ad173, e173, hx173_0, hx173_1, hx173_2⟩ := at_T30 (Kd.R_reads' HO_3.out).2.2 x7_2 p173 q173
                                                  obtain rfl : ad172 = ad173 := (by injection e173)
                                                  replace p173 := eq_true p173
                                                  replace q173 := eq_true q173
                                                  have p174 : 0 ≤ (x7_2 : Int) := of_decide_eq_true (by first | (with_reducible assumption) | assumption)
                                                  have q174 : x7_2 < (t165.length : Int) := of_decide_eq_true (by first | (with_reducible assumption) | assumption)
                                                  obtain ⟨ad174, e174, hx174_0, hx174_1, hx174_2⟩ := at_T30 (Kd.R_reads' HO_3.out).2.2 x7_2 p174 q174
                                                  obtain rfl : ad172 = ad174 := (by injection e174)
                                                  replace p174 := eq_true p174
                                                  replace q174 := eq_true q174
                                                  have p175 : 0 ≤ (x7_2 : Int) := of_decide_eq_true (by first | (with_reducible assumption) | assumption)
                                                  have q175 : x7_2 < (t165.length : Int) := of_decide_eq_true (by first | (with_reducible assumption) | assumption)
                                                  obtain ⟨ad175, e175, hx175_0, hx175_1, hx175_2⟩ := at_T30 (Kd.R_reads' HO_3.out).2.2 x7_2 p175 q175
                                                  obtain rfl : ad172 = ad175 := (by injection e175)
                                                  replace p175 := eq_true p175
                                                  replace q175 := eq_true q175
                                                  have p176 : 0 ≤ (x7_2 : Int) := of_decide_eq_true (by first | (with_reducible assumption) | assumption)
                                                  have q176 : x7_2 < (t165.length : Int) := of_decide_eq_true (by first | (with_reducible assumption) | assumption)
                                                  obtain ⟨ad176, e176, hx176_0, hx176_1, hx176_2⟩ := at_T30 (Kd.R_reads' HO_3.out).2.2 x7_2 p176 q176
                                                  obtain rfl : ad172 = ad176 := (by injection e176)
                                                  replace p176 := eq_true p176
                                                  replace q176 := eq_true q176
                                                  go_wp2
                                                  repeat (go_quiet (fail); try go_wp2)
                                                  go_roundg k5
                                                  case measure => have := HJ1.out; have := HK2.out; have := HJ13.out; have := HJ17.out; have := HK5.out; omega
                                                  case rel => exact ⟨(wrap64 (x8_13 + (((rd_T30 t165 x7_2).f1).size : Int))), (wrap64 (x7_2 + 1)), (by first | rfl | (simp; done) | (simp [*]; done)), (by first | rfl | (simp; done) | (simp [*]; done)), H', ⟨by have := HJ1.out; have := HK2.out; have := HJ13.out; have := HJ17.out; have := HK5.out; omega⟩, ⟨by (with_reducible repeat (first | apply Kd.R_alloc | apply Kd.R_drewN | apply Kd.R_drew)); exact HO_3.out⟩, ⟨by repeat (first | (with_reducible first | exact HB.out | apply below_alloc | apply pw_below_drewN | apply below_drew1) | exact HB.out)⟩⟩
                                                · rw [if_neg c35] at H
                                                  have c35b0 : ((a0.extract (x8_13 : Int).toNat ((wrap64 (x8_13 + (((rd_T30 t165 x7_2).f1).size : Int))) : Int).toNat).toList == ((rd_T30 t165 x7_2).f1).toList) = false := beq_eq_false_iff_ne.mpr c35
                                                  have c35b1 : ((a0.extract (x8_13 : Int).toNat ((wrap64 (x8_13 + (((rd_T30 t165 x7_2).f1).size : Int))) : Int).toNat).toList != ((rd_T30 t165 x7_2).f1).toList) = true := bne_iff_ne.mpr c35
                                                  obtain rfl := Option.some.inj H
                                                  have p172 : 0 ≤ (x7_2 : Int) := of_decide_eq_true (by first | (with_reducible assumption) | assumption)
                                                  have q172 : x7_2 < (t165.length : Int) := of_decide_eq_true (by first | (with_reducible assumption) | assumption)
                                                  obtain ⟨ad172, e172, hx172_0, hx172_1, hx172_2⟩ := at_T30 (Kd.R_reads' HO_3.out).2.2 x7_2 p172 q172
                                                  cases e172
                                                  replace p172 := eq_true p172
                                                  replace q172 := eq_true q172
                                                  have p173 : 0 ≤ (x7_2 : Int) := of_decide_eq_true (by first | (with_reducible assumption) | assumption)
                                                  have q173 : x7_2 < (t165.length : Int) := of_decide_eq_true (by first | (with_reducible assumption) | assumption)
                                                  obtain ⟨ad173, e173, hx173_0, hx173_1, hx173_2⟩ := at_T30 (Kd.R_reads' HO_3.out).2.2 x7_2 p173 q173
                                                  obtain rfl : ad172 = ad173 := (by injection e173)
                                                  replace p173 := eq_true p173
                                                  replace q173 := eq_true q173
                                                  have p174 : 0 ≤ (x7_2 : Int) := of_decide_eq_true (by first | (with_reducible assumption) | assumption)
                                                  have q174 : x7_2 < (t165.length : Int) := of_decide_eq_true (by first | (with_reducible assumption) | assumption)
                                                  obtain ⟨ad174, e174, hx174_0, hx174_1, hx174_2⟩ := at_T30 (Kd.R_reads' HO_3.out).2.2 x7_2 p174 q174
                                                  obtain rfl : ad172 = ad174 := (by injection e174)
                                                  replace p174 := eq_true p174
                                                  replace q174 := eq_true q174
                                                  have p175 : 0 ≤ (x7_2 : Int) := of_decide_eq_true (by first | (with_reducible assumption) | assumption)
                                                  have q175 : x7_2 < (t165.length : Int) := of_decide_eq_true (by first | (with_reducible assumption) | assumption)
                                                  obtain ⟨ad175, e175, hx175_0, hx175_1, hx175_2⟩ := at_T30 (Kd.R_reads' HO_3.out).2.2 x7_2 p175 q175
                                                  obtain rfl : ad172 = ad175 := (by injection e175)
                                                  replace p175 := eq_true p175
                                                  replace q175 := eq_true q175
                                                  go_wp2
                                                  repeat (go_quiet (fail); try go_wp2)
                                                  go_ret
                                                  exact ⟨by first | rfl | (simp [errW_none, errW_some] <;> rfl) | (simp [*, errW_none, errW_some] <;> rfl) | (rw [wrap64_wrap_add]; rfl) | (have e_ := Option.some.inj (A28.out.symm.trans A30.out); subst e_; rfl), by repeat (first | (with_reducible first | exact HB.out | apply below_alloc | apply pw_below_drewN | apply below_drew1) | exact HB.out)⟩
                                              · rw [if_neg c34] at H
                                                exact absurd H (by simp)
                                            · rw [if_neg c33] at H
                                              exact absurd H (by simp)
                                          · rw [if_neg c32] at H
                                            exact absurd H (by simp)
                                    · rw [if_neg c29] at H
                                      exact absurd H (by simp)
                                  · rw [if_neg c28] at H
                                    exact absurd H (by simp)
              · rw [if_neg c13] at H
                have c13b0 : decide (x7_2 ≤ (t165.length : Int)) = false := decide_eq_false c13
                clear c13
                obtain rfl := Option.some.inj H
                obtain ⟨Ao36, co36, eo36⟩ := Kd.R_slice HO_3.out
                subst eo36
                go_wp2
                repeat (go_quiet (fail); try go_wp2)
                go_ret
                exact ⟨by first | rfl | (simp [errW_none, errW_some] <;> rfl) | (simp [*, errW_none, errW_some] <;> rfl) | (rw [wrap64_wrap_add]; rfl) | (have e_ := Option.some.inj (A28.out.symm.trans A30.out); subst e_; rfl), by repeat (first | (with_reducible first | exact HB.out | apply below_alloc | apply pw_below_drewN | apply below_drew1) | exact HB.out)⟩
        · rw [if_neg c11] at H
          have c11b0 : (t167 == 0) = false := beq_eq_false_iff_ne.mpr c11
          have c11b1 : (t167 != 0) = true := bne_iff_ne.mpr c11
          obtain rfl := Option.some.inj H
          go_wp2_with (first | (go_at_call 13; (with_reducible refine (lexer_Lex.calls a0 t165 t166 t167 _ A10.out).mono ?_); rintro e w37 ⟨v168, rfl, ho0, hb⟩; have n0_ := Aside0.mk (Kd.R_lower ho0 (below_size (by repeat (first | (with_reducible first | exact HB.out | apply below_alloc | apply pw_below_drewN | apply below_drew1) | exact HB.out)))); have n1_ := Aside0.mk (below_step (by repeat (first | (with_reducible first | exact HB.out | apply below_alloc | apply pw_below_drewN | apply below_drew1) | exact HB.out)) hb); clear HB; have HO169 := n0_; have HB := n1_; clear n0_ n1_; (try clear hb); (try clear hb2); (try clear hk); (try clear hi); (try clear ho0); obtain ⟨Ao38, co38, eo38⟩ := Kd.R_slice HO169.out; subst eo38))
          repeat (go_quiet (first | (go_at_call 13; (with_reducible refine (lexer_Lex.calls a0 t165 t166 t167 _ A10.out).mono ?_); rintro e w37 ⟨v168, rfl, ho0, hb⟩; have n0_ := Aside0.mk (Kd.R_lower ho0 (below_size (by repeat (first | (with_reducible first | exact HB.out | apply below_alloc | apply pw_below_drewN | apply below_drew1) | exact HB.out)))); have n1_ := Aside0.mk (below_step (by repeat (first | (with_reducible first | exact HB.out | apply below_alloc | apply pw_below_drewN | apply below_drew1) | exact HB.out)) hb); clear HB; have HO169 := n0_; have HB := n1_; clear n0_ n1_; (try clear hb); (try clear hb2); (try clear hk); (try clear hi); (try clear ho0); obtain ⟨Ao38, co38, eo38⟩ := Kd.R_slice HO169.out; subst eo38)); try go_wp2_with (first | (go_at_call 13; (with_reducible refine (lexer_Lex.calls a0 t165 t166 t167 _ A10.out).mono ?_); rintro e w37 ⟨v168, rfl, ho0, hb⟩; have n0_ := Aside0.mk (Kd.R_lower ho0 (below_size (by repeat (first | (with_reducible first | exact HB.out | apply below_alloc | apply pw_below_drewN | apply below_drew1) | exact HB.out)))); have n1_ := Aside0.mk (below_step (by repeat (first | (with_reducible first | exact HB.out | apply below_alloc | apply pw_below_drewN | apply below_drew1) | exact HB.out)) hb); clear HB; have HO169 := n0_; have HB := n1_; clear n0_ n1_; (try clear hb); (try clear hb2); (try clear hk); (try clear hi); (try clear ho0); obtain ⟨Ao38, co38, eo38⟩ := Kd.R_slice HO169.out; subst eo38)))
          go_ret
          exact ⟨by first | rfl | (simp [errW_none, errW_some] <;> rfl) | (simp [*, errW_none, errW_some] <;> rfl) | (rw [wrap64_wrap_add]; rfl) | (have e_ := Option.some.inj (A28.out.symm.trans A30.out); subst e_; rfl), by repeat (first | (with_reducible first | exact HB.out | apply below_alloc | apply pw_below_drewN | apply below_drew1) | exact HB.out)⟩

/-- THE ONE PURE STATEMENT of cylinderlaw35_LexerPlaces: yours. -/
def cylinderlaw35_LexerPlaces.Pure : Prop := ∀ (a0 : ByteArray), a0.size ≤ 140737488351232 → ∃ k, cylinderlaw35_LexerPlaces.f k a0 = some true
theorem cylinderlaw35_LexerPlaces.walk (P : cylinderlaw35_LexerPlaces.Pure) (a0 : ByteArray) (w : World) (w0 : a0.size ≤ 140737488351232) :
    Calls Try.prog 4 #[.string a0] w fun e w' => e = .returned (.bool true) ∧ Below w.heap.size w w' := by
  obtain ⟨k, h⟩ := P a0 w0
  refine (cylinderlaw35_LexerPlaces.calls k a0 true w h).mono ?_
  rintro e w' ⟨rfl, hd⟩
  exact ⟨rfl, hd⟩

end Go.Proofs.Ytkomgnaleocleaa.PAll
