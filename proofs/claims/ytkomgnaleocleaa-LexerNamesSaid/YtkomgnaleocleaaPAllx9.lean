-- printed by wip/tools/xprint.py (the kit's print program, with stubs); checked by Lean
import Derived.Test.YtkomgnaleocleaaPAllx0
import Derived.Test.YtkomgnaleocleaaPAllx2
import Derived.Test.YtkomgnaleocleaaPAllx8
import Derived.Test.YtkomgnaleocleaaLex
namespace Go.Proofs.Ytkomgnaleocleaa.PAll
open Go.RowKit Go.Proofs.YtkomgnaleocleaaW.PrintWords Go.Proofs.YtkomgnaleocleaaW.PrintLast Go.Proofs.YtkomgnaleocleaaW.PrintMore
attribute [local go_sem] max2_int min2_int max_two min_two max_three min_three max_four min_four   -- for this text's walks alone
set_option linter.unusedVariables false
set_option linter.unusedSimpArgs false

/-! ### cylinderlaw35_LexerNames: function 10 -/
mutual
def cylinderlaw35_LexerNames.j0 : Nat → ByteArray → Bool → Option (Bool)
  | 0, _, _ => none
  | k + 1, x0, x15 => if x15 = true then ((cylinderlaw35_awake.f).bind fun t222 => (some t222)) else ((lexer_Lex.f x0).bind fun bt223 => (if bt223.2.2 = 0 then (if (bt223.1.length : Int) = 1 then (if 0 < (bt223.1.length : Int) then (cylinderlaw35_LexerNames.j1 k x0 bt223.1 (((rd_T30 bt223.1 0).f1).toList == x0.toList)) else (none)) else (cylinderlaw35_LexerNames.j1 k x0 bt223.1 false)) else (cylinderlaw35_LexerNames.j1 k x0 bt223.1 false)))
def cylinderlaw35_LexerNames.j1 : Nat → ByteArray → List (S30) → Bool → Option (Bool)
  | 0, _, _, _ => none
  | k + 1, x0, x3, x6 => if x6 = true then (if 0 < (x3.length : Int) then (cylinderlaw35_LexerNames.j2 k x0 x3 x6 (((rd_T30 x3 0).f0) == 2)) else (none)) else (cylinderlaw35_LexerNames.j2 k x0 x3 x6 false)
def cylinderlaw35_LexerNames.j2 : Nat → ByteArray → List (S30) → Bool → Bool → Option (Bool)
  | 0, _, _, _, _ => none
  | k + 1, x0, x3, x6, x7 => if x6 = true then (if 0 < (x3.length : Int) then (cylinderlaw35_LexerNames.j3 k x0 x7 (((rd_T30 x3 0).f0) == 3)) else (none)) else (cylinderlaw35_LexerNames.j3 k x0 x7 false)
def cylinderlaw35_LexerNames.j3 : Nat → ByteArray → Bool → Bool → Option (Bool)
  | 0, _, _, _ => none
  | k + 1, x0, x7, x8 => (formula_Valid.f k x0).bind fun t231 => (if (x7 == t231) = true then ((lexer_IsWord.f x0).bind fun t232 => (if (x8 == t232) = true then ((lexer_IsWord.f x0).bind fun t233 => ((cylinderref35_IsWord.f k x0).bind fun t234 => (some (t233 == t234)))) else (some false))) else (some false))
end
def cylinderlaw35_LexerNames.f (k : Nat) (a0 : ByteArray) : Option (Bool) := (cylinderlaw35_awake.f).bind fun t221 => (if t221 = true then (cylinderlaw35_LexerNames.j0 k a0 (decide ((a0.size : Int) > 40))) else (cylinderlaw35_LexerNames.j0 k a0 true))
theorem cylinderlaw35_LexerNames.mono_l : ∀ k, (∀ y0 y1, LeO (cylinderlaw35_LexerNames.j0 k y0 y1) (cylinderlaw35_LexerNames.j0 (k + 1) y0 y1)) ∧ (∀ y0 y1 y2, LeO (cylinderlaw35_LexerNames.j1 k y0 y1 y2) (cylinderlaw35_LexerNames.j1 (k + 1) y0 y1 y2)) ∧ (∀ y0 y1 y2 y3, LeO (cylinderlaw35_LexerNames.j2 k y0 y1 y2 y3) (cylinderlaw35_LexerNames.j2 (k + 1) y0 y1 y2 y3)) ∧ (∀ y0 y1 y2, LeO (cylinderlaw35_LexerNames.j3 k y0 y1 y2) (cylinderlaw35_LexerNames.j3 (k + 1) y0 y1 y2))
  | 0 => ⟨fun _ _ r h => by simp [cylinderlaw35_LexerNames.j0] at h, fun _ _ _ r h => by simp [cylinderlaw35_LexerNames.j1] at h, fun _ _ _ _ r h => by simp [cylinderlaw35_LexerNames.j2] at h, fun _ _ _ r h => by simp [cylinderlaw35_LexerNames.j3] at h⟩
  | k + 1 => by
    obtain ⟨ih0, ih1, ih2, ih3⟩ := cylinderlaw35_LexerNames.mono_l k
    refine ⟨?_, ?_, ?_, ?_⟩
    · intro y0 y1
      unfold cylinderlaw35_LexerNames.j0
      repeat' first
      | (with_reducible exact ih0 _ _)
      | (with_reducible exact ih1 _ _ _)
      | (with_reducible exact ih2 _ _ _ _)
      | (with_reducible exact ih3 _ _ _)
      | (with_reducible exact cylinderref35_IsWord.mono _ _)
      | (with_reducible exact formula_Valid.mono _ _)
      | (with_reducible exact LeO.refl _)
      | (with_reducible exact LeO.none _)
      | (with_reducible refine LeO.ite ?_ ?_)
      | (with_reducible refine LeO.bind ?_ (fun _ => ?_))
      | exact ih0 _ _
      | exact ih1 _ _ _
      | exact ih2 _ _ _ _
      | exact ih3 _ _ _
      | exact cylinderref35_IsWord.mono _ _
      | exact formula_Valid.mono _ _
      | exact LeO.none _
      | refine LeO.ite ?_ ?_
      | refine LeO.bind ?_ (fun _ => ?_)
    · intro y0 y1 y2
      unfold cylinderlaw35_LexerNames.j1
      repeat' first
      | (with_reducible exact ih0 _ _)
      | (with_reducible exact ih1 _ _ _)
      | (with_reducible exact ih2 _ _ _ _)
      | (with_reducible exact ih3 _ _ _)
      | (with_reducible exact cylinderref35_IsWord.mono _ _)
      | (with_reducible exact formula_Valid.mono _ _)
      | (with_reducible exact LeO.refl _)
      | (with_reducible exact LeO.none _)
      | (with_reducible refine LeO.ite ?_ ?_)
      | (with_reducible refine LeO.bind ?_ (fun _ => ?_))
      | exact ih0 _ _
      | exact ih1 _ _ _
      | exact ih2 _ _ _ _
      | exact ih3 _ _ _
      | exact cylinderref35_IsWord.mono _ _
      | exact formula_Valid.mono _ _
      | exact LeO.none _
      | refine LeO.ite ?_ ?_
      | refine LeO.bind ?_ (fun _ => ?_)
    · intro y0 y1 y2 y3
      unfold cylinderlaw35_LexerNames.j2
      repeat' first
      | (with_reducible exact ih0 _ _)
      | (with_reducible exact ih1 _ _ _)
      | (with_reducible exact ih2 _ _ _ _)
      | (with_reducible exact ih3 _ _ _)
      | (with_reducible exact cylinderref35_IsWord.mono _ _)
      | (with_reducible exact formula_Valid.mono _ _)
      | (with_reducible exact LeO.refl _)
      | (with_reducible exact LeO.none _)
      | (with_reducible refine LeO.ite ?_ ?_)
      | (with_reducible refine LeO.bind ?_ (fun _ => ?_))
      | exact ih0 _ _
      | exact ih1 _ _ _
      | exact ih2 _ _ _ _
      | exact ih3 _ _ _
      | exact cylinderref35_IsWord.mono _ _
      | exact formula_Valid.mono _ _
      | exact LeO.none _
      | refine LeO.ite ?_ ?_
      | refine LeO.bind ?_ (fun _ => ?_)
    · intro y0 y1 y2
      unfold cylinderlaw35_LexerNames.j3
      repeat' first
      | (with_reducible exact ih0 _ _)
      | (with_reducible exact ih1 _ _ _)
      | (with_reducible exact ih2 _ _ _ _)
      | (with_reducible exact ih3 _ _ _)
      | (with_reducible exact cylinderref35_IsWord.mono _ _)
      | (with_reducible exact formula_Valid.mono _ _)
      | (with_reducible exact LeO.refl _)
      | (with_reducible exact LeO.none _)
      | (with_reducible refine LeO.ite ?_ ?_)
      | (with_reducible refine LeO.bind ?_ (fun _ => ?_))
      | exact ih0 _ _
      | exact ih1 _ _ _
      | exact ih2 _ _ _ _
      | exact ih3 _ _ _
      | exact cylinderref35_IsWord.mono _ _
      | exact formula_Valid.mono _ _
      | exact LeO.none _
      | refine LeO.ite ?_ ?_
      | refine LeO.bind ?_ (fun _ => ?_)
theorem cylinderlaw35_LexerNames.mono : ∀ a0 k, LeO (cylinderlaw35_LexerNames.f k a0) (cylinderlaw35_LexerNames.f (k + 1) a0) := by
  intro a0 k
  obtain ⟨ih0, ih1, ih2, ih3⟩ := cylinderlaw35_LexerNames.mono_l k
  unfold cylinderlaw35_LexerNames.f
  repeat' first
      | (with_reducible exact ih0 _ _)
      | (with_reducible exact ih1 _ _ _)
      | (with_reducible exact ih2 _ _ _ _)
      | (with_reducible exact ih3 _ _ _)
      | (with_reducible exact cylinderref35_IsWord.mono _ _)
      | (with_reducible exact formula_Valid.mono _ _)
      | (with_reducible exact LeO.refl _)
      | (with_reducible exact LeO.none _)
      | (with_reducible refine LeO.ite ?_ ?_)
      | (with_reducible refine LeO.bind ?_ (fun _ => ?_))
      | exact ih0 _ _
      | exact ih1 _ _ _
      | exact ih2 _ _ _ _
      | exact ih3 _ _ _
      | exact cylinderref35_IsWord.mono _ _
      | exact formula_Valid.mono _ _
      | exact LeO.none _
      | refine LeO.ite ?_ ?_
      | refine LeO.bind ?_ (fun _ => ?_)
set_option maxHeartbeats 8000000 in
set_option maxRecDepth 100000 in
theorem cylinderlaw35_LexerNames.calls (k : Nat) (a0 : ByteArray) (r : Bool) (w : World) (h : cylinderlaw35_LexerNames.f k a0 = some r) :
    Calls Try.prog 10 #[.string a0] w fun e w' => e = .returned (.bool r) ∧ Below w.heap.size w w' := by
  have HB := Aside0.mk (Below.refl w.heap.size w)
  have H : ((cylinderlaw35_awake.f).bind fun t221 => (if t221 = true then (cylinderlaw35_LexerNames.j0 k a0 (decide ((a0.size : Int) > 40))) else (cylinderlaw35_LexerNames.j0 k a0 true))) = some r := h
  clear h
  have HC2 := Aside0.mk H
  clear H
  go_enter Try.func10, Try.ntmps10
  go_upto_region 1 with (fail)
  go_cut [15] (fun v15 wc => ∃ (kq : Nat) (x15_1 : Bool), v15 = .bool x15_1 ∧ Aside0 (cylinderlaw35_LexerNames.j0 kq a0 x15_1 = some r) ∧ Aside0 (kq ≤ k) ∧ Aside0 (Below w.heap.size w wc))
  case first =>
    have H := HC2.out
    clear HC2
    replace H := Option.bind_eq_some_iff.mp H
    obtain ⟨t221, A30, H⟩ := H
    replace H : (if t221 = true then (cylinderlaw35_LexerNames.j0 k a0 (decide ((a0.size : Int) > 40))) else (cylinderlaw35_LexerNames.j0 k a0 true)) = some r := H
    have A3 := Aside0.mk A30
    clear A30
    by_cases c4 : t221 = true
    · subst c4
      have H1 : (cylinderlaw35_LexerNames.j0 k a0 (decide ((a0.size : Int) > 40))) = some r := by rw [if_pos rfl] at H; exact H
      clear H
      have H := H1
      clear H1
      have H' := Aside0.mk H
      clear H
      go_wp2_with (first | ((with_reducible refine gate_callee (f := 12) rfl ?_); refine goesL_ (some 9) rfl rfl Try.func12 (by kernel_rfl) rfl #[] rfl (by (try simp only [List.map_toArray, List.map_cons, List.map_nil]); first | done | rfl | (simp only [List.length_drop, List.length_take]; rfl)) ?_; (with_reducible refine (cylinderlaw35_awake.calls  true _ A3.out).mono ?_); rintro e w5 ⟨rfl, hb⟩; refine ⟨_, rfl, ?_⟩; have n0_ := Aside0.mk (below_step (by repeat (first | (with_reducible first | exact HB.out | apply below_alloc | apply pw_below_drewN | apply below_drew1) | exact HB.out)) hb); clear HB; have HB := n0_; clear n0_; (try clear hb); (try clear hb2); (try clear hk); (try clear hi)))
      go_meet
      case rel => exact ⟨_, (decide ((a0.size : Int) > 40)), (by first | rfl | (simp; done) | (simp [*]; done)), H', ⟨by first | omega | exact Nat.le_refl _⟩, ⟨by repeat (first | (with_reducible first | exact HB.out | apply below_alloc | apply pw_below_drewN | apply below_drew1) | exact HB.out)⟩⟩
    · replace c4 := Bool.eq_false_iff.mpr c4
      subst c4
      have H1 : (cylinderlaw35_LexerNames.j0 k a0 true) = some r := by rw [if_neg (show ¬ (false = true) by decide)] at H; exact H
      clear H
      have H := H1
      clear H1
      have H' := Aside0.mk H
      clear H
      go_wp2_with (first | ((with_reducible refine gate_callee (f := 12) rfl ?_); refine goesL_ (some 9) rfl rfl Try.func12 (by kernel_rfl) rfl #[] rfl (by (try simp only [List.map_toArray, List.map_cons, List.map_nil]); first | done | rfl | (simp only [List.length_drop, List.length_take]; rfl)) ?_; (with_reducible refine (cylinderlaw35_awake.calls  false _ A3.out).mono ?_); rintro e w6 ⟨rfl, hb⟩; refine ⟨_, rfl, ?_⟩; have n0_ := Aside0.mk (below_step (by repeat (first | (with_reducible first | exact HB.out | apply below_alloc | apply pw_below_drewN | apply below_drew1) | exact HB.out)) hb); clear HB; have HB := n0_; clear n0_; (try clear hb); (try clear hb2); (try clear hk); (try clear hi)))
      go_meet
      case rel => exact ⟨_, (true), (by first | rfl | (simp; done) | (simp [*]; done)), H', ⟨by first | omega | exact Nat.le_refl _⟩, ⟨by repeat (first | (with_reducible first | exact HB.out | apply below_alloc | apply pw_below_drewN | apply below_drew1) | exact HB.out)⟩⟩
  case rest =>
    clear HC2
    try clear c1
    try clear p2
    try clear c4
    obtain ⟨kq, x15_1, rfl, HA, HJ1, HB⟩ := hcut
    cases kq with
    | zero => exact absurd HA.out (by simp [cylinderlaw35_LexerNames.j0])
    | succ kj1 =>
      have H := HA.out
      clear HA
      simp only [cylinderlaw35_LexerNames.j0] at H
      by_cases c7 : x15_1 = true
      · subst c7
        have H1 : ((cylinderlaw35_awake.f).bind fun t222 => (some t222)) = some r := by rw [if_pos rfl] at H; exact H
        clear H
        have H := H1
        clear H1
        replace H := Option.bind_eq_some_iff.mp H
        obtain ⟨t222, A80, H⟩ := H
        replace H : (some t222) = some r := H
        have A8 := Aside0.mk A80
        clear A80
        obtain rfl := Option.some.inj H
        go_wp2_with (first | ((with_reducible refine gate_callee (f := 12) rfl ?_); refine goesL_ (some 16) rfl rfl Try.func12 (by kernel_rfl) rfl #[] rfl (by (try simp only [List.map_toArray, List.map_cons, List.map_nil]); first | done | rfl | (simp only [List.length_drop, List.length_take]; rfl)) ?_; (with_reducible refine (cylinderlaw35_awake.calls  t222 _ A8.out).mono ?_); rintro e w9 ⟨rfl, hb⟩; refine ⟨_, rfl, ?_⟩; have n0_ := Aside0.mk (below_step (by repeat (first | (with_reducible first | exact HB.out | apply below_alloc | apply pw_below_drewN | apply below_drew1) | exact HB.out)) hb); clear HB; have HB := n0_; clear n0_; (try clear hb); (try clear hb2); (try clear hk); (try clear hi)))
        go_ret
        exact ⟨by first | rfl | (simp [errW_none, errW_some] <;> rfl) | (simp [*, errW_none, errW_some] <;> rfl) | (rw [wrap64_wrap_add]; rfl) | (have e_ := Option.some.inj (A28.out.symm.trans A30.out); subst e_; rfl), by repeat (first | (with_reducible first | exact HB.out | apply below_alloc | apply pw_below_drewN | apply below_drew1) | exact HB.out)⟩
      · replace c7 := Bool.eq_false_iff.mpr c7
        subst c7
        have H1 : ((lexer_Lex.f a0).bind fun bt223 => (if bt223.2.2 = 0 then (if (bt223.1.length : Int) = 1 then (if 0 < (bt223.1.length : Int) then (cylinderlaw35_LexerNames.j1 kj1 a0 bt223.1 (((rd_T30 bt223.1 0).f1).toList == a0.toList)) else (none)) else (cylinderlaw35_LexerNames.j1 kj1 a0 bt223.1 false)) else (cylinderlaw35_LexerNames.j1 kj1 a0 bt223.1 false))) = some r := by rw [if_neg (show ¬ (false = true) by decide)] at H; exact H
        clear H
        have H := H1
        clear H1
        replace H := Option.bind_eq_some_iff.mp H
        obtain ⟨⟨t223, t224, t225⟩, A100, H⟩ := H
        replace H : (if t225 = 0 then (if (t223.length : Int) = 1 then (if 0 < (t223.length : Int) then (cylinderlaw35_LexerNames.j1 kj1 a0 t223 (((rd_T30 t223 0).f1).toList == a0.toList)) else (none)) else (cylinderlaw35_LexerNames.j1 kj1 a0 t223 false)) else (cylinderlaw35_LexerNames.j1 kj1 a0 t223 false)) = some r := H
        have A10 := Aside0.mk A100
        clear A100
        have HC11 := Aside0.mk H
        clear H
        go_upto_region 4 with (first | ((with_reducible refine gate_callee (f := 13) rfl ?_); refine goesL_ (some 19) rfl rfl Try.func13 (by kernel_rfl) rfl #[.string a0] rfl (by (try simp only [List.map_toArray, List.map_cons, List.map_nil]); first | done | rfl | (simp only [List.length_drop, List.length_take]; rfl)) ?_; (with_reducible refine (lexer_Lex.calls a0 t223 t224 t225 _ A10.out).mono ?_); rintro e w12 ⟨v226, rfl, ho0, hb⟩; refine ⟨_, rfl, ?_⟩; have n0_ := Aside0.mk (Kd.R_lower ho0 (below_size (by repeat (first | (with_reducible first | exact HB.out | apply below_alloc | apply pw_below_drewN | apply below_drew1) | exact HB.out)))); have n1_ := Aside0.mk (below_step (by repeat (first | (with_reducible first | exact HB.out | apply below_alloc | apply pw_below_drewN | apply below_drew1) | exact HB.out)) hb); clear HB; have HO227 := n0_; have HB := n1_; clear n0_ n1_; (try clear hb); (try clear hb2); (try clear hk); (try clear hi); (try clear ho0)))
        (try simp only [Act.put, List.setIfInBounds_toArray, List.set_cons_zero, List.set_cons_succ])
        go_cut [6] (fun v6 wc => ∃ (kq : Nat) (x6_10 : Bool), v6 = .bool x6_10 ∧ Aside0 (cylinderlaw35_LexerNames.j1 kq a0 t223 x6_10 = some r) ∧ Aside0 (kq ≤ kj1) ∧ Aside0 (Kd.R k30 30 wc w.heap.size (fun _ => True) v226 t223) ∧ Aside0 (Below w.heap.size w wc))
        case first =>
          have H := HC11.out
          clear HC11
          by_cases c13 : t225 = 0
          · rw [if_pos c13] at H
            have c13b0 : (t225 == 0) = true := beq_iff_eq.mpr c13
            have c13b1 : (t225 != 0) = false := bne_eq_false_iff_eq.mpr c13
            clear c13
            (first | rw [c13b0] | (simp only [i64_w, i32_w]; rw [c13b0]) | skip)
            by_cases c14 : (t223.length : Int) = 1
            · rw [if_pos c14] at H
              have c14b0 : ((t223.length : Int) == 1) = true := beq_iff_eq.mpr c14
              have c14b1 : ((t223.length : Int) != 1) = false := bne_eq_false_iff_eq.mpr c14
              clear c14
              by_cases c15 : 0 < (t223.length : Int)
              · rw [if_pos c15] at H
                have c15b0 : decide (0 < (t223.length : Int)) = true := decide_eq_true c15
                have c15b1 : decide (0 < t223.length) = true := decide_eq_true (by omega)
                clear c15
                have H' := Aside0.mk H
                clear H
                obtain ⟨Ao16, co16, eo16⟩ := Kd.R_slice HO227.out
                subst eo16
                have p228 : 0 ≤ (0 : Int) := (by omega)
                have q228 : 0 < (t223.length : Int) := of_decide_eq_true (by first | (with_reducible assumption) | assumption)
                obtain ⟨ad228, e228, hx228_0, hx228_1, hx228_2⟩ := at_T30 (Kd.R_reads' HO227.out).2.2 0 p228 q228
                cases e228
                have qi228 : (0 < t223.length) = True := eq_true (by omega)
                (try rw [show ((0 : Int)).toNat = 0 from rfl] at hx228_0)
                (try rw [show 0 * 3 = 0 from rfl] at hx228_0)
                (try rw [Addr.add_zero'] at hx228_0)
                (try rw [show ((0 : Int)).toNat = 0 from rfl] at hx228_1)
                (try rw [show 0 * 3 = 0 from rfl] at hx228_1)
                (try rw [Addr.add_zero'] at hx228_1)
                (try rw [show ((0 : Int)).toNat = 0 from rfl] at hx228_2)
                (try rw [show 0 * 3 = 0 from rfl] at hx228_2)
                (try rw [Addr.add_zero'] at hx228_2)
                replace p228 := eq_true p228
                replace q228 := eq_true q228
                go_wp2
                go_meet
                case rel => exact ⟨_, ((((rd_T30 t223 0).f1).toList == a0.toList)), (by first | rfl | (simp; done) | (simp [*]; done)), H', ⟨by have := HJ1.out; first | omega | exact Nat.le_refl _⟩, ⟨by (with_reducible repeat (first | apply Kd.R_alloc | apply Kd.R_drewN | apply Kd.R_drew)); exact HO227.out⟩, ⟨by repeat (first | (with_reducible first | exact HB.out | apply below_alloc | apply pw_below_drewN | apply below_drew1) | exact HB.out)⟩⟩
              · rw [if_neg c15] at H
                exact absurd H (by simp)
            · rw [if_neg c14] at H
              have c14b0 : ((t223.length : Int) == 1) = false := beq_eq_false_iff_ne.mpr c14
              have c14b1 : ((t223.length : Int) != 1) = true := bne_iff_ne.mpr c14
              have H' := Aside0.mk H
              clear H
              obtain ⟨Ao17, co17, eo17⟩ := Kd.R_slice HO227.out
              subst eo17
              go_wp2
              go_meet
              case rel => exact ⟨_, (false), (by first | rfl | (simp; done) | (simp [*]; done)), H', ⟨by have := HJ1.out; first | omega | exact Nat.le_refl _⟩, ⟨by (with_reducible repeat (first | apply Kd.R_alloc | apply Kd.R_drewN | apply Kd.R_drew)); exact HO227.out⟩, ⟨by repeat (first | (with_reducible first | exact HB.out | apply below_alloc | apply pw_below_drewN | apply below_drew1) | exact HB.out)⟩⟩
          · rw [if_neg c13] at H
            have c13b0 : (t225 == 0) = false := beq_eq_false_iff_ne.mpr c13
            have c13b1 : (t225 != 0) = true := bne_iff_ne.mpr c13
            (first | rw [c13b0] | (simp only [i64_w, i32_w]; rw [c13b0]) | skip)
            have H' := Aside0.mk H
            clear H
            go_wp2
            go_meet
            case rel => exact ⟨_, (false), (by first | rfl | (simp; done) | (simp [*]; done)), H', ⟨by have := HJ1.out; first | omega | exact Nat.le_refl _⟩, ⟨by (with_reducible repeat (first | apply Kd.R_alloc | apply Kd.R_drewN | apply Kd.R_drew)); exact HO227.out⟩, ⟨by repeat (first | (with_reducible first | exact HB.out | apply below_alloc | apply pw_below_drewN | apply below_drew1) | exact HB.out)⟩⟩
        case rest =>
          clear HC11
          try clear c1
          try clear p2
          try clear q2
          try clear hx2
          try clear qi2
          try clear c4
          try clear c7
          try clear c10
          try clear c12
          try clear c13
          try clear c13b0
          try clear c13b1
          try clear c14
          try clear c14b0
          try clear c14b1
          try clear c15
          try clear c15b0
          try clear c15b1
          try clear hx228_0
          try clear hx228_1
          try clear hx228_2
          try clear p2
          try clear p228
          try clear q228
          obtain ⟨kq, x6_10, rfl, HA, HJ10, HO_3, HB⟩ := hcut
          cases kq with
          | zero => exact absurd HA.out (by simp [cylinderlaw35_LexerNames.j1])
          | succ kj10 =>
            have H := HA.out
            clear HA
            simp only [cylinderlaw35_LexerNames.j1] at H
            have HC18 := Aside0.mk H
            clear H
            go_upto_region 5 with (fail)
            go_cut [7] (fun v7 wc => ∃ (kq : Nat) (x7_17 : Bool), v7 = .bool x7_17 ∧ Aside0 (cylinderlaw35_LexerNames.j2 kq a0 t223 x6_10 x7_17 = some r) ∧ Aside0 (kq ≤ kj10) ∧ Aside0 (Kd.R k30 30 wc w.heap.size (fun _ => True) v226 t223) ∧ Aside0 (Below w.heap.size w wc))
            case first =>
              have H := HC18.out
              clear HC18
              by_cases c19 : x6_10 = true
              · subst c19
                have H1 : (if 0 < (t223.length : Int) then (cylinderlaw35_LexerNames.j2 kj10 a0 t223 true (((rd_T30 t223 0).f0) == 2)) else (none)) = some r := by rw [if_pos rfl] at H; exact H
                clear H
                have H := H1
                clear H1
                by_cases c20 : 0 < (t223.length : Int)
                · rw [if_pos c20] at H
                  have c20b0 : decide (0 < (t223.length : Int)) = true := decide_eq_true c20
                  have c20b1 : decide (0 < t223.length) = true := decide_eq_true (by omega)
                  clear c20
                  (first | rw [c20b0] | (simp only [i64_w, i32_w]; rw [c20b0]) | skip)
                  have H' := Aside0.mk H
                  clear H
                  obtain ⟨Ao21, co21, eo21⟩ := Kd.R_slice HO_3.out
                  subst eo21
                  have p229 : 0 ≤ (0 : Int) := (by omega)
                  have q229 : 0 < (t223.length : Int) := of_decide_eq_true (by first | (with_reducible assumption) | assumption)
                  obtain ⟨ad229, e229, hx229_0, hx229_1, hx229_2⟩ := at_T30 (Kd.R_reads' HO_3.out).2.2 0 p229 q229
                  cases e229
                  have qi229 : (0 < t223.length) = True := eq_true (by omega)
                  (try rw [show ((0 : Int)).toNat = 0 from rfl] at hx229_0)
                  (try rw [show 0 * 3 = 0 from rfl] at hx229_0)
                  (try rw [Addr.add_zero'] at hx229_0)
                  (try rw [show ((0 : Int)).toNat = 0 from rfl] at hx229_1)
                  (try rw [show 0 * 3 = 0 from rfl] at hx229_1)
                  (try rw [Addr.add_zero'] at hx229_1)
                  (try rw [show ((0 : Int)).toNat = 0 from rfl] at hx229_2)
                  (try rw [show 0 * 3 = 0 from rfl] at hx229_2)
                  (try rw [Addr.add_zero'] at hx229_2)
                  replace p229 := eq_true p229
                  replace q229 := eq_true q229
                  go_wp2
                  go_meet
                  case rel => exact ⟨_, ((((rd_T30 t223 0).f0) == 2)), (by first | rfl | (simp; done) | (simp [*]; done)), H', ⟨by have := HJ1.out; have := HJ10.out; first | omega | exact Nat.le_refl _⟩, ⟨by (with_reducible repeat (first | apply Kd.R_alloc | apply Kd.R_drewN | apply Kd.R_drew)); exact HO_3.out⟩, ⟨by repeat (first | (with_reducible first | exact HB.out | apply below_alloc | apply pw_below_drewN | apply below_drew1) | exact HB.out)⟩⟩
                · rw [if_neg c20] at H
                  exact absurd H (by simp)
              · replace c19 := Bool.eq_false_iff.mpr c19
                subst c19
                have H1 : (cylinderlaw35_LexerNames.j2 kj10 a0 t223 false false) = some r := by rw [if_neg (show ¬ (false = true) by decide)] at H; exact H
                clear H
                have H := H1
                clear H1
                have H' := Aside0.mk H
                clear H
                go_wp2
                go_meet
                case rel => exact ⟨_, (false), (by first | rfl | (simp; done) | (simp [*]; done)), H', ⟨by have := HJ1.out; have := HJ10.out; first | omega | exact Nat.le_refl _⟩, ⟨by (with_reducible repeat (first | apply Kd.R_alloc | apply Kd.R_drewN | apply Kd.R_drew)); exact HO_3.out⟩, ⟨by repeat (first | (with_reducible first | exact HB.out | apply below_alloc | apply pw_below_drewN | apply below_drew1) | exact HB.out)⟩⟩
            case rest =>
              clear HC18
              try clear c1
              try clear c2
              try clear p2
              try clear q2
              try clear hx2
              try clear qi2
              try clear c4
              try clear c7
              try clear c10
              try clear c12
              try clear c13
              try clear c13b0
              try clear c13b1
              try clear c14
              try clear c14b0
              try clear c14b1
              try clear c15
              try clear c15b0
              try clear c15b1
              try clear c19
              try clear c20
              try clear c20b0
              try clear c20b1
              try clear hx228_0
              try clear hx228_1
              try clear hx228_2
              try clear hx229_0
              try clear hx229_1
              try clear hx229_2
              try clear p2
              try clear p228
              try clear p229
              try clear q2
              try clear q228
              try clear q229
              obtain ⟨kq, x7_17, rfl, HA, HJ17, HO_3, HB⟩ := hcut
              cases kq with
              | zero => exact absurd HA.out (by simp [cylinderlaw35_LexerNames.j2])
              | succ kj17 =>
                have H := HA.out
                clear HA
                simp only [cylinderlaw35_LexerNames.j2] at H
                have HC22 := Aside0.mk H
                clear H
                go_upto_region 6 with (fail)
                go_cut [8] (fun v8 wc => ∃ (kq : Nat) (x8_21 : Bool), v8 = .bool x8_21 ∧ Aside0 (cylinderlaw35_LexerNames.j3 kq a0 x7_17 x8_21 = some r) ∧ Aside0 (kq ≤ kj17) ∧ Aside0 (Below w.heap.size w wc))
                case first =>
                  have H := HC22.out
                  clear HC22
                  by_cases c23 : x6_10 = true
                  · subst c23
                    have H1 : (if 0 < (t223.length : Int) then (cylinderlaw35_LexerNames.j3 kj17 a0 x7_17 (((rd_T30 t223 0).f0) == 3)) else (none)) = some r := by rw [if_pos rfl] at H; exact H
                    clear H
                    have H := H1
                    clear H1
                    by_cases c24 : 0 < (t223.length : Int)
                    · rw [if_pos c24] at H
                      have c24b0 : decide (0 < (t223.length : Int)) = true := decide_eq_true c24
                      have c24b1 : decide (0 < t223.length) = true := decide_eq_true (by omega)
                      clear c24
                      (first | rw [c24b0] | (simp only [i64_w, i32_w]; rw [c24b0]) | skip)
                      have H' := Aside0.mk H
                      clear H
                      obtain ⟨Ao25, co25, eo25⟩ := Kd.R_slice HO_3.out
                      subst eo25
                      have p230 : 0 ≤ (0 : Int) := (by omega)
                      have q230 : 0 < (t223.length : Int) := of_decide_eq_true (by first | (with_reducible assumption) | assumption)
                      obtain ⟨ad230, e230, hx230_0, hx230_1, hx230_2⟩ := at_T30 (Kd.R_reads' HO_3.out).2.2 0 p230 q230
                      cases e230
                      have qi230 : (0 < t223.length) = True := eq_true (by omega)
                      (try rw [show ((0 : Int)).toNat = 0 from rfl] at hx230_0)
                      (try rw [show 0 * 3 = 0 from rfl] at hx230_0)
                      (try rw [Addr.add_zero'] at hx230_0)
                      (try rw [show ((0 : Int)).toNat = 0 from rfl] at hx230_1)
                      (try rw [show 0 * 3 = 0 from rfl] at hx230_1)
                      (try rw [Addr.add_zero'] at hx230_1)
                      (try rw [show ((0 : Int)).toNat = 0 from rfl] at hx230_2)
                      (try rw [show 0 * 3 = 0 from rfl] at hx230_2)
                      (try rw [Addr.add_zero'] at hx230_2)
                      replace p230 := eq_true p230
                      replace q230 := eq_true q230
                      go_wp2
                      go_meet
                      case rel => exact ⟨_, ((((rd_T30 t223 0).f0) == 3)), (by first | rfl | (simp; done) | (simp [*]; done)), H', ⟨by have := HJ1.out; have := HJ10.out; have := HJ17.out; first | omega | exact Nat.le_refl _⟩, ⟨by repeat (first | (with_reducible first | exact HB.out | apply below_alloc | apply pw_below_drewN | apply below_drew1) | exact HB.out)⟩⟩
                    · rw [if_neg c24] at H
                      exact absurd H (by simp)
                  · replace c23 := Bool.eq_false_iff.mpr c23
                    subst c23
                    have H1 : (cylinderlaw35_LexerNames.j3 kj17 a0 x7_17 false) = some r := by rw [if_neg (show ¬ (false = true) by decide)] at H; exact H
                    clear H
                    have H := H1
                    clear H1
                    have H' := Aside0.mk H
                    clear H
                    go_wp2
                    go_meet
                    case rel => exact ⟨_, (false), (by first | rfl | (simp; done) | (simp [*]; done)), H', ⟨by have := HJ1.out; have := HJ10.out; have := HJ17.out; first | omega | exact Nat.le_refl _⟩, ⟨by repeat (first | (with_reducible first | exact HB.out | apply below_alloc | apply pw_below_drewN | apply below_drew1) | exact HB.out)⟩⟩
                case rest =>
                  clear HC22
                  try clear c1
                  try clear c2
                  try clear p2
                  try clear q2
                  try clear hx2
                  try clear qi2
                  try clear c4
                  try clear c7
                  try clear c10
                  try clear c12
                  try clear c13
                  try clear c13b0
                  try clear c13b1
                  try clear c14
                  try clear c14b0
                  try clear c14b1
                  try clear c15
                  try clear c15b0
                  try clear c15b1
                  try clear c19
                  try clear c20
                  try clear c20b0
                  try clear c20b1
                  try clear p22
                  try clear q22
                  try clear hx22
                  try clear qi22
                  try clear c23
                  try clear p23
                  try clear q23
                  try clear hx23
                  try clear qi23
                  try clear c24
                  try clear c24b0
                  try clear c24b1
                  try clear hx228_0
                  try clear hx228_1
                  try clear hx228_2
                  try clear hx229_0
                  try clear hx229_1
                  try clear hx229_2
                  try clear hx230_0
                  try clear hx230_1
                  try clear hx230_2
                  try clear p2
                  try clear p228
                  try clear p229
                  try clear p230
                  try clear q2
                  try clear q228
                  try clear q229
                  try clear q230
                  obtain ⟨kq, x8_21, rfl, HA, HJ21, HB⟩ := hcut
                  cases kq with
                  | zero => exact absurd HA.out (by simp [cylinderlaw35_LexerNames.j3])
                  | succ kj21 =>
                    have H := HA.out
                    clear HA
                    simp only [cylinderlaw35_LexerNames.j3] at H
                    replace H := Option.bind_eq_some_iff.mp H
                    obtain ⟨t231, A260, H⟩ := H
                    replace H : (if (x7_17 == t231) = true then ((lexer_IsWord.f a0).bind fun t232 => (if (x8_21 == t232) = true then ((lexer_IsWord.f a0).bind fun t233 => ((cylinderref35_IsWord.f kj21 a0).bind fun t234 => (some (t233 == t234)))) else (some false))) else (some false)) = some r := H
                    have A26 := Aside0.mk A260
                    clear A260
                    by_cases c27 : (x7_17 == t231) = true
                    · rw [if_pos c27] at H
                      have c27b0 : (x7_17 == t231) = true := c27
                      (try (have c27b1 : decide (x7_17 = t231) = true := by simpa using c27))
                      (try (have c27b2 : (x7_17 == t231) = true := by simpa using c27))
                      clear c27
                      replace H := Option.bind_eq_some_iff.mp H
                      obtain ⟨t232, A280, H⟩ := H
                      replace H : (if (x8_21 == t232) = true then ((lexer_IsWord.f a0).bind fun t233 => ((cylinderref35_IsWord.f kj21 a0).bind fun t234 => (some (t233 == t234)))) else (some false)) = some r := H
                      have A28 := Aside0.mk A280
                      clear A280
                      by_cases c29 : (x8_21 == t232) = true
                      · rw [if_pos c29] at H
                        have c29b0 : (x8_21 == t232) = true := c29
                        (try (have c29b1 : decide (x8_21 = t232) = true := by simpa using c29))
                        (try (have c29b2 : (x8_21 == t232) = true := by simpa using c29))
                        clear c29
                        replace H := Option.bind_eq_some_iff.mp H
                        obtain ⟨t233, A300, H⟩ := H
                        replace H : ((cylinderref35_IsWord.f kj21 a0).bind fun t234 => (some (t233 == t234))) = some r := H
                        have A30 := Aside0.mk A300
                        clear A300
                        replace H := Option.bind_eq_some_iff.mp H
                        obtain ⟨t234, A310, H⟩ := H
                        replace H : (some (t233 == t234)) = some r := H
                        have A31 := Aside0.mk A310
                        clear A310
                        obtain rfl := Option.some.inj H
                        go_wp2_with (first | ((with_reducible refine gate_callee (f := 19) rfl ?_); refine goesL_ (some 56) rfl rfl Try.func19 (by kernel_rfl) rfl #[.string a0] rfl (by (try simp only [List.map_toArray, List.map_cons, List.map_nil]); first | done | rfl | (simp only [List.length_drop, List.length_take]; rfl)) ?_; (with_reducible refine (formula_Valid.calls kj21 a0 t231 _ A26.out).mono ?_); rintro e w' ⟨rfl, ⟨nd, rfl⟩⟩; refine ⟨_, rfl, ?_⟩) | (go_at_call 20; (with_reducible refine (lexer_IsWord.calls a0 t232 _ A28.out).mono ?_); rintro e w' ⟨rfl, ⟨nd, rfl⟩⟩) | (go_at_call 20; (with_reducible refine (lexer_IsWord.calls a0 t233 _ A30.out).mono ?_); rintro e w' ⟨rfl, ⟨nd, rfl⟩⟩) | (go_at_call 21; (with_reducible refine (cylinderref35_IsWord.calls kj21 a0 t234 _ A31.out).mono ?_); rintro e w32 ⟨rfl, hb⟩; have n0_ := Aside0.mk (below_step (by repeat (first | (with_reducible first | exact HB.out | apply below_alloc | apply pw_below_drewN | apply below_drew1) | exact HB.out)) hb); clear HB; have HB := n0_; clear n0_; (try clear hb); (try clear hb2); (try clear hk); (try clear hi)))
                        go_ret
                        exact ⟨by first | rfl | (simp [errW_none, errW_some] <;> rfl) | (simp [*, errW_none, errW_some] <;> rfl) | (rw [wrap64_wrap_add]; rfl) | (have e_ := Option.some.inj (A28.out.symm.trans A30.out); subst e_; rfl), by repeat (first | (with_reducible first | exact HB.out | apply below_alloc | apply pw_below_drewN | apply below_drew1) | exact HB.out)⟩
                      · rw [if_neg c29] at H
                        have c29b0 : (x8_21 == t232) = false := by simpa using c29
                        (try (have c29b1 : decide (x8_21 = t232) = false := by simpa using c29))
                        (try (have c29b2 : (x8_21 == t232) = false := by simpa using c29))
                        (try (have c29b3 : ¬ (x8_21 = t232) := by simpa using c29))
                        clear c29
                        obtain rfl := Option.some.inj H
                        go_wp2_with (first | ((with_reducible refine gate_callee (f := 19) rfl ?_); refine goesL_ (some 56) rfl rfl Try.func19 (by kernel_rfl) rfl #[.string a0] rfl (by (try simp only [List.map_toArray, List.map_cons, List.map_nil]); first | done | rfl | (simp only [List.length_drop, List.length_take]; rfl)) ?_; (with_reducible refine (formula_Valid.calls kj21 a0 t231 _ A26.out).mono ?_); rintro e w' ⟨rfl, ⟨nd, rfl⟩⟩; refine ⟨_, rfl, ?_⟩) | (go_at_call 20; (with_reducible refine (lexer_IsWord.calls a0 t232 _ A28.out).mono ?_); rintro e w' ⟨rfl, ⟨nd, rfl⟩⟩))
                        go_ret
                        exact ⟨by first | rfl | (simp [errW_none, errW_some] <;> rfl) | (simp [*, errW_none, errW_some] <;> rfl) | (rw [wrap64_wrap_add]; rfl) | (have e_ := Option.some.inj (A28.out.symm.trans A30.out); subst e_; rfl), by repeat (first | (with_reducible first | exact HB.out | apply below_alloc | apply pw_below_drewN | apply below_drew1) | exact HB.out)⟩
                    · rw [if_neg c27] at H
                      have c27b0 : (x7_17 == t231) = false := by simpa using c27
                      (try (have c27b1 : decide (x7_17 = t231) = false := by simpa using c27))
                      (try (have c27b2 : (x7_17 == t231) = false := by simpa using c27))
                      (try (have c27b3 : ¬ (x7_17 = t231) := by simpa using c27))
                      clear c27
                      obtain rfl := Option.some.inj H
                      go_wp2_with (first | ((with_reducible refine gate_callee (f := 19) rfl ?_); refine goesL_ (some 56) rfl rfl Try.func19 (by kernel_rfl) rfl #[.string a0] rfl (by (try simp only [List.map_toArray, List.map_cons, List.map_nil]); first | done | rfl | (simp only [List.length_drop, List.length_take]; rfl)) ?_; (with_reducible refine (formula_Valid.calls kj21 a0 t231 _ A26.out).mono ?_); rintro e w' ⟨rfl, ⟨nd, rfl⟩⟩; refine ⟨_, rfl, ?_⟩))
                      go_ret
                      exact ⟨by first | rfl | (simp [errW_none, errW_some] <;> rfl) | (simp [*, errW_none, errW_some] <;> rfl) | (rw [wrap64_wrap_add]; rfl) | (have e_ := Option.some.inj (A28.out.symm.trans A30.out); subst e_; rfl), by repeat (first | (with_reducible first | exact HB.out | apply below_alloc | apply pw_below_drewN | apply below_drew1) | exact HB.out)⟩

/-- THE ONE PURE STATEMENT of cylinderlaw35_LexerNames: yours. -/
def cylinderlaw35_LexerNames.Pure : Prop := ∀ (a0 : ByteArray), a0.size ≤ 140737488351232 → ∃ k, cylinderlaw35_LexerNames.f k a0 = some true
theorem cylinderlaw35_LexerNames.walk (P : cylinderlaw35_LexerNames.Pure) (a0 : ByteArray) (w : World) (w0 : a0.size ≤ 140737488351232) :
    Calls Try.prog 10 #[.string a0] w fun e w' => e = .returned (.bool true) ∧ Below w.heap.size w w' := by
  obtain ⟨k, h⟩ := P a0 w0
  refine (cylinderlaw35_LexerNames.calls k a0 true w h).mono ?_
  rintro e w' ⟨rfl, hd⟩
  exact ⟨rfl, hd⟩

end Go.Proofs.Ytkomgnaleocleaa.PAll
