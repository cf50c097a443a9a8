-- printed by wip/tools/xprint.py (the kit's print program, with stubs); checked by Lean
import Derived.Test.YtkomgnaleocleaaPAllx0
import Derived.Test.YtkomgnaleocleaaPAllx1
import Derived.Test.YtkomgnaleocleaaLex
namespace Go.Proofs.Ytkomgnaleocleaa.PAll
open Go.RowKit Go.Proofs.YtkomgnaleocleaaW.PrintWords Go.Proofs.YtkomgnaleocleaaW.PrintLast Go.Proofs.YtkomgnaleocleaaW.PrintMore
attribute [local go_sem] max2_int min2_int max_two min_two max_three min_three max_four min_four   -- for this text's walks alone
set_option linter.unusedVariables false
set_option linter.unusedSimpArgs false

attribute [local go_sem high] eqA30
/-! ### cylinderlaw35_awake: function 12 -/
def cylinderlaw35_awake.f  : Option (Bool) := (lexer_Lex.f (⟨#[120, 60, 61, 51]⟩ : ByteArray)).bind fun bt101 => (if bt101.2.2 = 0 then (if (bt101.1.length : Int) = 3 then (if 0 < (bt101.1.length : Int) then (if (((rd_T30 bt101.1 0).f0) == 2 && ((((rd_T30 bt101.1 0).f1).toList) == ([120] : List UInt8) && (((rd_T30 bt101.1 0).f2) == 0))) = true then (if 1 < (bt101.1.length : Int) then (if (((rd_T30 bt101.1 1).f0) == 4 && ((((rd_T30 bt101.1 1).f1).toList) == ([60, 61] : List UInt8) && (((rd_T30 bt101.1 1).f2) == 1))) = true then (if 2 < (bt101.1.length : Int) then (some (((rd_T30 bt101.1 2).f0) == 1 && ((((rd_T30 bt101.1 2).f1).toList) == ([51] : List UInt8) && (((rd_T30 bt101.1 2).f2) == 3)))) else (none)) else (some false)) else (none)) else (some false)) else (none)) else (some false)) else (some false))
set_option maxHeartbeats 8000000 in
set_option maxRecDepth 100000 in
theorem cylinderlaw35_awake.calls  (r : Bool) (w : World) (h : cylinderlaw35_awake.f  = some r) :
    Calls Try.prog 12 #[] w fun e w' => e = .returned (.bool r) ∧ Below w.heap.size w w' := by
  have hu30 := Try.underlying30
  have HB := Aside0.mk (Below.refl w.heap.size w)
  have H : ((lexer_Lex.f (⟨#[120, 60, 61, 51]⟩ : ByteArray)).bind fun bt101 => (if bt101.2.2 = 0 then (if (bt101.1.length : Int) = 3 then (if 0 < (bt101.1.length : Int) then (if (((rd_T30 bt101.1 0).f0) == 2 && ((((rd_T30 bt101.1 0).f1).toList) == ([120] : List UInt8) && (((rd_T30 bt101.1 0).f2) == 0))) = true then (if 1 < (bt101.1.length : Int) then (if (((rd_T30 bt101.1 1).f0) == 4 && ((((rd_T30 bt101.1 1).f1).toList) == ([60, 61] : List UInt8) && (((rd_T30 bt101.1 1).f2) == 1))) = true then (if 2 < (bt101.1.length : Int) then (some (((rd_T30 bt101.1 2).f0) == 1 && ((((rd_T30 bt101.1 2).f1).toList) == ([51] : List UInt8) && (((rd_T30 bt101.1 2).f2) == 3)))) else (none)) else (some false)) else (none)) else (some false)) else (none)) else (some false)) else (some false))) = some r := h
  clear h
  replace H := Option.bind_eq_some_iff.mp H
  obtain ⟨⟨t101, t102, t103⟩, A10, H⟩ := H
  replace H : (if t103 = 0 then (if (t101.length : Int) = 3 then (if 0 < (t101.length : Int) then (if (((rd_T30 t101 0).f0) == 2 && ((((rd_T30 t101 0).f1).toList) == ([120] : List UInt8) && (((rd_T30 t101 0).f2) == 0))) = true then (if 1 < (t101.length : Int) then (if (((rd_T30 t101 1).f0) == 4 && ((((rd_T30 t101 1).f1).toList) == ([60, 61] : List UInt8) && (((rd_T30 t101 1).f2) == 1))) = true then (if 2 < (t101.length : Int) then (some (((rd_T30 t101 2).f0) == 1 && ((((rd_T30 t101 2).f1).toList) == ([51] : List UInt8) && (((rd_T30 t101 2).f2) == 3)))) else (none)) else (some false)) else (none)) else (some false)) else (none)) else (some false)) else (some false)) = some r := H
  have A1 := Aside0.mk A10
  clear A10
  by_cases c2 : t103 = 0
  · rw [if_pos c2] at H
    have c2b0 : (t103 == 0) = true := beq_iff_eq.mpr c2
    have c2b1 : (t103 != 0) = false := bne_eq_false_iff_eq.mpr c2
    clear c2
    by_cases c3 : (t101.length : Int) = 3
    · rw [if_pos c3] at H
      have c3b0 : ((t101.length : Int) == 3) = true := beq_iff_eq.mpr c3
      have c3b1 : ((t101.length : Int) != 3) = false := bne_eq_false_iff_eq.mpr c3
      clear c3
      by_cases c4 : 0 < (t101.length : Int)
      · rw [if_pos c4] at H
        have c4b0 : decide (0 < (t101.length : Int)) = true := decide_eq_true c4
        have c4b1 : decide (0 < t101.length) = true := decide_eq_true (by omega)
        clear c4
        by_cases c5 : (((rd_T30 t101 0).f0) == 2 && ((((rd_T30 t101 0).f1).toList) == ([120] : List UInt8) && (((rd_T30 t101 0).f2) == 0))) = true
        · rw [if_pos c5] at H
          have c5b0 : (((rd_T30 t101 0).f0) == 2 && ((((rd_T30 t101 0).f1).toList) == ([120] : List UInt8) && (((rd_T30 t101 0).f2) == 0))) = true := c5
          (try (have c5b1 : decide (((rd_T30 t101 0).f0) = 2 && ((((rd_T30 t101 0).f1).toList) == ([120] : List UInt8) && (((rd_T30 t101 0).f2) == 0))) = true := by simpa using c5))
          (try (have c5b2 : (((rd_T30 t101 0).f0) == 2 && ((((rd_T30 t101 0).f1).toList) == ([120] : List UInt8) && (((rd_T30 t101 0).f2) == 0))) = true := by simpa using c5))
          clear c5
          by_cases c6 : 1 < (t101.length : Int)
          · rw [if_pos c6] at H
            have c6b0 : decide (1 < (t101.length : Int)) = true := decide_eq_true c6
            have c6b1 : decide (1 < t101.length) = true := decide_eq_true (by omega)
            clear c6
            by_cases c7 : (((rd_T30 t101 1).f0) == 4 && ((((rd_T30 t101 1).f1).toList) == ([60, 61] : List UInt8) && (((rd_T30 t101 1).f2) == 1))) = true
            · rw [if_pos c7] at H
              have c7b0 : (((rd_T30 t101 1).f0) == 4 && ((((rd_T30 t101 1).f1).toList) == ([60, 61] : List UInt8) && (((rd_T30 t101 1).f2) == 1))) = true := c7
              (try (have c7b1 : decide (((rd_T30 t101 1).f0) = 4 && ((((rd_T30 t101 1).f1).toList) == ([60, 61] : List UInt8) && (((rd_T30 t101 1).f2) == 1))) = true := by simpa using c7))
              (try (have c7b2 : (((rd_T30 t101 1).f0) == 4 && ((((rd_T30 t101 1).f1).toList) == ([60, 61] : List UInt8) && (((rd_T30 t101 1).f2) == 1))) = true := by simpa using c7))
              clear c7
              by_cases c8 : 2 < (t101.length : Int)
              · rw [if_pos c8] at H
                have c8b0 : decide (2 < (t101.length : Int)) = true := decide_eq_true c8
                have c8b1 : decide (2 < t101.length) = true := decide_eq_true (by omega)
                clear c8
                obtain rfl := Option.some.inj H
                go_enter Try.func12, Try.ntmps12
                go_wp2_with (first | ((with_reducible refine gate_callee (f := 13) rfl ?_); refine goesL_ (some 5) rfl rfl Try.func13 (by kernel_rfl) rfl #[.string (⟨#[120, 60, 61, 51]⟩ : ByteArray)] rfl (by (try simp only [List.map_toArray, List.map_cons, List.map_nil]); first | done | rfl | (simp only [List.length_drop, List.length_take]; rfl)) ?_; (with_reducible refine (lexer_Lex.calls (⟨#[120, 60, 61, 51]⟩ : ByteArray) t101 t102 t103 _ A1.out).mono ?_); rintro e w9 ⟨v104, rfl, ho0, hb⟩; refine ⟨_, rfl, ?_⟩; have n0_ := Aside0.mk (Kd.R_lower ho0 (below_size (by repeat (first | (with_reducible first | exact HB.out | apply below_alloc | apply pw_below_drewN | apply below_drew1) | exact HB.out)))); have n1_ := Aside0.mk (below_step (by repeat (first | (with_reducible first | exact HB.out | apply below_alloc | apply pw_below_drewN | apply below_drew1) | exact HB.out)) hb); clear HB; have HO105 := n0_; have HB := n1_; clear n0_ n1_; (try clear hb); (try clear hb2); (try clear hk); (try clear hi); (try clear ho0); obtain ⟨Ao10, co10, eo10⟩ := Kd.R_slice HO105.out; subst eo10; have p106 : 0 ≤ (0 : Int) := (by omega); have q106 : 0 < (t101.length : Int) := of_decide_eq_true (by first | (with_reducible assumption) | assumption); obtain ⟨ad106, e106, hx106_0, hx106_1, hx106_2⟩ := at_T30 (Kd.R_reads' HO105.out).2.2 0 p106 q106; cases e106; have qi106 : (0 < t101.length) = True := eq_true (by omega); (try rw [show ((0 : Int)).toNat = 0 from rfl] at hx106_0); (try rw [show 0 * 3 = 0 from rfl] at hx106_0); (try rw [Addr.add_zero'] at hx106_0); (try rw [show ((0 : Int)).toNat = 0 from rfl] at hx106_1); (try rw [show 0 * 3 = 0 from rfl] at hx106_1); (try rw [Addr.add_zero'] at hx106_1); (try rw [show ((0 : Int)).toNat = 0 from rfl] at hx106_2); (try rw [show 0 * 3 = 0 from rfl] at hx106_2); (try rw [Addr.add_zero'] at hx106_2); replace p106 := eq_true p106; replace q106 := eq_true q106; have p107 : 0 ≤ (1 : Int) := (by omega); have q107 : 1 < (t101.length : Int) := of_decide_eq_true (by first | (with_reducible assumption) | assumption); obtain ⟨ad107, e107, hx107_0, hx107_1, hx107_2⟩ := at_T30 (Kd.R_reads' HO105.out).2.2 1 p107 q107; obtain rfl : ad106 = ad107 := (by injection e107); (try simp only [show (1 : Int).toNat = 1 from rfl, Nat.reduceMul, Nat.reduceEqDiff, Go.Addr.add, ↓reduceIte] at hx107_0); (try simp only [show (1 : Int).toNat = 1 from rfl, Nat.reduceMul, Nat.reduceEqDiff, Go.Addr.add, ↓reduceIte] at hx107_1); (try simp only [show (1 : Int).toNat = 1 from rfl, Nat.reduceMul, Nat.reduceEqDiff, Go.Addr.add, ↓reduceIte] at hx107_2); have qi107 : (1 < t101.length) = True := eq_true (by omega); (try rw [show ((1 : Int)).toNat = 1 from rfl] at hx107_0); (try rw [show 1 * 3 = 3 from rfl] at hx107_0); (try rw [show ((1 : Int)).toNat = 1 from rfl] at hx107_1); (try rw [show 1 * 3 = 3 from rfl] at hx107_1); (try rw [show ((1 : Int)).toNat = 1 from rfl] at hx107_2); (try rw [show 1 * 3 = 3 from rfl] at hx107_2); replace p107 := eq_true p107; replace q107 := eq_true q107; have p108 : 0 ≤ (2 : Int) := (by omega); have q108 : 2 < (t101.length : Int) := of_decide_eq_true (by first | (with_reducible assumption) | assumption); obtain ⟨ad108, e108, hx108_0, hx108_1, hx108_2⟩ := at_T30 (Kd.R_reads' HO105.out).2.2 2 p108 q108; obtain rfl : ad106 = ad108 := (by injection e108); (try simp only [show (2 : Int).toNat = 2 from rfl, Nat.reduceMul, Nat.reduceEqDiff, Go.Addr.add, ↓reduceIte] at hx108_0); (try simp only [show (2 : Int).toNat = 2 from rfl, Nat.reduceMul, Nat.reduceEqDiff, Go.Addr.add, ↓reduceIte] at hx108_1); (try simp only [show (2 : Int).toNat = 2 from rfl, Nat.reduceMul, Nat.reduceEqDiff, Go.Addr.add, ↓reduceIte] at hx108_2); have qi108 : (2 < t101.length) = True := eq_true (by omega); (try rw [show ((2 : Int)).toNat = 2 from rfl] at hx108_0); (try rw [show 2 * 3 = 6 from rfl] at hx108_0); (try rw [show ((2 : Int)).toNat = 2 from rfl] at hx108_1); (try rw [show 2 * 3 = 6 from rfl] at hx108_1); (try rw [show ((2 : Int)).toNat = 2 from rfl] at hx108_2); (try rw [show 2 * 3 = 6 from rfl] at hx108_2); replace p108 := eq_true p108; replace q108 := eq_true q108))
                go_ret
                exact ⟨by first | rfl | (simp [errW_none, errW_some] <;> rfl) | (simp [*, errW_none, errW_some] <;> rfl) | (rw [wrap64_wrap_add]; rfl) | (have e_ := Option.some.inj (A28.out.symm.trans A30.out); subst e_; rfl), by repeat (first | (with_reducible first | exact HB.out | apply below_alloc | apply pw_below_drewN | apply below_drew1) | exact HB.out)⟩
              · rw [if_neg c8] at H
                exact absurd H (by simp)
            · rw [if_neg c7] at H
              have c7b0 : (((rd_T30 t101 1).f0) == 4 && ((((rd_T30 t101 1).f1).toList) == ([60, 61] : List UInt8) && (((rd_T30 t101 1).f2) == 1))) = false := by simpa using c7
              (try (have c7b1 : decide (((rd_T30 t101 1).f0) = 4 && ((((rd_T30 t101 1).f1).toList) == ([60, 61] : List UInt8) && (((rd_T30 t101 1).f2) == 1))) = false := by simpa using c7))
              (try (have c7b2 : (((rd_T30 t101 1).f0) == 4 && ((((rd_T30 t101 1).f1).toList) == ([60, 61] : List UInt8) && (((rd_T30 t101 1).f2) == 1))) = false := by simpa using c7))
              (try (have c7b3 : ¬ (((rd_T30 t101 1).f0) = 4 && ((((rd_T30 t101 1).f1).toList) == ([60, 61] : List UInt8) && (((rd_T30 t101 1).f2) == 1))) := by simpa using c7))
              clear c7
              obtain rfl := Option.some.inj H
              go_enter Try.func12, Try.ntmps12
              go_wp2_with (first | ((with_reducible refine gate_callee (f := 13) rfl ?_); refine goesL_ (some 5) rfl rfl Try.func13 (by kernel_rfl) rfl #[.string (⟨#[120, 60, 61, 51]⟩ : ByteArray)] rfl (by (try simp only [List.map_toArray, List.map_cons, List.map_nil]); first | done | rfl | (simp only [List.length_drop, List.length_take]; rfl)) ?_; (with_reducible refine (lexer_Lex.calls (⟨#[120, 60, 61, 51]⟩ : ByteArray) t101 t102 t103 _ A1.out).mono ?_); rintro e w11 ⟨v104, rfl, ho0, hb⟩; refine ⟨_, rfl, ?_⟩; have n0_ := Aside0.mk (Kd.R_lower ho0 (below_size (by repeat (first | (with_reducible first | exact HB.out | apply below_alloc | apply pw_below_drewN | apply below_drew1) | exact HB.out)))); have n1_ := Aside0.mk (below_step (by repeat (first | (with_reducible first | exact HB.out | apply below_alloc | apply pw_below_drewN | apply below_drew1) | exact HB.out)) hb); clear HB; have HO105 := n0_; have HB := n1_; clear n0_ n1_; (try clear hb); (try clear hb2); (try clear hk); (try clear hi); (try clear ho0); obtain ⟨Ao12, co12, eo12⟩ := Kd.R_slice HO105.out; subst eo12; have p106 : 0 ≤ (0 : Int) := (by omega); have q106 : 0 < (t101.length : Int) := of_decide_eq_true (by first | (with_reducible assumption) | assumption); obtain ⟨ad106, e106, hx106_0, hx106_1, hx106_2⟩ := at_T30 (Kd.R_reads' HO105.out).2.2 0 p106 q106; cases e106; have qi106 : (0 < t101.length) = True := eq_true (by omega); (try rw [show ((0 : Int)).toNat = 0 from rfl] at hx106_0); (try rw [show 0 * 3 = 0 from rfl] at hx106_0); (try rw [Addr.add_zero'] at hx106_0); (try rw [show ((0 : Int)).toNat = 0 from rfl] at hx106_1); (try rw [show 0 * 3 = 0 from rfl] at hx106_1); (try rw [Addr.add_zero'] at hx106_1); (try rw [show ((0 : Int)).toNat = 0 from rfl] at hx106_2); (try rw [show 0 * 3 = 0 from rfl] at hx106_2); (try rw [Addr.add_zero'] at hx106_2); replace p106 := eq_true p106; replace q106 := eq_true q106; have p107 : 0 ≤ (1 : Int) := (by omega); have q107 : 1 < (t101.length : Int) := of_decide_eq_true (by first | (with_reducible assumption) | assumption); obtain ⟨ad107, e107, hx107_0, hx107_1, hx107_2⟩ := at_T30 (Kd.R_reads' HO105.out).2.2 1 p107 q107; obtain rfl : ad106 = ad107 := (by injection e107); (try simp only [show (1 : Int).toNat = 1 from rfl, Nat.reduceMul, Nat.reduceEqDiff, Go.Addr.add, ↓reduceIte] at hx107_0); (try simp only [show (1 : Int).toNat = 1 from rfl, Nat.reduceMul, Nat.reduceEqDiff, Go.Addr.add, ↓reduceIte] at hx107_1); (try simp only [show (1 : Int).toNat = 1 from rfl, Nat.reduceMul, Nat.reduceEqDiff, Go.Addr.add, ↓reduceIte] at hx107_2); have qi107 : (1 < t101.length) = True := eq_true (by omega); (try rw [show ((1 : Int)).toNat = 1 from rfl] at hx107_0); (try rw [show 1 * 3 = 3 from rfl] at hx107_0); (try rw [show ((1 : Int)).toNat = 1 from rfl] at hx107_1); (try rw [show 1 * 3 = 3 from rfl] at hx107_1); (try rw [show ((1 : Int)).toNat = 1 from rfl] at hx107_2); (try rw [show 1 * 3 = 3 from rfl] at hx107_2); replace p107 := eq_true p107; replace q107 := eq_true q107))
              go_ret
              exact ⟨by first | rfl | (simp [errW_none, errW_some] <;> rfl) | (simp [*, errW_none, errW_some] <;> rfl) | (rw [wrap64_wrap_add]; rfl) | (have e_ := Option.some.inj (A28.out.symm.trans A30.out); subst e_; rfl), by repeat (first | (with_reducible first | exact HB.out | apply below_alloc | apply pw_below_drewN | apply below_drew1) | exact HB.out)⟩
          · rw [if_neg c6] at H
            exact absurd H (by simp)
        · rw [if_neg c5] at H
          have c5b0 : (((rd_T30 t101 0).f0) == 2 && ((((rd_T30 t101 0).f1).toList) == ([120] : List UInt8) && (((rd_T30 t101 0).f2) == 0))) = false := by simpa using c5
          (try (have c5b1 : decide (((rd_T30 t101 0).f0) = 2 && ((((rd_T30 t101 0).f1).toList) == ([120] : List UInt8) && (((rd_T30 t101 0).f2) == 0))) = false := by simpa using c5))
          (try (have c5b2 : (((rd_T30 t101 0).f0) == 2 && ((((rd_T30 t101 0).f1).toList) == ([120] : List UInt8) && (((rd_T30 t101 0).f2) == 0))) = false := by simpa using c5))
          (try (have c5b3 : ¬ (((rd_T30 t101 0).f0) = 2 && ((((rd_T30 t101 0).f1).toList) == ([120] : List UInt8) && (((rd_T30 t101 0).f2) == 0))) := by simpa using c5))
          clear c5
          obtain rfl := Option.some.inj H
          go_enter Try.func12, Try.ntmps12
          go_wp2_with (first | ((with_reducible refine gate_callee (f := 13) rfl ?_); refine goesL_ (some 5) rfl rfl Try.func13 (by kernel_rfl) rfl #[.string (⟨#[120, 60, 61, 51]⟩ : ByteArray)] rfl (by (try simp only [List.map_toArray, List.map_cons, List.map_nil]); first | done | rfl | (simp only [List.length_drop, List.length_take]; rfl)) ?_; (with_reducible refine (lexer_Lex.calls (⟨#[120, 60, 61, 51]⟩ : ByteArray) t101 t102 t103 _ A1.out).mono ?_); rintro e w13 ⟨v104, rfl, ho0, hb⟩; refine ⟨_, rfl, ?_⟩; have n0_ := Aside0.mk (Kd.R_lower ho0 (below_size (by repeat (first | (with_reducible first | exact HB.out | apply below_alloc | apply pw_below_drewN | apply below_drew1) | exact HB.out)))); have n1_ := Aside0.mk (below_step (by repeat (first | (with_reducible first | exact HB.out | apply below_alloc | apply pw_below_drewN | apply below_drew1) | exact HB.out)) hb); clear HB; have HO105 := n0_; have HB := n1_; clear n0_ n1_; (try clear hb); (try clear hb2); (try clear hk); (try clear hi); (try clear ho0); obtain ⟨Ao14, co14, eo14⟩ := Kd.R_slice HO105.out; subst eo14; have p106 : 0 ≤ (0 : Int) := (by omega); have q106 : 0 < (t101.length : Int) := of_decide_eq_true (by first | (with_reducible assumption) | assumption); obtain ⟨ad106, e106, hx106_0, hx106_1, hx106_2⟩ := at_T30 (Kd.R_reads' HO105.out).2.2 0 p106 q106; cases e106; have qi106 : (0 < t101.length) = True := eq_true (by omega); (try rw [show ((0 : Int)).toNat = 0 from rfl] at hx106_0); (try rw [show 0 * 3 = 0 from rfl] at hx106_0); (try rw [Addr.add_zero'] at hx106_0); (try rw [show ((0 : Int)).toNat = 0 from rfl] at hx106_1); (try rw [show 0 * 3 = 0 from rfl] at hx106_1); (try rw [Addr.add_zero'] at hx106_1); (try rw [show ((0 : Int)).toNat = 0 from rfl] at hx106_2); (try rw [show 0 * 3 = 0 from rfl] at hx106_2); (try rw [Addr.add_zero'] at hx106_2); replace p106 := eq_true p106; replace q106 := eq_true q106))
          go_ret
          exact ⟨by first | rfl | (simp [errW_none, errW_some] <;> rfl) | (simp [*, errW_none, errW_some] <;> rfl) | (rw [wrap64_wrap_add]; rfl) | (have e_ := Option.some.inj (A28.out.symm.trans A30.out); subst e_; rfl), by repeat (first | (with_reducible first | exact HB.out | apply below_alloc | apply pw_below_drewN | apply below_drew1) | exact HB.out)⟩
      · rw [if_neg c4] at H
        exact absurd H (by simp)
    · rw [if_neg c3] at H
      have c3b0 : ((t101.length : Int) == 3) = false := beq_eq_false_iff_ne.mpr c3
      have c3b1 : ((t101.length : Int) != 3) = true := bne_iff_ne.mpr c3
      obtain rfl := Option.some.inj H
      go_enter Try.func12, Try.ntmps12
      go_wp2_with (first | ((with_reducible refine gate_callee (f := 13) rfl ?_); refine goesL_ (some 5) rfl rfl Try.func13 (by kernel_rfl) rfl #[.string (⟨#[120, 60, 61, 51]⟩ : ByteArray)] rfl (by (try simp only [List.map_toArray, List.map_cons, List.map_nil]); first | done | rfl | (simp only [List.length_drop, List.length_take]; rfl)) ?_; (with_reducible refine (lexer_Lex.calls (⟨#[120, 60, 61, 51]⟩ : ByteArray) t101 t102 t103 _ A1.out).mono ?_); rintro e w15 ⟨v104, rfl, ho0, hb⟩; refine ⟨_, rfl, ?_⟩; have n0_ := Aside0.mk (Kd.R_lower ho0 (below_size (by repeat (first | (with_reducible first | exact HB.out | apply below_alloc | apply pw_below_drewN | apply below_drew1) | exact HB.out)))); have n1_ := Aside0.mk (below_step (by repeat (first | (with_reducible first | exact HB.out | apply below_alloc | apply pw_below_drewN | apply below_drew1) | exact HB.out)) hb); clear HB; have HO105 := n0_; have HB := n1_; clear n0_ n1_; (try clear hb); (try clear hb2); (try clear hk); (try clear hi); (try clear ho0); obtain ⟨Ao16, co16, eo16⟩ := Kd.R_slice HO105.out; subst eo16))
      go_ret
      exact ⟨by first | rfl | (simp [errW_none, errW_some] <;> rfl) | (simp [*, errW_none, errW_some] <;> rfl) | (rw [wrap64_wrap_add]; rfl) | (have e_ := Option.some.inj (A28.out.symm.trans A30.out); subst e_; rfl), by repeat (first | (with_reducible first | exact HB.out | apply below_alloc | apply pw_below_drewN | apply below_drew1) | exact HB.out)⟩
  · rw [if_neg c2] at H
    have c2b0 : (t103 == 0) = false := beq_eq_false_iff_ne.mpr c2
    have c2b1 : (t103 != 0) = true := bne_iff_ne.mpr c2
    obtain rfl := Option.some.inj H
    go_enter Try.func12, Try.ntmps12
    go_wp2_with (first | ((with_reducible refine gate_callee (f := 13) rfl ?_); refine goesL_ (some 5) rfl rfl Try.func13 (by kernel_rfl) rfl #[.string (⟨#[120, 60, 61, 51]⟩ : ByteArray)] rfl (by (try simp only [List.map_toArray, List.map_cons, List.map_nil]); first | done | rfl | (simp only [List.length_drop, List.length_take]; rfl)) ?_; (with_reducible refine (lexer_Lex.calls (⟨#[120, 60, 61, 51]⟩ : ByteArray) t101 t102 t103 _ A1.out).mono ?_); rintro e w17 ⟨v104, rfl, ho0, hb⟩; refine ⟨_, rfl, ?_⟩; have n0_ := Aside0.mk (Kd.R_lower ho0 (below_size (by repeat (first | (with_reducible first | exact HB.out | apply below_alloc | apply pw_below_drewN | apply below_drew1) | exact HB.out)))); have n1_ := Aside0.mk (below_step (by repeat (first | (with_reducible first | exact HB.out | apply below_alloc | apply pw_below_drewN | apply below_drew1) | exact HB.out)) hb); clear HB; have HO105 := n0_; have HB := n1_; clear n0_ n1_; (try clear hb); (try clear hb2); (try clear hk); (try clear hi); (try clear ho0)))
    go_ret
    exact ⟨by first | rfl | (simp [errW_none, errW_some] <;> rfl) | (simp [*, errW_none, errW_some] <;> rfl) | (rw [wrap64_wrap_add]; rfl) | (have e_ := Option.some.inj (A28.out.symm.trans A30.out); subst e_; rfl), by repeat (first | (with_reducible first | exact HB.out | apply below_alloc | apply pw_below_drewN | apply below_drew1) | exact HB.out)⟩

/-! ### cylinderref35_Blank: function 16 -/
def cylinderref35_Blank.f (a0 : Int) : Option (Bool) := if a0 = 9 then (some true) else (if a0 = 10 then (some true) else (if a0 = 13 then (some true) else (some (a0 == 32))))
set_option maxHeartbeats 8000000 in
set_option maxRecDepth 100000 in
theorem cylinderref35_Blank.calls (a0 : Int) (r : Bool) (w : World) (h : cylinderref35_Blank.f a0 = some r) :
    Calls Try.prog 16 #[.int .u8 a0] w fun e w' => e = .returned (.bool r) ∧ Drawn0 w w' := by
  have H : (if a0 = 9 then (some true) else (if a0 = 10 then (some true) else (if a0 = 13 then (some true) else (some (a0 == 32))))) = some r := h
  clear h
  by_cases c2 : a0 = 9
  · rw [if_pos c2] at H
    have c2b0 : (a0 == 9) = true := beq_iff_eq.mpr c2
    have c2b1 : (a0 != 9) = false := bne_eq_false_iff_eq.mpr c2
    clear c2
    obtain rfl := Option.some.inj H
    go_enter Try.func16, Try.ntmps16
    go_wp2
    go_ret
    exact ⟨by first | rfl | (simp; done) | (simp [*]; done), by repeat (first | exact Drawn0.refl _ | apply Drawn0.step)⟩
  · rw [if_neg c2] at H
    have c2b0 : (a0 == 9) = false := beq_eq_false_iff_ne.mpr c2
    have c2b1 : (a0 != 9) = true := bne_iff_ne.mpr c2
    by_cases c3 : a0 = 10
    · rw [if_pos c3] at H
      have c3b0 : (a0 == 10) = true := beq_iff_eq.mpr c3
      have c3b1 : (a0 != 10) = false := bne_eq_false_iff_eq.mpr c3
      clear c3
      obtain rfl := Option.some.inj H
      go_enter Try.func16, Try.ntmps16
      go_wp2
      go_ret
      exact ⟨by first | rfl | (simp; done) | (simp [*]; done), by repeat (first | exact Drawn0.refl _ | apply Drawn0.step)⟩
    · rw [if_neg c3] at H
      have c3b0 : (a0 == 10) = false := beq_eq_false_iff_ne.mpr c3
      have c3b1 : (a0 != 10) = true := bne_iff_ne.mpr c3
      by_cases c4 : a0 = 13
      · rw [if_pos c4] at H
        have c4b0 : (a0 == 13) = true := beq_iff_eq.mpr c4
        have c4b1 : (a0 != 13) = false := bne_eq_false_iff_eq.mpr c4
        clear c4
        obtain rfl := Option.some.inj H
        go_enter Try.func16, Try.ntmps16
        go_wp2
        go_ret
        exact ⟨by first | rfl | (simp; done) | (simp [*]; done), by repeat (first | exact Drawn0.refl _ | apply Drawn0.step)⟩
      · rw [if_neg c4] at H
        have c4b0 : (a0 == 13) = false := beq_eq_false_iff_ne.mpr c4
        have c4b1 : (a0 != 13) = true := bne_iff_ne.mpr c4
        obtain rfl := Option.some.inj H
        go_enter Try.func16, Try.ntmps16
        go_wp2
        go_ret
        exact ⟨by first | rfl | (simp; done) | (simp [*]; done), by repeat (first | exact Drawn0.refl _ | apply Drawn0.step)⟩

/-! ### cylinderref35_Has: function 31 -/
def cylinderref35_Has.l0 : Nat → List ByteArray → ByteArray → Int → Int → Option (Bool)
  | 0, _, _, _, _ => none
  | k + 1, x0, x1, x7, x8 => if x8 < x7 then (if 0 ≤ x8 then (if x8 < (x0.length : Int) then (if (rdOf ByteArray.empty x0 x8).toList = x1.toList then (some true) else (cylinderref35_Has.l0 k x0 x1 x7 (wrap64 (x8 + 1)))) else (none)) else (none)) else (some false)
def cylinderref35_Has.f (k : Nat) (l0 : List ByteArray) (a1 : ByteArray) : Option (Bool) := cylinderref35_Has.l0 k l0 a1 (l0.length : Int) 0
theorem cylinderref35_Has.mono_l : ∀ k, (∀ y0 y1 y2 y3, LeO (cylinderref35_Has.l0 k y0 y1 y2 y3) (cylinderref35_Has.l0 (k + 1) y0 y1 y2 y3))
  | 0 => fun _ _ _ _ r h => by simp [cylinderref35_Has.l0] at h
  | k + 1 => by
    have ih0 := cylinderref35_Has.mono_l k
    · intro y0 y1 y2 y3
      unfold cylinderref35_Has.l0
      repeat' first
      | (with_reducible exact ih0 _ _ _ _)
      | (with_reducible exact LeO.refl _)
      | (with_reducible exact LeO.none _)
      | (with_reducible refine LeO.ite ?_ ?_)
      | (with_reducible refine LeO.bind ?_ (fun _ => ?_))
      | exact ih0 _ _ _ _
      | exact LeO.none _
      | refine LeO.ite ?_ ?_
      | refine LeO.bind ?_ (fun _ => ?_)
theorem cylinderref35_Has.mono : ∀ a0 a1 k, LeO (cylinderref35_Has.f k a0 a1) (cylinderref35_Has.f (k + 1) a0 a1) := by
  intro a0 a1 k
  have ih0 := cylinderref35_Has.mono_l k
  unfold cylinderref35_Has.f
  repeat' first
      | (with_reducible exact ih0 _ _ _ _)
      | (with_reducible exact LeO.refl _)
      | (with_reducible exact LeO.none _)
      | (with_reducible refine LeO.ite ?_ ?_)
      | (with_reducible refine LeO.bind ?_ (fun _ => ?_))
      | exact ih0 _ _ _ _
      | exact LeO.none _
      | refine LeO.ite ?_ ?_
      | refine LeO.bind ?_ (fun _ => ?_)
set_option maxHeartbeats 8000000 in
set_option maxRecDepth 100000 in
theorem cylinderref35_Has.calls (k : Nat) (A0 : Option Addr) (c0 : Nat) (l0 : List ByteArray) (a1 : ByteArray) (r : Bool) (w : World) (hr0 : Kd.C Kd.string w A0 l0.length l0) (hc0 : l0.length ≤ c0) (h : cylinderref35_Has.f k l0 a1 = some r) :
    Calls Try.prog 31 #[.slice A0 l0.length c0, .string a1] w fun e w' => e = .returned (.bool r) ∧ Drawn0 w w' := by
  have HR0 := Aside0.mk hr0
  have HC0 := Aside0.mk hc0
  clear hr0 hc0
  have H : (cylinderref35_Has.l0 k l0 a1 (l0.length : Int) 0) = some r := h
  clear h
  have H' := Aside0.mk H
  clear H
  go_enter Try.func31, Try.ntmps31
  go_wp2
  go_loopg [8] k (fun kq v8 w' => ∃ (x8_1 : Int), v8 = .int .i64 x8_1 ∧ Aside0 (cylinderref35_Has.l0 kq l0 a1 (l0.length : Int) x8_1 = some r) ∧ Aside0 (kq ≤ k) ∧ Drawn0 w w')
  case atStart => exact ⟨(0), (by first | rfl | (simp; done) | (simp [*]; done)), H', ⟨Nat.le_refl _⟩, by repeat (first | exact Drawn0.refl _ | apply Drawn0.step)⟩
  case round =>
    clear H'
    try clear p2
    obtain ⟨x8_1, rfl, HA, HK1, ⟨m1, rfl⟩⟩ := hrel
    cases gk with
    | zero => exact absurd HA.out (by simp [cylinderref35_Has.l0])
    | succ k1 =>
      have H := HA.out
      clear HA
      simp only [cylinderref35_Has.l0] at H
      by_cases c3 : x8_1 < (l0.length : Int)
      · rw [if_pos c3] at H
        have c3b0 : decide (x8_1 < (l0.length : Int)) = true := decide_eq_true c3
        clear c3
        by_cases c4 : 0 ≤ x8_1
        · rw [if_pos c4] at H
          have c4b0 : decide (0 ≤ x8_1) = true := decide_eq_true c4
          clear c4
          by_cases c5 : x8_1 < (l0.length : Int)
          · rw [if_pos c5] at H
            have c5b0 : decide (x8_1 < (l0.length : Int)) = true := decide_eq_true c5
            clear c5
            by_cases c6 : (rdOf ByteArray.empty l0 x8_1).toList = a1.toList
            · rw [if_pos c6] at H
              have c6b0 : ((rdOf ByteArray.empty l0 x8_1).toList == a1.toList) = true := beq_iff_eq.mpr c6
              have c6b1 : ((rdOf ByteArray.empty l0 x8_1).toList != a1.toList) = false := bne_eq_false_iff_eq.mpr c6
              clear c6
              obtain rfl := Option.some.inj H
              have p109 : 0 ≤ (x8_1 : Int) := of_decide_eq_true (by first | (with_reducible assumption) | assumption)
              have q109 : x8_1 < (l0.length : Int) := of_decide_eq_true (by first | (with_reducible assumption) | assumption)
              obtain ⟨ad109, e109, hx109_0⟩ := Kd.at_string HR0.out x8_1 p109 q109
              cases e109
              replace p109 := eq_true p109
              replace q109 := eq_true q109
              go_wp2
              go_ret
              exact ⟨by first | rfl | (simp; done) | (simp [*]; done), by repeat (first | exact Drawn0.refl _ | apply Drawn0.step)⟩
            · rw [if_neg c6] at H
              have c6b0 : ((rdOf ByteArray.empty l0 x8_1).toList == a1.toList) = false := beq_eq_false_iff_ne.mpr c6
              have c6b1 : ((rdOf ByteArray.empty l0 x8_1).toList != a1.toList) = true := bne_iff_ne.mpr c6
              have H' := Aside0.mk H
              clear H
              have p109 : 0 ≤ (x8_1 : Int) := of_decide_eq_true (by first | (with_reducible assumption) | assumption)
              have q109 : x8_1 < (l0.length : Int) := of_decide_eq_true (by first | (with_reducible assumption) | assumption)
              obtain ⟨ad109, e109, hx109_0⟩ := Kd.at_string HR0.out x8_1 p109 q109
              cases e109
              replace p109 := eq_true p109
              replace q109 := eq_true q109
              go_wp2
              go_roundg k1
              case measure => have := HK1.out; omega
              case rel => exact ⟨(wrap64 (x8_1 + 1)), (by first | rfl | (simp; done) | (simp [*]; done)), H', ⟨by have := HK1.out; omega⟩, by repeat (first | exact Drawn0.refl _ | apply Drawn0.step)⟩
          · rw [if_neg c5] at H
            exact absurd H (by simp)
        · rw [if_neg c4] at H
          exact absurd H (by simp)
      · rw [if_neg c3] at H
        have c3b0 : decide (x8_1 < (l0.length : Int)) = false := decide_eq_false c3
        clear c3
        obtain rfl := Option.some.inj H
        go_wp2
        go_ret
        exact ⟨by first | rfl | (simp; done) | (simp [*]; done), by repeat (first | exact Drawn0.refl _ | apply Drawn0.step)⟩

/-! ### cylinderref35_words: function 32 -/
def cylinderref35_words.f  : Option (List ByteArray) := some (([(⟨#[116, 114, 117, 101]⟩ : ByteArray), (⟨#[102, 97, 108, 115, 101]⟩ : ByteArray), (⟨#[97, 110, 100]⟩ : ByteArray), (⟨#[111, 114]⟩ : ByteArray), (⟨#[110, 111, 116]⟩ : ByteArray), (⟨#[105, 109, 112, 108, 105, 101, 115]⟩ : ByteArray), (⟨#[105, 102, 102]⟩ : ByteArray), (⟨#[102, 111, 114, 97, 108, 108]⟩ : ByteArray), (⟨#[101, 120, 105, 115, 116, 115]⟩ : ByteArray)] : List ByteArray))
set_option maxHeartbeats 8000000 in
set_option maxRecDepth 100000 in
theorem cylinderref35_words.calls  (r : List ByteArray) (w : World) (h : cylinderref35_words.f  = some r) :
    Calls Try.prog 32 #[] w fun e w' => ∃ v0_ : Value, e = .returned (v0_) ∧ Kd.R Kd.string 9 w' w.heap.size (fun _ => True) v0_ r ∧ Below w.heap.size w w' := by
  have HB := Aside0.mk (Below.refl w.heap.size w)
  have H : (some (([(⟨#[116, 114, 117, 101]⟩ : ByteArray), (⟨#[102, 97, 108, 115, 101]⟩ : ByteArray), (⟨#[97, 110, 100]⟩ : ByteArray), (⟨#[111, 114]⟩ : ByteArray), (⟨#[110, 111, 116]⟩ : ByteArray), (⟨#[105, 109, 112, 108, 105, 101, 115]⟩ : ByteArray), (⟨#[105, 102, 102]⟩ : ByteArray), (⟨#[102, 111, 114, 97, 108, 108]⟩ : ByteArray), (⟨#[101, 120, 105, 115, 116, 115]⟩ : ByteArray)] : List ByteArray))) = some r := h
  clear h
  obtain ⟨y110, hy110⟩ : ∃ y_ : List ByteArray, y_ = (([(⟨#[116, 114, 117, 101]⟩ : ByteArray), (⟨#[102, 97, 108, 115, 101]⟩ : ByteArray), (⟨#[97, 110, 100]⟩ : ByteArray), (⟨#[111, 114]⟩ : ByteArray), (⟨#[110, 111, 116]⟩ : ByteArray), (⟨#[105, 109, 112, 108, 105, 101, 115]⟩ : ByteArray), (⟨#[105, 102, 102]⟩ : ByteArray), (⟨#[102, 111, 114, 97, 108, 108]⟩ : ByteArray), (⟨#[101, 120, 105, 115, 116, 115]⟩ : ByteArray)] : List ByteArray)) := ⟨_, rfl⟩
  replace H : (some y110) = some r := by first | (rw [hy110]; with_reducible exact H) | (have H2_ := (Option.bind_some _ _).symm.trans H; rw [hy110]; with_reducible exact H2_) | (have H2_ := (Option.bind_some _ _).symm.trans H; with_reducible exact H2_) | with_reducible exact H | (rw [hy110]; exact H) | exact H
  have Ny110 := Aside0.mk hy110
  clear hy110
  obtain rfl := Option.some.inj H
  go_enter Try.func32, Try.ntmps32
  go_wp2_with (first | ((with_reducible refine gate_dst (N := 1) rfl ?_); refine Kd.R_lit Kd.string _ 9 ?hg (N := 1) ?hd (xs := ([(⟨#[116, 114, 117, 101]⟩ : ByteArray), (⟨#[102, 97, 108, 115, 101]⟩ : ByteArray), (⟨#[97, 110, 100]⟩ : ByteArray), (⟨#[111, 114]⟩ : ByteArray), (⟨#[110, 111, 116]⟩ : ByteArray), (⟨#[105, 109, 112, 108, 105, 101, 115]⟩ : ByteArray), (⟨#[105, 102, 102]⟩ : ByteArray), (⟨#[102, 111, 114, 97, 108, 108]⟩ : ByteArray), (⟨#[101, 120, 105, 115, 116, 115]⟩ : ByteArray)] : List ByteArray)) (inner := [.string (⟨#[116, 114, 117, 101]⟩ : ByteArray), .string (⟨#[102, 97, 108, 115, 101]⟩ : ByteArray), .string (⟨#[97, 110, 100]⟩ : ByteArray), .string (⟨#[111, 114]⟩ : ByteArray), .string (⟨#[110, 111, 116]⟩ : ByteArray), .string (⟨#[105, 109, 112, 108, 105, 101, 115]⟩ : ByteArray), .string (⟨#[105, 102, 102]⟩ : ByteArray), .string (⟨#[102, 111, 114, 97, 108, 108]⟩ : ByteArray), .string (⟨#[101, 120, 105, 115, 116, 115]⟩ : ByteArray)]) (ok := fun _ => True) (okp := fun _ => True) ?hr ?hp (fun _ hk => hk) trivial (Below.refl _ _) (Nat.le_refl _) (by simp) ?_; (case hd => rfl); (case hg => rfl); (case hr => first | (go_simp; done) | (go_simp; rfl)); (case hp => exact (Reps.one (show Kd.M Kd.string _ _ _ (⟨#[116, 114, 117, 101]⟩ : ByteArray) [.string (⟨#[116, 114, 117, 101]⟩ : ByteArray)] from rfl) (Reps.one (show Kd.M Kd.string _ _ _ (⟨#[102, 97, 108, 115, 101]⟩ : ByteArray) [.string (⟨#[102, 97, 108, 115, 101]⟩ : ByteArray)] from rfl) (Reps.one (show Kd.M Kd.string _ _ _ (⟨#[97, 110, 100]⟩ : ByteArray) [.string (⟨#[97, 110, 100]⟩ : ByteArray)] from rfl) (Reps.one (show Kd.M Kd.string _ _ _ (⟨#[111, 114]⟩ : ByteArray) [.string (⟨#[111, 114]⟩ : ByteArray)] from rfl) (Reps.one (show Kd.M Kd.string _ _ _ (⟨#[110, 111, 116]⟩ : ByteArray) [.string (⟨#[110, 111, 116]⟩ : ByteArray)] from rfl) (Reps.one (show Kd.M Kd.string _ _ _ (⟨#[105, 109, 112, 108, 105, 101, 115]⟩ : ByteArray) [.string (⟨#[105, 109, 112, 108, 105, 101, 115]⟩ : ByteArray)] from rfl) (Reps.one (show Kd.M Kd.string _ _ _ (⟨#[105, 102, 102]⟩ : ByteArray) [.string (⟨#[105, 102, 102]⟩ : ByteArray)] from rfl) (Reps.one (show Kd.M Kd.string _ _ _ (⟨#[102, 111, 114, 97, 108, 108]⟩ : ByteArray) [.string (⟨#[102, 111, 114, 97, 108, 108]⟩ : ByteArray)] from rfl) (Reps.one (show Kd.M Kd.string _ _ _ (⟨#[101, 120, 105, 115, 116, 115]⟩ : ByteArray) [.string (⟨#[101, 120, 105, 115, 116, 115]⟩ : ByteArray)] from rfl) (Reps.none _ _))))))))))); intro v111 w1 ho2 hb hg_ hnew_; clear hg_ hnew_; (first | rw [← Ny110.out] at ho2 | (simp only [Int.reduceToNat] at ho2; rw [← Ny110.out] at ho2)); have n0_ := Aside0.mk (Kd.R_lower ho2 (below_size (by repeat (first | (with_reducible first | exact HB.out | apply below_alloc | apply pw_below_drewN | apply below_drew1) | exact HB.out)))); have n1_ := Aside0.mk (below_step (by repeat (first | (with_reducible first | exact HB.out | apply below_alloc | apply pw_below_drewN | apply below_drew1) | exact HB.out)) hb); clear HB; have HO112 := n0_; have HB := n1_; clear n0_ n1_; clear hb ho2))
  go_ret
  exact ⟨_, by first | rfl | (simp [errW_none, errW_some] <;> rfl) | (simp [*, errW_none, errW_some] <;> rfl), by (with_reducible repeat (first | apply Kd.R_alloc | apply Kd.R_drewN | apply Kd.R_drew)); exact HO112.out, by repeat (first | (with_reducible first | exact HB.out | apply below_alloc | apply pw_below_drewN | apply below_drew1) | exact HB.out)⟩

/-! ### cylinderref35_IsWord: function 21 -/
def cylinderref35_IsWord.f (k : Nat) (a0 : ByteArray) : Option (Bool) := (cylinderref35_words.f).bind fun t113 => ((cylinderref35_Has.f k t113 a0).bind fun t116 => (some t116))
theorem cylinderref35_IsWord.mono : ∀ a0 k, LeO (cylinderref35_IsWord.f k a0) (cylinderref35_IsWord.f (k + 1) a0) := by
  intro a0 k
  unfold cylinderref35_IsWord.f
  repeat' first
      | (with_reducible exact cylinderref35_Has.mono _ _ _)
      | (with_reducible exact LeO.refl _)
      | (with_reducible exact LeO.none _)
      | (with_reducible refine LeO.ite ?_ ?_)
      | (with_reducible refine LeO.bind ?_ (fun _ => ?_))
      | exact cylinderref35_Has.mono _ _ _
      | exact LeO.none _
      | refine LeO.ite ?_ ?_
      | refine LeO.bind ?_ (fun _ => ?_)
set_option maxHeartbeats 8000000 in
set_option maxRecDepth 100000 in
theorem cylinderref35_IsWord.calls (k : Nat) (a0 : ByteArray) (r : Bool) (w : World) (h : cylinderref35_IsWord.f k a0 = some r) :
    Calls Try.prog 21 #[.string a0] w fun e w' => e = .returned (.bool r) ∧ Below w.heap.size w w' := by
  have HB := Aside0.mk (Below.refl w.heap.size w)
  have H : ((cylinderref35_words.f).bind fun t113 => ((cylinderref35_Has.f k t113 a0).bind fun t116 => (some t116))) = some r := h
  clear h
  replace H := Option.bind_eq_some_iff.mp H
  obtain ⟨t113, A20, H⟩ := H
  replace H : ((cylinderref35_Has.f k t113 a0).bind fun t116 => (some t116)) = some r := H
  have A2 := Aside0.mk A20
  clear A20
  replace H := Option.bind_eq_some_iff.mp H
  obtain ⟨t116, A30, H⟩ := H
  replace H : (some t116) = some r := H
  have A3 := Aside0.mk A30
  clear A30
  obtain rfl := Option.some.inj H
  go_enter Try.func21, Try.ntmps21
  go_wp2_with (first | ((with_reducible refine gate_callee (f := 32) rfl ?_); refine goesL_ (some 3) rfl rfl Try.func32 (by kernel_rfl) rfl #[] rfl (by (try simp only [List.map_toArray, List.map_cons, List.map_nil]); first | done | rfl | (simp only [List.length_drop, List.length_take]; rfl)) ?_; (with_reducible refine (cylinderref35_words.calls  t113 _ A2.out).mono ?_); rintro e w4 ⟨v114, rfl, ho0, hb⟩; refine ⟨_, rfl, ?_⟩; have n0_ := Aside0.mk (Kd.R_lower ho0 (below_size (by repeat (first | (with_reducible first | exact HB.out | apply below_alloc | apply pw_below_drewN | apply below_drew1) | exact HB.out)))); have n1_ := Aside0.mk (below_step (by repeat (first | (with_reducible first | exact HB.out | apply below_alloc | apply pw_below_drewN | apply below_drew1) | exact HB.out)) hb); clear HB; have HO115 := n0_; have HB := n1_; clear n0_ n1_; (try clear hb); (try clear hb2); (try clear hk); (try clear hi); (try clear ho0); obtain ⟨Ao5, co5, eo5⟩ := Kd.R_slice HO115.out; subst eo5) | ((with_reducible refine gate_callee (f := 31) rfl ?_); refine goesL_ (some 5) rfl rfl Try.func31 (by kernel_rfl) rfl #[.slice Ao5 t113.length co5, .string a0] rfl (by (try simp only [List.map_toArray, List.map_cons, List.map_nil]); first | done | rfl | (simp only [List.length_drop, List.length_take]; rfl)) ?_; (with_reducible refine (cylinderref35_Has.calls k _ _ t113 a0 t116 _ ?side1 ?side2 A3.out).mono ?_); (case side1 => repeat (first | exact (Kd.R_reads' HO115.out).2.2 | (with_reducible refine Kd.C_alloc ?_ _) | (with_reducible refine Kd.C_drewN ?_ _) | (with_reducible refine Kd.C_drew ?_))); (case side2 => exact (Kd.R_reads' HO115.out).2.1); rintro e w' ⟨rfl, ⟨nd, rfl⟩⟩; refine ⟨_, rfl, ?_⟩))
  go_ret
  exact ⟨by first | rfl | (simp [errW_none, errW_some] <;> rfl) | (simp [*, errW_none, errW_some] <;> rfl) | (rw [wrap64_wrap_add]; rfl) | (have e_ := Option.some.inj (A28.out.symm.trans A30.out); subst e_; rfl), by repeat (first | (with_reducible first | exact HB.out | apply below_alloc | apply pw_below_drewN | apply below_drew1) | exact HB.out)⟩

/-! ### cylinderref35_digit: function 47 -/
def cylinderref35_digit.f (a0 : Int) : Option (Bool) := if a0 ≥ 48 then (some (decide (a0 ≤ 57))) else (some false)
set_option maxHeartbeats 8000000 in
set_option maxRecDepth 100000 in
theorem cylinderref35_digit.calls (a0 : Int) (r : Bool) (w : World) (h : cylinderref35_digit.f a0 = some r) :
    Calls Try.prog 47 #[.int .u8 a0] w fun e w' => e = .returned (.bool r) ∧ Drawn0 w w' := by
  have H : (if a0 ≥ 48 then (some (decide (a0 ≤ 57))) else (some false)) = some r := h
  clear h
  by_cases c2 : a0 ≥ 48
  · rw [if_pos c2] at H
    have c2b0 : decide (48 ≤ a0) = true := decide_eq_true c2
    clear c2
    obtain rfl := Option.some.inj H
    go_enter Try.func47, Try.ntmps47
    go_wp2
    go_ret
    exact ⟨by first | rfl | (simp; done) | (simp [*]; done), by repeat (first | exact Drawn0.refl _ | apply Drawn0.step)⟩
  · rw [if_neg c2] at H
    have c2b0 : decide (48 ≤ a0) = false := decide_eq_false c2
    clear c2
    obtain rfl := Option.some.inj H
    go_enter Try.func47, Try.ntmps47
    go_wp2
    go_ret
    exact ⟨by first | rfl | (simp; done) | (simp [*]; done), by repeat (first | exact Drawn0.refl _ | apply Drawn0.step)⟩

/-! ### cylinderref35_number: function 39 -/
def cylinderref35_number.l0 : Nat → ByteArray → Int → Option (Bool)
  | 0, _, _ => none
  | k + 1, x0, x3 => if x3 < (x0.size : Int) then (if 0 ≤ x3 then ((cylinderref35_digit.f (bt x0 x3)).bind fun t117 => (if t117 = true then (cylinderref35_number.l0 k x0 (wrap64 (x3 + 1))) else (some false))) else (none)) else (some (decide ((x0.size : Int) > 0)))
def cylinderref35_number.f (k : Nat) (a0 : ByteArray) : Option (Bool) := cylinderref35_number.l0 k a0 0
theorem cylinderref35_number.mono_l : ∀ k, (∀ y0 y1, LeO (cylinderref35_number.l0 k y0 y1) (cylinderref35_number.l0 (k + 1) y0 y1))
  | 0 => fun _ _ r h => by simp [cylinderref35_number.l0] at h
  | k + 1 => by
    have ih0 := cylinderref35_number.mono_l k
    · intro y0 y1
      unfold cylinderref35_number.l0
      repeat' first
      | (with_reducible exact ih0 _ _)
      | (with_reducible exact LeO.refl _)
      | (with_reducible exact LeO.none _)
      | (with_reducible refine LeO.ite ?_ ?_)
      | (with_reducible refine LeO.bind ?_ (fun _ => ?_))
      | exact ih0 _ _
      | exact LeO.none _
      | refine LeO.ite ?_ ?_
      | refine LeO.bind ?_ (fun _ => ?_)
theorem cylinderref35_number.mono : ∀ a0 k, LeO (cylinderref35_number.f k a0) (cylinderref35_number.f (k + 1) a0) := by
  intro a0 k
  have ih0 := cylinderref35_number.mono_l k
  unfold cylinderref35_number.f
  repeat' first
      | (with_reducible exact ih0 _ _)
      | (with_reducible exact LeO.refl _)
      | (with_reducible exact LeO.none _)
      | (with_reducible refine LeO.ite ?_ ?_)
      | (with_reducible refine LeO.bind ?_ (fun _ => ?_))
      | exact ih0 _ _
      | exact LeO.none _
      | refine LeO.ite ?_ ?_
      | refine LeO.bind ?_ (fun _ => ?_)
set_option maxHeartbeats 8000000 in
set_option maxRecDepth 100000 in
theorem cylinderref35_number.calls (k : Nat) (a0 : ByteArray) (r : Bool) (w : World) (h : cylinderref35_number.f k a0 = some r) :
    Calls Try.prog 39 #[.string a0] w fun e w' => e = .returned (.bool r) ∧ Drawn0 w w' := by
  have H : (cylinderref35_number.l0 k a0 0) = some r := h
  clear h
  have H' := Aside0.mk H
  clear H
  go_enter Try.func39, Try.ntmps39
  go_wp2
  go_loopg [3] k (fun kq v3 w' => ∃ (x3_1 : Int), v3 = .int .i64 x3_1 ∧ Aside0 (cylinderref35_number.l0 kq a0 x3_1 = some r) ∧ Aside0 (kq ≤ k) ∧ Drawn0 w w')
  case atStart => exact ⟨(0), (by first | rfl | (simp; done) | (simp [*]; done)), H', ⟨Nat.le_refl _⟩, by repeat (first | exact Drawn0.refl _ | apply Drawn0.step)⟩
  case round =>
    clear H'
    obtain ⟨x3_1, rfl, HA, HK1, ⟨m1, rfl⟩⟩ := hrel
    cases gk with
    | zero => exact absurd HA.out (by simp [cylinderref35_number.l0])
    | succ k1 =>
      have H := HA.out
      clear HA
      simp only [cylinderref35_number.l0] at H
      by_cases c2 : x3_1 < (a0.size : Int)
      · rw [if_pos c2] at H
        have c2b0 : decide (x3_1 < (a0.size : Int)) = true := decide_eq_true c2
        clear c2
        by_cases c3 : 0 ≤ x3_1
        · rw [if_pos c3] at H
          have c3b0 : decide (0 ≤ x3_1) = true := decide_eq_true c3
          clear c3
          replace H := Option.bind_eq_some_iff.mp H
          obtain ⟨t117, A50, H⟩ := H
          replace H : (if t117 = true then (cylinderref35_number.l0 k1 a0 (wrap64 (x3_1 + 1))) else (some false)) = some r := H
          have A5 := Aside0.mk A50
          clear A50
          by_cases c6 : t117 = true
          · subst c6
            have H1 : (cylinderref35_number.l0 k1 a0 (wrap64 (x3_1 + 1))) = some r := by rw [if_pos rfl] at H; exact H
            clear H
            have H := H1
            clear H1
            have H' := Aside0.mk H
            clear H
            have p4 : 0 ≤ (x3_1 : Int) := of_decide_eq_true (by first | (with_reducible assumption) | assumption)
            have q4 : x3_1 < (a0.size : Int) := of_decide_eq_true (by first | (with_reducible assumption) | assumption)
            have hx4 := bt_at a0 x3_1
            replace p4 := eq_true p4
            replace q4 := eq_true q4
            go_wp2_with (first | ((with_reducible refine gate_callee (f := 47) rfl ?_); refine goesL_ (some 13) rfl rfl Try.func47 (by kernel_rfl) rfl #[.int .u8 (bt a0 x3_1)] rfl (by (try simp only [List.map_toArray, List.map_cons, List.map_nil]); first | done | rfl | (simp only [List.length_drop, List.length_take]; rfl)) ?_; (with_reducible refine (cylinderref35_digit.calls (bt a0 x3_1) true _ A5.out).mono ?_); rintro e w' ⟨rfl, ⟨nd, rfl⟩⟩; refine ⟨_, rfl, ?_⟩))
            go_roundg k1
            case measure => have := HK1.out; omega
            case rel => exact ⟨(wrap64 (x3_1 + 1)), (by first | rfl | (simp; done) | (simp [*]; done)), H', ⟨by have := HK1.out; omega⟩, by repeat (first | exact Drawn0.refl _ | apply Drawn0.step)⟩
          · replace c6 := Bool.eq_false_iff.mpr c6
            subst c6
            have H1 : (some false) = some r := by rw [if_neg (show ¬ (false = true) by decide)] at H; exact H
            clear H
            have H := H1
            clear H1
            obtain rfl := Option.some.inj H
            have p4 : 0 ≤ (x3_1 : Int) := of_decide_eq_true (by first | (with_reducible assumption) | assumption)
            have q4 : x3_1 < (a0.size : Int) := of_decide_eq_true (by first | (with_reducible assumption) | assumption)
            have hx4 := bt_at a0 x3_1
            replace p4 := eq_true p4
            replace q4 := eq_true q4
            go_wp2_with (first | ((with_reducible refine gate_callee (f := 47) rfl ?_); refine goesL_ (some 13) rfl rfl Try.func47 (by kernel_rfl) rfl #[.int .u8 (bt a0 x3_1)] rfl (by (try simp only [List.map_toArray, List.map_cons, List.map_nil]); first | done | rfl | (simp only [List.length_drop, List.length_take]; rfl)) ?_; (with_reducible refine (cylinderref35_digit.calls (bt a0 x3_1) false _ A5.out).mono ?_); rintro e w' ⟨rfl, ⟨nd, rfl⟩⟩; refine ⟨_, rfl, ?_⟩))
            go_ret
            exact ⟨by first | rfl | (simp; done) | (simp [*]; done), by repeat (first | exact Drawn0.refl _ | apply Drawn0.step)⟩
        · rw [if_neg c3] at H
          exact absurd H (by simp)
      · rw [if_neg c2] at H
        have c2b0 : decide (x3_1 < (a0.size : Int)) = false := decide_eq_false c2
        clear c2
        obtain rfl := Option.some.inj H
        go_wp2
        go_ret
        exact ⟨by first | rfl | (simp; done) | (simp [*]; done), by repeat (first | exact Drawn0.refl _ | apply Drawn0.step)⟩

/-! ### cylinderref35_letter: function 48 -/
def cylinderref35_letter.f (a0 : Int) : Option (Bool) := if a0 ≥ 97 then (if a0 ≤ 122 then (some true) else (if a0 ≥ 65 then (if a0 ≤ 90 then (some true) else (some (a0 == 95))) else (some (a0 == 95)))) else (if a0 ≥ 65 then (if a0 ≤ 90 then (some true) else (some (a0 == 95))) else (some (a0 == 95)))
set_option maxHeartbeats 8000000 in
set_option maxRecDepth 100000 in
theorem cylinderref35_letter.calls (a0 : Int) (r : Bool) (w : World) (h : cylinderref35_letter.f a0 = some r) :
    Calls Try.prog 48 #[.int .u8 a0] w fun e w' => e = .returned (.bool r) ∧ Drawn0 w w' := by
  have H : (if a0 ≥ 97 then (if a0 ≤ 122 then (some true) else (if a0 ≥ 65 then (if a0 ≤ 90 then (some true) else (some (a0 == 95))) else (some (a0 == 95)))) else (if a0 ≥ 65 then (if a0 ≤ 90 then (some true) else (some (a0 == 95))) else (some (a0 == 95)))) = some r := h
  clear h
  by_cases c2 : a0 ≥ 97
  · rw [if_pos c2] at H
    have c2b0 : decide (97 ≤ a0) = true := decide_eq_true c2
    clear c2
    by_cases c3 : a0 ≤ 122
    · rw [if_pos c3] at H
      have c3b0 : decide (a0 ≤ 122) = true := decide_eq_true c3
      clear c3
      obtain rfl := Option.some.inj H
      go_enter Try.func48, Try.ntmps48
      go_wp2
      go_ret
      exact ⟨by first | rfl | (simp; done) | (simp [*]; done), by repeat (first | exact Drawn0.refl _ | apply Drawn0.step)⟩
    · rw [if_neg c3] at H
      have c3b0 : decide (a0 ≤ 122) = false := decide_eq_false c3
      clear c3
      by_cases c4 : a0 ≥ 65
      · rw [if_pos c4] at H
        have c4b0 : decide (65 ≤ a0) = true := decide_eq_true c4
        clear c4
        by_cases c5 : a0 ≤ 90
        · rw [if_pos c5] at H
          have c5b0 : decide (a0 ≤ 90) = true := decide_eq_true c5
          clear c5
          obtain rfl := Option.some.inj H
          go_enter Try.func48, Try.ntmps48
          go_wp2
          go_ret
          exact ⟨by first | rfl | (simp; done) | (simp [*]; done), by repeat (first | exact Drawn0.refl _ | apply Drawn0.step)⟩
        · rw [if_neg c5] at H
          have c5b0 : decide (a0 ≤ 90) = false := decide_eq_false c5
          clear c5
          obtain rfl := Option.some.inj H
          go_enter Try.func48, Try.ntmps48
          go_wp2
          go_ret
          exact ⟨by first | rfl | (simp; done) | (simp [*]; done), by repeat (first | exact Drawn0.refl _ | apply Drawn0.step)⟩
      · rw [if_neg c4] at H
        have c4b0 : decide (65 ≤ a0) = false := decide_eq_false c4
        clear c4
        obtain rfl := Option.some.inj H
        go_enter Try.func48, Try.ntmps48
        go_wp2
        go_ret
        exact ⟨by first | rfl | (simp; done) | (simp [*]; done), by repeat (first | exact Drawn0.refl _ | apply Drawn0.step)⟩
  · rw [if_neg c2] at H
    have c2b0 : decide (97 ≤ a0) = false := decide_eq_false c2
    clear c2
    by_cases c6 : a0 ≥ 65
    · rw [if_pos c6] at H
      have c6b0 : decide (65 ≤ a0) = true := decide_eq_true c6
      clear c6
      by_cases c7 : a0 ≤ 90
      · rw [if_pos c7] at H
        have c7b0 : decide (a0 ≤ 90) = true := decide_eq_true c7
        clear c7
        obtain rfl := Option.some.inj H
        go_enter Try.func48, Try.ntmps48
        go_wp2
        go_ret
        exact ⟨by first | rfl | (simp; done) | (simp [*]; done), by repeat (first | exact Drawn0.refl _ | apply Drawn0.step)⟩
      · rw [if_neg c7] at H
        have c7b0 : decide (a0 ≤ 90) = false := decide_eq_false c7
        clear c7
        obtain rfl := Option.some.inj H
        go_enter Try.func48, Try.ntmps48
        go_wp2
        go_ret
        exact ⟨by first | rfl | (simp; done) | (simp [*]; done), by repeat (first | exact Drawn0.refl _ | apply Drawn0.step)⟩
    · rw [if_neg c6] at H
      have c6b0 : decide (65 ≤ a0) = false := decide_eq_false c6
      clear c6
      obtain rfl := Option.some.inj H
      go_enter Try.func48, Try.ntmps48
      go_wp2
      go_ret
      exact ⟨by first | rfl | (simp; done) | (simp [*]; done), by repeat (first | exact Drawn0.refl _ | apply Drawn0.step)⟩

/-! ### cylinderref35_name: function 40 -/
def cylinderref35_name.l0 : Nat → ByteArray → Int → Option (Bool)
  | 0, _, _ => none
  | k + 1, x0, x3 => if x3 < (x0.size : Int) then (if 0 ≤ x3 then ((cylinderref35_letter.f (bt x0 x3)).bind fun t118 => (if t118 = true then (cylinderref35_name.l0 k x0 (wrap64 (x3 + 1))) else (if x3 = 0 then (some false) else ((cylinderref35_digit.f (bt x0 x3)).bind fun t119 => (if t119 = true then (cylinderref35_name.l0 k x0 (wrap64 (x3 + 1))) else (some false)))))) else (none)) else (some (decide ((x0.size : Int) > 0)))
def cylinderref35_name.f (k : Nat) (a0 : ByteArray) : Option (Bool) := cylinderref35_name.l0 k a0 0
theorem cylinderref35_name.mono_l : ∀ k, (∀ y0 y1, LeO (cylinderref35_name.l0 k y0 y1) (cylinderref35_name.l0 (k + 1) y0 y1))
  | 0 => fun _ _ r h => by simp [cylinderref35_name.l0] at h
  | k + 1 => by
    have ih0 := cylinderref35_name.mono_l k
    · intro y0 y1
      unfold cylinderref35_name.l0
      repeat' first
      | (with_reducible exact ih0 _ _)
      | (with_reducible exact LeO.refl _)
      | (with_reducible exact LeO.none _)
      | (with_reducible refine LeO.ite ?_ ?_)
      | (with_reducible refine LeO.bind ?_ (fun _ => ?_))
      | exact ih0 _ _
      | exact LeO.none _
      | refine LeO.ite ?_ ?_
      | refine LeO.bind ?_ (fun _ => ?_)
theorem cylinderref35_name.mono : ∀ a0 k, LeO (cylinderref35_name.f k a0) (cylinderref35_name.f (k + 1) a0) := by
  intro a0 k
  have ih0 := cylinderref35_name.mono_l k
  unfold cylinderref35_name.f
  repeat' first
      | (with_reducible exact ih0 _ _)
      | (with_reducible exact LeO.refl _)
      | (with_reducible exact LeO.none _)
      | (with_reducible refine LeO.ite ?_ ?_)
      | (with_reducible refine LeO.bind ?_ (fun _ => ?_))
      | exact ih0 _ _
      | exact LeO.none _
      | refine LeO.ite ?_ ?_
      | refine LeO.bind ?_ (fun _ => ?_)
set_option maxHeartbeats 8000000 in
set_option maxRecDepth 100000 in
theorem cylinderref35_name.calls (k : Nat) (a0 : ByteArray) (r : Bool) (w : World) (h : cylinderref35_name.f k a0 = some r) :
    Calls Try.prog 40 #[.string a0] w fun e w' => e = .returned (.bool r) ∧ Drawn0 w w' := by
  have H : (cylinderref35_name.l0 k a0 0) = some r := h
  clear h
  have H' := Aside0.mk H
  clear H
  go_enter Try.func40, Try.ntmps40
  go_wp2
  go_loopg [3] k (fun kq v3 w' => ∃ (x3_1 : Int), v3 = .int .i64 x3_1 ∧ Aside0 (cylinderref35_name.l0 kq a0 x3_1 = some r) ∧ Aside0 (kq ≤ k) ∧ Drawn0 w w')
  case atStart => exact ⟨(0), (by first | rfl | (simp; done) | (simp [*]; done)), H', ⟨Nat.le_refl _⟩, by repeat (first | exact Drawn0.refl _ | apply Drawn0.step)⟩
  case round =>
    clear H'
    obtain ⟨x3_1, rfl, HA, HK1, ⟨m1, rfl⟩⟩ := hrel
    cases gk with
    | zero => exact absurd HA.out (by simp [cylinderref35_name.l0])
    | succ k1 =>
      have H := HA.out
      clear HA
      simp only [cylinderref35_name.l0] at H
      by_cases c2 : x3_1 < (a0.size : Int)
      · rw [if_pos c2] at H
        have c2b0 : decide (x3_1 < (a0.size : Int)) = true := decide_eq_true c2
        clear c2
        by_cases c3 : 0 ≤ x3_1
        · rw [if_pos c3] at H
          have c3b0 : decide (0 ≤ x3_1) = true := decide_eq_true c3
          clear c3
          replace H := Option.bind_eq_some_iff.mp H
          obtain ⟨t118, A50, H⟩ := H
          replace H : (if t118 = true then (cylinderref35_name.l0 k1 a0 (wrap64 (x3_1 + 1))) else (if x3_1 = 0 then (some false) else ((cylinderref35_digit.f (bt a0 x3_1)).bind fun t119 => (if t119 = true then (cylinderref35_name.l0 k1 a0 (wrap64 (x3_1 + 1))) else (some false))))) = some r := H
          have A5 := Aside0.mk A50
          clear A50
          by_cases c6 : t118 = true
          · subst c6
            have H1 : (cylinderref35_name.l0 k1 a0 (wrap64 (x3_1 + 1))) = some r := by rw [if_pos rfl] at H; exact H
            clear H
            have H := H1
            clear H1
            have H' := Aside0.mk H
            clear H
            have p4 : 0 ≤ (x3_1 : Int) := of_decide_eq_true (by first | (with_reducible assumption) | assumption)
            have q4 : x3_1 < (a0.size : Int) := of_decide_eq_true (by first | (with_reducible assumption) | assumption)
            have hx4 := bt_at a0 x3_1
            replace p4 := eq_true p4
            replace q4 := eq_true q4
            go_wp2_with (first | ((with_reducible refine gate_callee (f := 48) rfl ?_); refine goesL_ (some 13) rfl rfl Try.func48 (by kernel_rfl) rfl #[.int .u8 (bt a0 x3_1)] rfl (by (try simp only [List.map_toArray, List.map_cons, List.map_nil]); first | done | rfl | (simp only [List.length_drop, List.length_take]; rfl)) ?_; (with_reducible refine (cylinderref35_letter.calls (bt a0 x3_1) true _ A5.out).mono ?_); rintro e w' ⟨rfl, ⟨nd, rfl⟩⟩; refine ⟨_, rfl, ?_⟩))
            go_roundg k1
            case measure => have := HK1.out; omega
            case rel => exact ⟨(wrap64 (x3_1 + 1)), (by first | rfl | (simp; done) | (simp [*]; done)), H', ⟨by have := HK1.out; omega⟩, by repeat (first | exact Drawn0.refl _ | apply Drawn0.step)⟩
          · replace c6 := Bool.eq_false_iff.mpr c6
            subst c6
            have H1 : (if x3_1 = 0 then (some false) else ((cylinderref35_digit.f (bt a0 x3_1)).bind fun t119 => (if t119 = true then (cylinderref35_name.l0 k1 a0 (wrap64 (x3_1 + 1))) else (some false)))) = some r := by rw [if_neg (show ¬ (false = true) by decide)] at H; exact H
            clear H
            have H := H1
            clear H1
            by_cases c7 : x3_1 = 0
            · rw [if_pos c7] at H
              have c7b0 : (x3_1 == 0) = true := beq_iff_eq.mpr c7
              have c7b1 : (x3_1 != 0) = false := bne_eq_false_iff_eq.mpr c7
              clear c7
              obtain rfl := Option.some.inj H
              have p4 : 0 ≤ (x3_1 : Int) := of_decide_eq_true (by first | (with_reducible assumption) | assumption)
              have q4 : x3_1 < (a0.size : Int) := of_decide_eq_true (by first | (with_reducible assumption) | assumption)
              have hx4 := bt_at a0 x3_1
              replace p4 := eq_true p4
              replace q4 := eq_true q4
              go_wp2_with (first | ((with_reducible refine gate_callee (f := 48) rfl ?_); refine goesL_ (some 13) rfl rfl Try.func48 (by kernel_rfl) rfl #[.int .u8 (bt a0 x3_1)] rfl (by (try simp only [List.map_toArray, List.map_cons, List.map_nil]); first | done | rfl | (simp only [List.length_drop, List.length_take]; rfl)) ?_; (with_reducible refine (cylinderref35_letter.calls (bt a0 x3_1) false _ A5.out).mono ?_); rintro e w' ⟨rfl, ⟨nd, rfl⟩⟩; refine ⟨_, rfl, ?_⟩))
              go_ret
              exact ⟨by first | rfl | (simp; done) | (simp [*]; done), by repeat (first | exact Drawn0.refl _ | apply Drawn0.step)⟩
            · rw [if_neg c7] at H
              have c7b0 : (x3_1 == 0) = false := beq_eq_false_iff_ne.mpr c7
              have c7b1 : (x3_1 != 0) = true := bne_iff_ne.mpr c7
              replace H := Option.bind_eq_some_iff.mp H
              obtain ⟨t119, A90, H⟩ := H
              replace H : (if t119 = true then (cylinderref35_name.l0 k1 a0 (wrap64 (x3_1 + 1))) else (some false)) = some r := H
              have A9 := Aside0.mk A90
              clear A90
              by_cases c10 : t119 = true
              · subst c10
                have H1 : (cylinderref35_name.l0 k1 a0 (wrap64 (x3_1 + 1))) = some r := by rw [if_pos rfl] at H; exact H
                clear H
                have H := H1
                clear H1
                have H' := Aside0.mk H
                clear H
                have p4 : 0 ≤ (x3_1 : Int) := of_decide_eq_true (by first | (with_reducible assumption) | assumption)
                have q4 : x3_1 < (a0.size : Int) := of_decide_eq_true (by first | (with_reducible assumption) | assumption)
                have hx4 := bt_at a0 x3_1
                replace p4 := eq_true p4
                replace q4 := eq_true q4
                go_wp2_with (first | ((with_reducible refine gate_callee (f := 48) rfl ?_); refine goesL_ (some 13) rfl rfl Try.func48 (by kernel_rfl) rfl #[.int .u8 (bt a0 x3_1)] rfl (by (try simp only [List.map_toArray, List.map_cons, List.map_nil]); first | done | rfl | (simp only [List.length_drop, List.length_take]; rfl)) ?_; (with_reducible refine (cylinderref35_letter.calls (bt a0 x3_1) false _ A5.out).mono ?_); rintro e w' ⟨rfl, ⟨nd, rfl⟩⟩; refine ⟨_, rfl, ?_⟩; have p8 : 0 ≤ (x3_1 : Int) := of_decide_eq_true (by first | (with_reducible assumption) | assumption); have q8 : x3_1 < (a0.size : Int) := of_decide_eq_true (by first | (with_reducible assumption) | assumption); have hx8 := bt_at a0 x3_1; replace p8 := eq_true p8; replace q8 := eq_true q8) | (go_at_call 47; (with_reducible refine (cylinderref35_digit.calls (bt a0 x3_1) true _ A9.out).mono ?_); rintro e w' ⟨rfl, ⟨nd, rfl⟩⟩))
                go_roundg k1
                case measure => have := HK1.out; omega
                case rel => exact ⟨(wrap64 (x3_1 + 1)), (by first | rfl | (simp; done) | (simp [*]; done)), H', ⟨by have := HK1.out; omega⟩, by repeat (first | exact Drawn0.refl _ | apply Drawn0.step)⟩
              · replace c10 := Bool.eq_false_iff.mpr c10
                subst c10
                have H1 : (some false) = some r := by rw [if_neg (show ¬ (false = true) by decide)] at H; exact H
                clear H
                have H := H1
                clear H1
                obtain rfl := Option.some.inj H
                have p4 : 0 ≤ (x3_1 : Int) := of_decide_eq_true (by first | (with_reducible assumption) | assumption)
                have q4 : x3_1 < (a0.size : Int) := of_decide_eq_true (by first | (with_reducible assumption) | assumption)
                have hx4 := bt_at a0 x3_1
                replace p4 := eq_true p4
                replace q4 := eq_true q4
                go_wp2_with (first | ((with_reducible refine gate_callee (f := 48) rfl ?_); refine goesL_ (some 13) rfl rfl Try.func48 (by kernel_rfl) rfl #[.int .u8 (bt a0 x3_1)] rfl (by (try simp only [List.map_toArray, List.map_cons, List.map_nil]); first | done | rfl | (simp only [List.length_drop, List.length_take]; rfl)) ?_; (with_reducible refine (cylinderref35_letter.calls (bt a0 x3_1) false _ A5.out).mono ?_); rintro e w' ⟨rfl, ⟨nd, rfl⟩⟩; refine ⟨_, rfl, ?_⟩; have p8 : 0 ≤ (x3_1 : Int) := of_decide_eq_true (by first | (with_reducible assumption) | assumption); have q8 : x3_1 < (a0.size : Int) := of_decide_eq_true (by first | (with_reducible assumption) | assumption); have hx8 := bt_at a0 x3_1; replace p8 := eq_true p8; replace q8 := eq_true q8) | (go_at_call 47; (with_reducible refine (cylinderref35_digit.calls (bt a0 x3_1) false _ A9.out).mono ?_); rintro e w' ⟨rfl, ⟨nd, rfl⟩⟩))
                go_ret
                exact ⟨by first | rfl | (simp; done) | (simp [*]; done), by repeat (first | exact Drawn0.refl _ | apply Drawn0.step)⟩
        · rw [if_neg c3] at H
          exact absurd H (by simp)
      · rw [if_neg c2] at H
        have c2b0 : decide (x3_1 < (a0.size : Int)) = false := decide_eq_false c2
        clear c2
        obtain rfl := Option.some.inj H
        go_wp2
        go_ret
        exact ⟨by first | rfl | (simp; done) | (simp [*]; done), by repeat (first | exact Drawn0.refl _ | apply Drawn0.step)⟩

/-! ### cylinderref35_signs: function 41 -/
def cylinderref35_signs.f  : Option (List ByteArray) := some (([(⟨#[43]⟩ : ByteArray), (⟨#[45]⟩ : ByteArray), (⟨#[42]⟩ : ByteArray), (⟨#[94]⟩ : ByteArray), (⟨#[40]⟩ : ByteArray), (⟨#[41]⟩ : ByteArray), (⟨#[61]⟩ : ByteArray), (⟨#[60, 62]⟩ : ByteArray), (⟨#[60]⟩ : ByteArray), (⟨#[60, 61]⟩ : ByteArray), (⟨#[62]⟩ : ByteArray), (⟨#[62, 61]⟩ : ByteArray), (⟨#[44]⟩ : ByteArray), (⟨#[46]⟩ : ByteArray)] : List ByteArray))
set_option maxHeartbeats 8000000 in
set_option maxRecDepth 100000 in
theorem cylinderref35_signs.calls  (r : List ByteArray) (w : World) (h : cylinderref35_signs.f  = some r) :
    Calls Try.prog 41 #[] w fun e w' => ∃ v0_ : Value, e = .returned (v0_) ∧ Kd.R Kd.string 9 w' w.heap.size (fun _ => True) v0_ r ∧ Below w.heap.size w w' := by
  have HB := Aside0.mk (Below.refl w.heap.size w)
  have H : (some (([(⟨#[43]⟩ : ByteArray), (⟨#[45]⟩ : ByteArray), (⟨#[42]⟩ : ByteArray), (⟨#[94]⟩ : ByteArray), (⟨#[40]⟩ : ByteArray), (⟨#[41]⟩ : ByteArray), (⟨#[61]⟩ : ByteArray), (⟨#[60, 62]⟩ : ByteArray), (⟨#[60]⟩ : ByteArray), (⟨#[60, 61]⟩ : ByteArray), (⟨#[62]⟩ : ByteArray), (⟨#[62, 61]⟩ : ByteArray), (⟨#[44]⟩ : ByteArray), (⟨#[46]⟩ : ByteArray)] : List ByteArray))) = some r := h
  clear h
  obtain ⟨y120, hy120⟩ : ∃ y_ : List ByteArray, y_ = (([(⟨#[43]⟩ : ByteArray), (⟨#[45]⟩ : ByteArray), (⟨#[42]⟩ : ByteArray), (⟨#[94]⟩ : ByteArray), (⟨#[40]⟩ : ByteArray), (⟨#[41]⟩ : ByteArray), (⟨#[61]⟩ : ByteArray), (⟨#[60, 62]⟩ : ByteArray), (⟨#[60]⟩ : ByteArray), (⟨#[60, 61]⟩ : ByteArray), (⟨#[62]⟩ : ByteArray), (⟨#[62, 61]⟩ : ByteArray), (⟨#[44]⟩ : ByteArray), (⟨#[46]⟩ : ByteArray)] : List ByteArray)) := ⟨_, rfl⟩
  replace H : (some y120) = some r := by first | (rw [hy120]; with_reducible exact H) | (have H2_ := (Option.bind_some _ _).symm.trans H; rw [hy120]; with_reducible exact H2_) | (have H2_ := (Option.bind_some _ _).symm.trans H; with_reducible exact H2_) | with_reducible exact H | (rw [hy120]; exact H) | exact H
  have Ny120 := Aside0.mk hy120
  clear hy120
  obtain rfl := Option.some.inj H
  go_enter Try.func41, Try.ntmps41
  go_wp2_with (first | ((with_reducible refine gate_dst (N := 1) rfl ?_); refine Kd.R_lit Kd.string _ 9 ?hg (N := 1) ?hd (xs := ([(⟨#[43]⟩ : ByteArray), (⟨#[45]⟩ : ByteArray), (⟨#[42]⟩ : ByteArray), (⟨#[94]⟩ : ByteArray), (⟨#[40]⟩ : ByteArray), (⟨#[41]⟩ : ByteArray), (⟨#[61]⟩ : ByteArray), (⟨#[60, 62]⟩ : ByteArray), (⟨#[60]⟩ : ByteArray), (⟨#[60, 61]⟩ : ByteArray), (⟨#[62]⟩ : ByteArray), (⟨#[62, 61]⟩ : ByteArray), (⟨#[44]⟩ : ByteArray), (⟨#[46]⟩ : ByteArray)] : List ByteArray)) (inner := [.string (⟨#[43]⟩ : ByteArray), .string (⟨#[45]⟩ : ByteArray), .string (⟨#[42]⟩ : ByteArray), .string (⟨#[94]⟩ : ByteArray), .string (⟨#[40]⟩ : ByteArray), .string (⟨#[41]⟩ : ByteArray), .string (⟨#[61]⟩ : ByteArray), .string (⟨#[60, 62]⟩ : ByteArray), .string (⟨#[60]⟩ : ByteArray), .string (⟨#[60, 61]⟩ : ByteArray), .string (⟨#[62]⟩ : ByteArray), .string (⟨#[62, 61]⟩ : ByteArray), .string (⟨#[44]⟩ : ByteArray), .string (⟨#[46]⟩ : ByteArray)]) (ok := fun _ => True) (okp := fun _ => True) ?hr ?hp (fun _ hk => hk) trivial (Below.refl _ _) (Nat.le_refl _) (by simp) ?_; (case hd => rfl); (case hg => rfl); (case hr => first | (go_simp; done) | (go_simp; rfl)); (case hp => exact (Reps.one (show Kd.M Kd.string _ _ _ (⟨#[43]⟩ : ByteArray) [.string (⟨#[43]⟩ : ByteArray)] from rfl) (Reps.one (show Kd.M Kd.string _ _ _ (⟨#[45]⟩ : ByteArray) [.string (⟨#[45]⟩ : ByteArray)] from rfl) (Reps.one (show Kd.M Kd.string _ _ _ (⟨#[42]⟩ : ByteArray) [.string (⟨#[42]⟩ : ByteArray)] from rfl) (Reps.one (show Kd.M Kd.string _ _ _ (⟨#[94]⟩ : ByteArray) [.string (⟨#[94]⟩ : ByteArray)] from rfl) (Reps.one (show Kd.M Kd.string _ _ _ (⟨#[40]⟩ : ByteArray) [.string (⟨#[40]⟩ : ByteArray)] from rfl) (Reps.one (show Kd.M Kd.string _ _ _ (⟨#[41]⟩ : ByteArray) [.string (⟨#[41]⟩ : ByteArray)] from rfl) (Reps.one (show Kd.M Kd.string _ _ _ (⟨#[61]⟩ : ByteArray) [.string (⟨#[61]⟩ : ByteArray)] from rfl) (Reps.one (show Kd.M Kd.string _ _ _ (⟨#[60, 62]⟩ : ByteArray) [.string (⟨#[60, 62]⟩ : ByteArray)] from rfl) (Reps.one (show Kd.M Kd.string _ _ _ (⟨#[60]⟩ : ByteArray) [.string (⟨#[60]⟩ : ByteArray)] from rfl) (Reps.one (show Kd.M Kd.string _ _ _ (⟨#[60, 61]⟩ : ByteArray) [.string (⟨#[60, 61]⟩ : ByteArray)] from rfl) (Reps.one (show Kd.M Kd.string _ _ _ (⟨#[62]⟩ : ByteArray) [.string (⟨#[62]⟩ : ByteArray)] from rfl) (Reps.one (show Kd.M Kd.string _ _ _ (⟨#[62, 61]⟩ : ByteArray) [.string (⟨#[62, 61]⟩ : ByteArray)] from rfl) (Reps.one (show Kd.M Kd.string _ _ _ (⟨#[44]⟩ : ByteArray) [.string (⟨#[44]⟩ : ByteArray)] from rfl) (Reps.one (show Kd.M Kd.string _ _ _ (⟨#[46]⟩ : ByteArray) [.string (⟨#[46]⟩ : ByteArray)] from rfl) (Reps.none _ _)))))))))))))))); intro v121 w1 ho2 hb hg_ hnew_; clear hg_ hnew_; (first | rw [← Ny120.out] at ho2 | (simp only [Int.reduceToNat] at ho2; rw [← Ny120.out] at ho2)); have n0_ := Aside0.mk (Kd.R_lower ho2 (below_size (by repeat (first | (with_reducible first | exact HB.out | apply below_alloc | apply pw_below_drewN | apply below_drew1) | exact HB.out)))); have n1_ := Aside0.mk (below_step (by repeat (first | (with_reducible first | exact HB.out | apply below_alloc | apply pw_below_drewN | apply below_drew1) | exact HB.out)) hb); clear HB; have HO122 := n0_; have HB := n1_; clear n0_ n1_; clear hb ho2))
  go_ret
  exact ⟨_, by first | rfl | (simp [errW_none, errW_some] <;> rfl) | (simp [*, errW_none, errW_some] <;> rfl), by (with_reducible repeat (first | apply Kd.R_alloc | apply Kd.R_drewN | apply Kd.R_drew)); exact HO122.out, by repeat (first | (with_reducible first | exact HB.out | apply below_alloc | apply pw_below_drewN | apply below_drew1) | exact HB.out)⟩

/-! ### cylinderref35_kind: function 29 -/
def cylinderref35_kind.f (k : Nat) (a0 : ByteArray) : Option (Int) := (cylinderref35_number.f k a0).bind fun t123 => (if t123 = true then (some 1) else ((cylinderref35_name.f k a0).bind fun t124 => (if t124 = true then ((cylinderref35_IsWord.f k a0).bind fun t125 => (if t125 = true then (some 3) else (some 2))) else ((cylinderref35_signs.f).bind fun t126 => ((cylinderref35_Has.f k t126 a0).bind fun t129 => (if t129 = true then (some 4) else (some 0)))))))
theorem cylinderref35_kind.mono : ∀ a0 k, LeO (cylinderref35_kind.f k a0) (cylinderref35_kind.f (k + 1) a0) := by
  intro a0 k
  unfold cylinderref35_kind.f
  repeat' first
      | (with_reducible exact cylinderref35_Has.mono _ _ _)
      | (with_reducible exact cylinderref35_IsWord.mono _ _)
      | (with_reducible exact cylinderref35_name.mono _ _)
      | (with_reducible exact cylinderref35_number.mono _ _)
      | (with_reducible exact LeO.refl _)
      | (with_reducible exact LeO.none _)
      | (with_reducible refine LeO.ite ?_ ?_)
      | (with_reducible refine LeO.bind ?_ (fun _ => ?_))
      | exact cylinderref35_Has.mono _ _ _
      | exact cylinderref35_IsWord.mono _ _
      | exact cylinderref35_name.mono _ _
      | exact cylinderref35_number.mono _ _
      | exact LeO.none _
      | refine LeO.ite ?_ ?_
      | refine LeO.bind ?_ (fun _ => ?_)
set_option maxHeartbeats 8000000 in
set_option maxRecDepth 100000 in
theorem cylinderref35_kind.calls (k : Nat) (a0 : ByteArray) (r : Int) (w : World) (h : cylinderref35_kind.f k a0 = some r) :
    Calls Try.prog 29 #[.string a0] w fun e w' => e = .returned (.int .i64 r) ∧ Below w.heap.size w w' := by
  have HB := Aside0.mk (Below.refl w.heap.size w)
  have H : ((cylinderref35_number.f k a0).bind fun t123 => (if t123 = true then (some 1) else ((cylinderref35_name.f k a0).bind fun t124 => (if t124 = true then ((cylinderref35_IsWord.f k a0).bind fun t125 => (if t125 = true then (some 3) else (some 2))) else ((cylinderref35_signs.f).bind fun t126 => ((cylinderref35_Has.f k t126 a0).bind fun t129 => (if t129 = true then (some 4) else (some 0)))))))) = some r := h
  clear h
  replace H := Option.bind_eq_some_iff.mp H
  obtain ⟨t123, A20, H⟩ := H
  replace H : (if t123 = true then (some 1) else ((cylinderref35_name.f k a0).bind fun t124 => (if t124 = true then ((cylinderref35_IsWord.f k a0).bind fun t125 => (if t125 = true then (some 3) else (some 2))) else ((cylinderref35_signs.f).bind fun t126 => ((cylinderref35_Has.f k t126 a0).bind fun t129 => (if t129 = true then (some 4) else (some 0))))))) = some r := H
  have A2 := Aside0.mk A20
  clear A20
  by_cases c3 : t123 = true
  · subst c3
    have H1 : (some 1) = some r := by rw [if_pos rfl] at H; exact H
    clear H
    have H := H1
    clear H1
    obtain rfl := Option.some.inj H
    go_enter Try.func29, Try.ntmps29
    go_wp2_with (first | ((with_reducible refine gate_callee (f := 39) rfl ?_); refine goesL_ (some 4) rfl rfl Try.func39 (by kernel_rfl) rfl #[.string a0] rfl (by (try simp only [List.map_toArray, List.map_cons, List.map_nil]); first | done | rfl | (simp only [List.length_drop, List.length_take]; rfl)) ?_; (with_reducible refine (cylinderref35_number.calls k a0 true _ A2.out).mono ?_); rintro e w' ⟨rfl, ⟨nd, rfl⟩⟩; refine ⟨_, rfl, ?_⟩))
    go_ret
    exact ⟨by first | rfl | (simp [errW_none, errW_some] <;> rfl) | (simp [*, errW_none, errW_some] <;> rfl) | (rw [wrap64_wrap_add]; rfl) | (have e_ := Option.some.inj (A28.out.symm.trans A30.out); subst e_; rfl), by repeat (first | (with_reducible first | exact HB.out | apply below_alloc | apply pw_below_drewN | apply below_drew1) | exact HB.out)⟩
  · replace c3 := Bool.eq_false_iff.mpr c3
    subst c3
    have H1 : ((cylinderref35_name.f k a0).bind fun t124 => (if t124 = true then ((cylinderref35_IsWord.f k a0).bind fun t125 => (if t125 = true then (some 3) else (some 2))) else ((cylinderref35_signs.f).bind fun t126 => ((cylinderref35_Has.f k t126 a0).bind fun t129 => (if t129 = true then (some 4) else (some 0)))))) = some r := by rw [if_neg (show ¬ (false = true) by decide)] at H; exact H
    clear H
    have H := H1
    clear H1
    replace H := Option.bind_eq_some_iff.mp H
    obtain ⟨t124, A40, H⟩ := H
    replace H : (if t124 = true then ((cylinderref35_IsWord.f k a0).bind fun t125 => (if t125 = true then (some 3) else (some 2))) else ((cylinderref35_signs.f).bind fun t126 => ((cylinderref35_Has.f k t126 a0).bind fun t129 => (if t129 = true then (some 4) else (some 0))))) = some r := H
    have A4 := Aside0.mk A40
    clear A40
    by_cases c5 : t124 = true
    · subst c5
      have H1 : ((cylinderref35_IsWord.f k a0).bind fun t125 => (if t125 = true then (some 3) else (some 2))) = some r := by rw [if_pos rfl] at H; exact H
      clear H
      have H := H1
      clear H1
      replace H := Option.bind_eq_some_iff.mp H
      obtain ⟨t125, A60, H⟩ := H
      replace H : (if t125 = true then (some 3) else (some 2)) = some r := H
      have A6 := Aside0.mk A60
      clear A60
      by_cases c7 : t125 = true
      · subst c7
        have H1 : (some 3) = some r := by rw [if_pos rfl] at H; exact H
        clear H
        have H := H1
        clear H1
        obtain rfl := Option.some.inj H
        go_enter Try.func29, Try.ntmps29
        go_wp2_with (first | ((with_reducible refine gate_callee (f := 39) rfl ?_); refine goesL_ (some 4) rfl rfl Try.func39 (by kernel_rfl) rfl #[.string a0] rfl (by (try simp only [List.map_toArray, List.map_cons, List.map_nil]); first | done | rfl | (simp only [List.length_drop, List.length_take]; rfl)) ?_; (with_reducible refine (cylinderref35_number.calls k a0 false _ A2.out).mono ?_); rintro e w' ⟨rfl, ⟨nd, rfl⟩⟩; refine ⟨_, rfl, ?_⟩) | ((with_reducible refine gate_callee (f := 40) rfl ?_); refine goesL_ (some 6) rfl rfl Try.func40 (by kernel_rfl) rfl #[.string a0] rfl (by (try simp only [List.map_toArray, List.map_cons, List.map_nil]); first | done | rfl | (simp only [List.length_drop, List.length_take]; rfl)) ?_; (with_reducible refine (cylinderref35_name.calls k a0 true _ A4.out).mono ?_); rintro e w' ⟨rfl, ⟨nd, rfl⟩⟩; refine ⟨_, rfl, ?_⟩) | ((with_reducible refine gate_callee (f := 21) rfl ?_); refine goesL_ (some 8) rfl rfl Try.func21 (by kernel_rfl) rfl #[.string a0] rfl (by (try simp only [List.map_toArray, List.map_cons, List.map_nil]); first | done | rfl | (simp only [List.length_drop, List.length_take]; rfl)) ?_; (with_reducible refine (cylinderref35_IsWord.calls k a0 true _ A6.out).mono ?_); rintro e w8 ⟨rfl, hb⟩; refine ⟨_, rfl, ?_⟩; have n0_ := Aside0.mk (below_step (by repeat (first | (with_reducible first | exact HB.out | apply below_alloc | apply pw_below_drewN | apply below_drew1) | exact HB.out)) hb); clear HB; have HB := n0_; clear n0_; (try clear hb); (try clear hb2); (try clear hk); (try clear hi)))
        go_ret
        exact ⟨by first | rfl | (simp [errW_none, errW_some] <;> rfl) | (simp [*, errW_none, errW_some] <;> rfl) | (rw [wrap64_wrap_add]; rfl) | (have e_ := Option.some.inj (A28.out.symm.trans A30.out); subst e_; rfl), by repeat (first | (with_reducible first | exact HB.out | apply below_alloc | apply pw_below_drewN | apply below_drew1) | exact HB.out)⟩
      · replace c7 := Bool.eq_false_iff.mpr c7
        subst c7
        have H1 : (some 2) = some r := by rw [if_neg (show ¬ (false = true) by decide)] at H; exact H
        clear H
        have H := H1
        clear H1
        obtain rfl := Option.some.inj H
        go_enter Try.func29, Try.ntmps29
        go_wp2_with (first | ((with_reducible refine gate_callee (f := 39) rfl ?_); refine goesL_ (some 4) rfl rfl Try.func39 (by kernel_rfl) rfl #[.string a0] rfl (by (try simp only [List.map_toArray, List.map_cons, List.map_nil]); first | done | rfl | (simp only [List.length_drop, List.length_take]; rfl)) ?_; (with_reducible refine (cylinderref35_number.calls k a0 false _ A2.out).mono ?_); rintro e w' ⟨rfl, ⟨nd, rfl⟩⟩; refine ⟨_, rfl, ?_⟩) | ((with_reducible refine gate_callee (f := 40) rfl ?_); refine goesL_ (some 6) rfl rfl Try.func40 (by kernel_rfl) rfl #[.string a0] rfl (by (try simp only [List.map_toArray, List.map_cons, List.map_nil]); first | done | rfl | (simp only [List.length_drop, List.length_take]; rfl)) ?_; (with_reducible refine (cylinderref35_name.calls k a0 true _ A4.out).mono ?_); rintro e w' ⟨rfl, ⟨nd, rfl⟩⟩; refine ⟨_, rfl, ?_⟩) | ((with_reducible refine gate_callee (f := 21) rfl ?_); refine goesL_ (some 8) rfl rfl Try.func21 (by kernel_rfl) rfl #[.string a0] rfl (by (try simp only [List.map_toArray, List.map_cons, List.map_nil]); first | done | rfl | (simp only [List.length_drop, List.length_take]; rfl)) ?_; (with_reducible refine (cylinderref35_IsWord.calls k a0 false _ A6.out).mono ?_); rintro e w9 ⟨rfl, hb⟩; refine ⟨_, rfl, ?_⟩; have n0_ := Aside0.mk (below_step (by repeat (first | (with_reducible first | exact HB.out | apply below_alloc | apply pw_below_drewN | apply below_drew1) | exact HB.out)) hb); clear HB; have HB := n0_; clear n0_; (try clear hb); (try clear hb2); (try clear hk); (try clear hi)))
        go_ret
        exact ⟨by first | rfl | (simp [errW_none, errW_some] <;> rfl) | (simp [*, errW_none, errW_some] <;> rfl) | (rw [wrap64_wrap_add]; rfl) | (have e_ := Option.some.inj (A28.out.symm.trans A30.out); subst e_; rfl), by repeat (first | (with_reducible first | exact HB.out | apply below_alloc | apply pw_below_drewN | apply below_drew1) | exact HB.out)⟩
    · replace c5 := Bool.eq_false_iff.mpr c5
      subst c5
      have H1 : ((cylinderref35_signs.f).bind fun t126 => ((cylinderref35_Has.f k t126 a0).bind fun t129 => (if t129 = true then (some 4) else (some 0)))) = some r := by rw [if_neg (show ¬ (false = true) by decide)] at H; exact H
      clear H
      have H := H1
      clear H1
      replace H := Option.bind_eq_some_iff.mp H
      obtain ⟨t126, A100, H⟩ := H
      replace H : ((cylinderref35_Has.f k t126 a0).bind fun t129 => (if t129 = true then (some 4) else (some 0))) = some r := H
      have A10 := Aside0.mk A100
      clear A100
      replace H := Option.bind_eq_some_iff.mp H
      obtain ⟨t129, A110, H⟩ := H
      replace H : (if t129 = true then (some 4) else (some 0)) = some r := H
      have A11 := Aside0.mk A110
      clear A110
      by_cases c12 : t129 = true
      · subst c12
        have H1 : (some 4) = some r := by rw [if_pos rfl] at H; exact H
        clear H
        have H := H1
        clear H1
        obtain rfl := Option.some.inj H
        go_enter Try.func29, Try.ntmps29
        go_wp2_with (first | ((with_reducible refine gate_callee (f := 39) rfl ?_); refine goesL_ (some 4) rfl rfl Try.func39 (by kernel_rfl) rfl #[.string a0] rfl (by (try simp only [List.map_toArray, List.map_cons, List.map_nil]); first | done | rfl | (simp only [List.length_drop, List.length_take]; rfl)) ?_; (with_reducible refine (cylinderref35_number.calls k a0 false _ A2.out).mono ?_); rintro e w' ⟨rfl, ⟨nd, rfl⟩⟩; refine ⟨_, rfl, ?_⟩) | ((with_reducible refine gate_callee (f := 40) rfl ?_); refine goesL_ (some 6) rfl rfl Try.func40 (by kernel_rfl) rfl #[.string a0] rfl (by (try simp only [List.map_toArray, List.map_cons, List.map_nil]); first | done | rfl | (simp only [List.length_drop, List.length_take]; rfl)) ?_; (with_reducible refine (cylinderref35_name.calls k a0 false _ A4.out).mono ?_); rintro e w' ⟨rfl, ⟨nd, rfl⟩⟩; refine ⟨_, rfl, ?_⟩) | ((with_reducible refine gate_callee (f := 41) rfl ?_); refine goesL_ (some 9) rfl rfl Try.func41 (by kernel_rfl) rfl #[] rfl (by (try simp only [List.map_toArray, List.map_cons, List.map_nil]); first | done | rfl | (simp only [List.length_drop, List.length_take]; rfl)) ?_; (with_reducible refine (cylinderref35_signs.calls  t126 _ A10.out).mono ?_); rintro e w13 ⟨v127, rfl, ho0, hb⟩; refine ⟨_, rfl, ?_⟩; have n0_ := Aside0.mk (Kd.R_lower ho0 (below_size (by repeat (first | (with_reducible first | exact HB.out | apply below_alloc | apply pw_below_drewN | apply below_drew1) | exact HB.out)))); have n1_ := Aside0.mk (below_step (by repeat (first | (with_reducible first | exact HB.out | apply below_alloc | apply pw_below_drewN | apply below_drew1) | exact HB.out)) hb); clear HB; have HO128 := n0_; have HB := n1_; clear n0_ n1_; (try clear hb); (try clear hb2); (try clear hk); (try clear hi); (try clear ho0); obtain ⟨Ao14, co14, eo14⟩ := Kd.R_slice HO128.out; subst eo14) | ((with_reducible refine gate_callee (f := 31) rfl ?_); refine goesL_ (some 11) rfl rfl Try.func31 (by kernel_rfl) rfl #[.slice Ao14 t126.length co14, .string a0] rfl (by (try simp only [List.map_toArray, List.map_cons, List.map_nil]); first | done | rfl | (simp only [List.length_drop, List.length_take]; rfl)) ?_; (with_reducible refine (cylinderref35_Has.calls k _ _ t126 a0 true _ ?side1 ?side2 A11.out).mono ?_); (case side1 => repeat (first | exact (Kd.R_reads' HO128.out).2.2 | (with_reducible refine Kd.C_alloc ?_ _) | (with_reducible refine Kd.C_drewN ?_ _) | (with_reducible refine Kd.C_drew ?_))); (case side2 => exact (Kd.R_reads' HO128.out).2.1); rintro e w' ⟨rfl, ⟨nd, rfl⟩⟩; refine ⟨_, rfl, ?_⟩))
        go_ret
        exact ⟨by first | rfl | (simp [errW_none, errW_some] <;> rfl) | (simp [*, errW_none, errW_some] <;> rfl) | (rw [wrap64_wrap_add]; rfl) | (have e_ := Option.some.inj (A28.out.symm.trans A30.out); subst e_; rfl), by repeat (first | (with_reducible first | exact HB.out | apply below_alloc | apply pw_below_drewN | apply below_drew1) | exact HB.out)⟩
      · replace c12 := Bool.eq_false_iff.mpr c12
        subst c12
        have H1 : (some 0) = some r := by rw [if_neg (show ¬ (false = true) by decide)] at H; exact H
        clear H
        have H := H1
        clear H1
        obtain rfl := Option.some.inj H
        go_enter Try.func29, Try.ntmps29
        go_wp2_with (first | ((with_reducible refine gate_callee (f := 39) rfl ?_); refine goesL_ (some 4) rfl rfl Try.func39 (by kernel_rfl) rfl #[.string a0] rfl (by (try simp only [List.map_toArray, List.map_cons, List.map_nil]); first | done | rfl | (simp only [List.length_drop, List.length_take]; rfl)) ?_; (with_reducible refine (cylinderref35_number.calls k a0 false _ A2.out).mono ?_); rintro e w' ⟨rfl, ⟨nd, rfl⟩⟩; refine ⟨_, rfl, ?_⟩) | ((with_reducible refine gate_callee (f := 40) rfl ?_); refine goesL_ (some 6) rfl rfl Try.func40 (by kernel_rfl) rfl #[.string a0] rfl (by (try simp only [List.map_toArray, List.map_cons, List.map_nil]); first | done | rfl | (simp only [List.length_drop, List.length_take]; rfl)) ?_; (with_reducible refine (cylinderref35_name.calls k a0 false _ A4.out).mono ?_); rintro e w' ⟨rfl, ⟨nd, rfl⟩⟩; refine ⟨_, rfl, ?_⟩) | ((with_reducible refine gate_callee (f := 41) rfl ?_); refine goesL_ (some 9) rfl rfl Try.func41 (by kernel_rfl) rfl #[] rfl (by (try simp only [List.map_toArray, List.map_cons, List.map_nil]); first | done | rfl | (simp only [List.length_drop, List.length_take]; rfl)) ?_; (with_reducible refine (cylinderref35_signs.calls  t126 _ A10.out).mono ?_); rintro e w15 ⟨v127, rfl, ho0, hb⟩; refine ⟨_, rfl, ?_⟩; have n0_ := Aside0.mk (Kd.R_lower ho0 (below_size (by repeat (first | (with_reducible first | exact HB.out | apply below_alloc | apply pw_below_drewN | apply below_drew1) | exact HB.out)))); have n1_ := Aside0.mk (below_step (by repeat (first | (with_reducible first | exact HB.out | apply below_alloc | apply pw_below_drewN | apply below_drew1) | exact HB.out)) hb); clear HB; have HO128 := n0_; have HB := n1_; clear n0_ n1_; (try clear hb); (try clear hb2); (try clear hk); (try clear hi); (try clear ho0); obtain ⟨Ao16, co16, eo16⟩ := Kd.R_slice HO128.out; subst eo16) | ((with_reducible refine gate_callee (f := 31) rfl ?_); refine goesL_ (some 11) rfl rfl Try.func31 (by kernel_rfl) rfl #[.slice Ao16 t126.length co16, .string a0] rfl (by (try simp only [List.map_toArray, List.map_cons, List.map_nil]); first | done | rfl | (simp only [List.length_drop, List.length_take]; rfl)) ?_; (with_reducible refine (cylinderref35_Has.calls k _ _ t126 a0 false _ ?side1 ?side2 A11.out).mono ?_); (case side1 => repeat (first | exact (Kd.R_reads' HO128.out).2.2 | (with_reducible refine Kd.C_alloc ?_ _) | (with_reducible refine Kd.C_drewN ?_ _) | (with_reducible refine Kd.C_drew ?_))); (case side2 => exact (Kd.R_reads' HO128.out).2.1); rintro e w' ⟨rfl, ⟨nd, rfl⟩⟩; refine ⟨_, rfl, ?_⟩))
        go_ret
        exact ⟨by first | rfl | (simp [errW_none, errW_some] <;> rfl) | (simp [*, errW_none, errW_some] <;> rfl) | (rw [wrap64_wrap_add]; rfl) | (have e_ := Option.some.inj (A28.out.symm.trans A30.out); subst e_; rfl), by repeat (first | (with_reducible first | exact HB.out | apply below_alloc | apply pw_below_drewN | apply below_drew1) | exact HB.out)⟩

end Go.Proofs.Ytkomgnaleocleaa.PAll
