-- printed by wip/tools/xprint.py (the kit's print program, with stubs); checked by Lean
import Derived.Test.YtkomgnaleocleaaPAllx0
import Derived.Test.YtkomgnaleocleaaPAllx7
namespace Go.Proofs.Ytkomgnaleocleaa.PAll
open Go.RowKit Go.Proofs.YtkomgnaleocleaaW.PrintWords Go.Proofs.YtkomgnaleocleaaW.PrintLast Go.Proofs.YtkomgnaleocleaaW.PrintMore
attribute [local go_sem] max2_int min2_int max_two min_two max_three min_three max_four min_four   -- for this text's walks alone
set_option linter.unusedVariables false
set_option linter.unusedSimpArgs false

/-! ### formula_Valid: function 19 -/
mutual
def formula_Valid.j0 : Nat → ByteArray → Bool → Option (Bool)
  | 0, _, _ => none
  | k + 1, x0, x17 => if x17 = true then (some false) else (formula_Valid.l0 k x0 (x0.size : Int) 0)
def formula_Valid.l0 : Nat → ByteArray → Int → Int → Option (Bool)
  | 0, _, _, _ => none
  | k + 1, x0, x19, x20 => if x20 < x19 then (if 0 ≤ x20 then (if x20 < (x0.size : Int) then ((formula_letter.f (bt x0 x20)).bind fun t220 => (if t220 = true then (formula_Valid.l0 k x0 x19 (wrap64 (x20 + 1))) else (if (bt x0 x20) < 48 then (some false) else (if (bt x0 x20) > 57 then (some false) else (formula_Valid.l0 k x0 x19 (wrap64 (x20 + 1))))))) else (none)) else (none)) else (if x0.toList = ([116, 114, 117, 101] : List UInt8) then (some false) else (if x0.toList = ([102, 97, 108, 115, 101] : List UInt8) then (some false) else (if x0.toList = ([97, 110, 100] : List UInt8) then (some false) else (if x0.toList = ([111, 114] : List UInt8) then (some false) else (if x0.toList = ([110, 111, 116] : List UInt8) then (some false) else (if x0.toList = ([105, 109, 112, 108, 105, 101, 115] : List UInt8) then (some false) else (if x0.toList = ([105, 102, 102] : List UInt8) then (some false) else (if x0.toList = ([102, 111, 114, 97, 108, 108] : List UInt8) then (some false) else (if x0.toList = ([101, 120, 105, 115, 116, 115] : List UInt8) then (some false) else (some true))))))))))
end
def formula_Valid.f (k : Nat) (a0 : ByteArray) : Option (Bool) := if (a0.size : Int) < 1 then (formula_Valid.j0 k a0 true) else (if (a0.size : Int) > 16 then (formula_Valid.j0 k a0 true) else (if 0 < (a0.size : Int) then ((formula_letter.f (bt a0 0)).bind fun t219 => (formula_Valid.j0 k a0 (!t219))) else (none)))
theorem formula_Valid.mono_l : ∀ k, (∀ y0 y1, LeO (formula_Valid.j0 k y0 y1) (formula_Valid.j0 (k + 1) y0 y1)) ∧ (∀ y0 y1 y2, LeO (formula_Valid.l0 k y0 y1 y2) (formula_Valid.l0 (k + 1) y0 y1 y2))
  | 0 => ⟨fun _ _ r h => by simp [formula_Valid.j0] at h, fun _ _ _ r h => by simp [formula_Valid.l0] at h⟩
  | k + 1 => by
    obtain ⟨ih0, ih1⟩ := formula_Valid.mono_l k
    refine ⟨?_, ?_⟩
    · intro y0 y1
      unfold formula_Valid.j0
      repeat' first
      | (with_reducible exact ih0 _ _)
      | (with_reducible exact ih1 _ _ _)
      | (with_reducible exact LeO.refl _)
      | (with_reducible exact LeO.none _)
      | (with_reducible refine LeO.ite ?_ ?_)
      | (with_reducible refine LeO.bind ?_ (fun _ => ?_))
      | exact ih0 _ _
      | exact ih1 _ _ _
      | exact LeO.none _
      | refine LeO.ite ?_ ?_
      | refine LeO.bind ?_ (fun _ => ?_)
    · intro y0 y1 y2
      unfold formula_Valid.l0
      repeat' first
      | (with_reducible exact ih0 _ _)
      | (with_reducible exact ih1 _ _ _)
      | (with_reducible exact LeO.refl _)
      | (with_reducible exact LeO.none _)
      | (with_reducible refine LeO.ite ?_ ?_)
      | (with_reducible refine LeO.bind ?_ (fun _ => ?_))
      | exact ih0 _ _
      | exact ih1 _ _ _
      | exact LeO.none _
      | refine LeO.ite ?_ ?_
      | refine LeO.bind ?_ (fun _ => ?_)
theorem formula_Valid.mono : ∀ a0 k, LeO (formula_Valid.f k a0) (formula_Valid.f (k + 1) a0) := by
  intro a0 k
  obtain ⟨ih0, ih1⟩ := formula_Valid.mono_l k
  unfold formula_Valid.f
  repeat' first
      | (with_reducible exact ih0 _ _)
      | (with_reducible exact ih1 _ _ _)
      | (with_reducible exact LeO.refl _)
      | (with_reducible exact LeO.none _)
      | (with_reducible refine LeO.ite ?_ ?_)
      | (with_reducible refine LeO.bind ?_ (fun _ => ?_))
      | exact ih0 _ _
      | exact ih1 _ _ _
      | exact LeO.none _
      | refine LeO.ite ?_ ?_
      | refine LeO.bind ?_ (fun _ => ?_)
set_option maxHeartbeats 8000000 in
set_option maxRecDepth 100000 in
theorem formula_Valid.calls (k : Nat) (a0 : ByteArray) (r : Bool) (w : World) (h : formula_Valid.f k a0 = some r) :
    Calls Try.prog 19 #[.string a0] w fun e w' => e = .returned (.bool r) ∧ Drawn0 w w' := by
  have H : (if (a0.size : Int) < 1 then (formula_Valid.j0 k a0 true) else (if (a0.size : Int) > 16 then (formula_Valid.j0 k a0 true) else (if 0 < (a0.size : Int) then ((formula_letter.f (bt a0 0)).bind fun t219 => (formula_Valid.j0 k a0 (!t219))) else (none)))) = some r := h
  clear h
  have HC2 := Aside0.mk H
  clear H
  go_enter Try.func19, Try.ntmps19
  go_upto_region 1 with (fail)
  go_cut [17] (fun v17 wc => ∃ (kq : Nat) (x17_1 : Bool), v17 = .bool x17_1 ∧ Aside0 (formula_Valid.j0 kq a0 x17_1 = some r) ∧ Aside0 (kq ≤ k) ∧ Drawn0 w wc)
  case first =>
    have H := HC2.out
    clear HC2
    by_cases c3 : (a0.size : Int) < 1
    · rw [if_pos c3] at H
      have c3b0 : decide ((a0.size : Int) < 1) = true := decide_eq_true c3
      have c3b1 : decide (a0.size < 1) = true := decide_eq_true (by omega)
      clear c3
      (first | rw [c3b0] | (simp only [i64_w, i32_w]; rw [c3b0]) | skip)
      have H' := Aside0.mk H
      clear H
      go_wp2
      go_meet
      case rel => exact ⟨_, (true), (by first | rfl | (simp; done) | (simp [*]; done)), H', ⟨by first | omega | exact Nat.le_refl _⟩, by repeat (first | exact Drawn0.refl _ | apply Drawn0.step)⟩
    · rw [if_neg c3] at H
      have c3b0 : decide ((a0.size : Int) < 1) = false := decide_eq_false c3
      have c3b1 : decide (a0.size < 1) = false := decide_eq_false (by omega)
      clear c3
      (first | rw [c3b0] | (simp only [i64_w, i32_w]; rw [c3b0]) | skip)
      by_cases c4 : (a0.size : Int) > 16
      · rw [if_pos c4] at H
        have c4b0 : decide (16 < (a0.size : Int)) = true := decide_eq_true c4
        have c4b1 : decide (16 < a0.size) = true := decide_eq_true (by omega)
        clear c4
        have H' := Aside0.mk H
        clear H
        go_wp2
        go_meet
        case rel => exact ⟨_, (true), (by first | rfl | (simp; done) | (simp [*]; done)), H', ⟨by first | omega | exact Nat.le_refl _⟩, by repeat (first | exact Drawn0.refl _ | apply Drawn0.step)⟩
      · rw [if_neg c4] at H
        have c4b0 : decide (16 < (a0.size : Int)) = false := decide_eq_false c4
        have c4b1 : decide (16 < a0.size) = false := decide_eq_false (by omega)
        clear c4
        by_cases c5 : 0 < (a0.size : Int)
        · rw [if_pos c5] at H
          have c5b0 : decide (0 < (a0.size : Int)) = true := decide_eq_true c5
          have c5b1 : decide (0 < a0.size) = true := decide_eq_true (by omega)
          clear c5
          replace H := Option.bind_eq_some_iff.mp H
          obtain ⟨t219, A70, H⟩ := H
          replace H : (formula_Valid.j0 k a0 (!t219)) = some r := H
          have A7 := Aside0.mk A70
          clear A70
          have H' := Aside0.mk H
          clear H
          have p6 : 0 ≤ (0 : Int) := (by omega)
          have q6 : 0 < a0.size := (by have : (0 : Int) < (a0.size : Int) := of_decide_eq_true (by first | (with_reducible assumption) | assumption); omega)
          have hx6 : ∀ h : 0 < a0.size, ((a0[0]'h).toNat : Int) = bt a0 0 := bt_at a0 0
          clear p6
          have qi6 : (0 < (a0.size : Int)) = True := eq_true (of_decide_eq_true (by first | (with_reducible assumption) | assumption))
          replace q6 := eq_true q6
          go_wp2_with (first | (go_at_call 30; (with_reducible refine (formula_letter.calls (bt a0 0) t219 _ A7.out).mono ?_); rintro e w' ⟨rfl, ⟨nd, rfl⟩⟩))
          go_meet
          case rel => exact ⟨_, (!t219), (by first | rfl | (simp; done) | (simp [*]; done)), H', ⟨by first | omega | exact Nat.le_refl _⟩, by repeat (first | exact Drawn0.refl _ | apply Drawn0.step)⟩
        · rw [if_neg c5] at H
          exact absurd H (by simp)
  case rest =>
    clear HC2
    try clear c1
    try clear p2
    try clear c3
    try clear c3b0
    try clear c3b1
    try clear c4
    try clear c4b0
    try clear c4b1
    try clear c5
    try clear c5b0
    try clear c5b1
    try clear p6
    try clear q6
    try clear hx6
    try clear qi6
    try clear p6
    try clear q6
    obtain ⟨kq, x17_1, rfl, HA, HJ1, ⟨mc1, rfl⟩⟩ := hcut
    cases kq with
    | zero => exact absurd HA.out (by simp [formula_Valid.j0])
    | succ kj1 =>
      have H := HA.out
      clear HA
      simp only [formula_Valid.j0] at H
      by_cases c8 : x17_1 = true
      · subst c8
        have H1 : (some false) = some r := by rw [if_pos rfl] at H; exact H
        clear H
        have H := H1
        clear H1
        obtain rfl := Option.some.inj H
        go_wp2
        go_ret
        exact ⟨by first | rfl | (simp; done) | (simp [*]; done), by repeat (first | exact Drawn0.refl _ | apply Drawn0.step)⟩
      · replace c8 := Bool.eq_false_iff.mpr c8
        subst c8
        have H1 : (formula_Valid.l0 kj1 a0 (a0.size : Int) 0) = some r := by rw [if_neg (show ¬ (false = true) by decide)] at H; exact H
        clear H
        have H := H1
        clear H1
        have H' := Aside0.mk H
        clear H
        go_wp2
        go_loopg [20] kj1 (fun kq v20 w' => ∃ (x20_2 : Int), v20 = .int .i64 x20_2 ∧ Aside0 (formula_Valid.l0 kq a0 (a0.size : Int) x20_2 = some r) ∧ Aside0 (kq ≤ kj1) ∧ Drawn0 w w')
        case atStart => exact ⟨(0), (by first | rfl | (simp; done) | (simp [*]; done)), H', ⟨Nat.le_refl _⟩, by repeat (first | exact Drawn0.refl _ | apply Drawn0.step)⟩
        case round =>
          clear H'
          try clear c1
          try clear p2
          try clear c3
          try clear c3b0
          try clear c3b1
          try clear c4
          try clear c4b0
          try clear c4b1
          try clear c5
          try clear c5b0
          try clear c5b1
          try clear p6
          try clear q6
          try clear hx6
          try clear qi6
          try clear c8
          try clear p2
          try clear p6
          try clear q6
          obtain ⟨x20_2, rfl, HA, HK2, ⟨m2, rfl⟩⟩ := hrel
          cases gk with
          | zero => exact absurd HA.out (by simp [formula_Valid.l0])
          | succ k2 =>
            have H := HA.out
            clear HA
            simp only [formula_Valid.l0] at H
            by_cases c9 : x20_2 < (a0.size : Int)
            · rw [if_pos c9] at H
              have c9b0 : decide (x20_2 < (a0.size : Int)) = true := decide_eq_true c9
              clear c9
              by_cases c10 : 0 ≤ x20_2
              · rw [if_pos c10] at H
                have c10b0 : decide (0 ≤ x20_2) = true := decide_eq_true c10
                clear c10
                by_cases c11 : x20_2 < (a0.size : Int)
                · rw [if_pos c11] at H
                  have c11b0 : decide (x20_2 < (a0.size : Int)) = true := decide_eq_true c11
                  clear c11
                  replace H := Option.bind_eq_some_iff.mp H
                  obtain ⟨t220, A130, H⟩ := H
                  replace H : (if t220 = true then (formula_Valid.l0 k2 a0 (a0.size : Int) (wrap64 (x20_2 + 1))) else (if (bt a0 x20_2) < 48 then (some false) else (if (bt a0 x20_2) > 57 then (some false) else (formula_Valid.l0 k2 a0 (a0.size : Int) (wrap64 (x20_2 + 1)))))) = some r := H
                  have A13 := Aside0.mk A130
                  clear A130
                  by_cases c14 : t220 = true
                  · subst c14
                    have H1 : (formula_Valid.l0 k2 a0 (a0.size : Int) (wrap64 (x20_2 + 1))) = some r := by rw [if_pos rfl] at H; exact H
                    clear H
                    have H := H1
                    clear H1
                    have H' := Aside0.mk H
                    clear H
                    have p12 : 0 ≤ (x20_2 : Int) := of_decide_eq_true (by first | (with_reducible assumption) | assumption)
                    have q12 : x20_2 < (a0.size : Int) := of_decide_eq_true (by first | (with_reducible assumption) | assumption)
                    have hx12 := bt_at a0 x20_2
                    replace p12 := eq_true p12
                    replace q12 := eq_true q12
                    go_wp2_with (first | ((with_reducible refine gate_callee (f := 30) rfl ?_); refine goesL_ (some 26) rfl rfl Try.func30 (by kernel_rfl) rfl #[.int .u8 (bt a0 x20_2)] rfl (by (try simp only [List.map_toArray, List.map_cons, List.map_nil]); first | done | rfl | (simp only [List.length_drop, List.length_take]; rfl)) ?_; (with_reducible refine (formula_letter.calls (bt a0 x20_2) true _ A13.out).mono ?_); rintro e w' ⟨rfl, ⟨nd, rfl⟩⟩; refine ⟨_, rfl, ?_⟩))
                    go_roundg k2
                    case measure => have := HJ1.out; have := HK2.out; omega
                    case rel => exact ⟨(wrap64 (x20_2 + 1)), (by first | rfl | (simp; done) | (simp [*]; done)), H', ⟨by have := HJ1.out; have := HK2.out; omega⟩, by repeat (first | exact Drawn0.refl _ | apply Drawn0.step)⟩
                  · replace c14 := Bool.eq_false_iff.mpr c14
                    subst c14
                    have H1 : (if (bt a0 x20_2) < 48 then (some false) else (if (bt a0 x20_2) > 57 then (some false) else (formula_Valid.l0 k2 a0 (a0.size : Int) (wrap64 (x20_2 + 1))))) = some r := by rw [if_neg (show ¬ (false = true) by decide)] at H; exact H
                    clear H
                    have H := H1
                    clear H1
                    by_cases c16 : (bt a0 x20_2) < 48
                    · rw [if_pos c16] at H
                      have c16b0 : decide ((bt a0 x20_2) < 48) = true := decide_eq_true c16
                      clear c16
                      obtain rfl := Option.some.inj H
                      have p12 : 0 ≤ (x20_2 : Int) := of_decide_eq_true (by first | (with_reducible assumption) | assumption)
                      have q12 : x20_2 < (a0.size : Int) := of_decide_eq_true (by first | (with_reducible assumption) | assumption)
                      have hx12 := bt_at a0 x20_2
                      replace p12 := eq_true p12
                      replace q12 := eq_true q12
                      go_wp2_with (first | ((with_reducible refine gate_callee (f := 30) rfl ?_); refine goesL_ (some 26) rfl rfl Try.func30 (by kernel_rfl) rfl #[.int .u8 (bt a0 x20_2)] rfl (by (try simp only [List.map_toArray, List.map_cons, List.map_nil]); first | done | rfl | (simp only [List.length_drop, List.length_take]; rfl)) ?_; (with_reducible refine (formula_letter.calls (bt a0 x20_2) false _ A13.out).mono ?_); rintro e w' ⟨rfl, ⟨nd, rfl⟩⟩; refine ⟨_, rfl, ?_⟩; have p15 : 0 ≤ (x20_2 : Int) := of_decide_eq_true (by first | (with_reducible assumption) | assumption); have q15 : x20_2 < (a0.size : Int) := of_decide_eq_true (by first | (with_reducible assumption) | assumption); have hx15 := bt_at a0 x20_2; replace p15 := eq_true p15; replace q15 := eq_true q15))
                      go_ret
                      exact ⟨by first | rfl | (simp; done) | (simp [*]; done), by repeat (first | exact Drawn0.refl _ | apply Drawn0.step)⟩
                    · rw [if_neg c16] at H
                      have c16b0 : decide ((bt a0 x20_2) < 48) = false := decide_eq_false c16
                      clear c16
                      by_cases c18 : (bt a0 x20_2) > 57
                      · rw [if_pos c18] at H
                        have c18b0 : decide (57 < (bt a0 x20_2)) = true := decide_eq_true c18
                        clear c18
                        obtain rfl := Option.some.inj H
                        have p12 : 0 ≤ (x20_2 : Int) := of_decide_eq_true (by first | (with_reducible assumption) | assumption)
                        have q12 : x20_2 < (a0.size : Int) := of_decide_eq_true (by first | (with_reducible assumption) | assumption)
                        have hx12 := bt_at a0 x20_2
                        replace p12 := eq_true p12
                        replace q12 := eq_true q12
                        go_wp2_with (first | ((with_reducible refine gate_callee (f := 30) rfl ?_); refine goesL_ (some 26) rfl rfl Try.func30 (by kernel_rfl) rfl #[.int .u8 (bt a0 x20_2)] rfl (by (try simp only [List.map_toArray, List.map_cons, List.map_nil]); first | done | rfl | (simp only [List.length_drop, List.length_take]; rfl)) ?_; (with_reducible refine (formula_letter.calls (bt a0 x20_2) false _ A13.out).mono ?_); rintro e w' ⟨rfl, ⟨nd, rfl⟩⟩; refine ⟨_, rfl, ?_⟩; have p15 : 0 ≤ (x20_2 : Int) := of_decide_eq_true (by first | (with_reducible assumption) | assumption); have q15 : x20_2 < (a0.size : Int) := of_decide_eq_true (by first | (with_reducible assumption) | assumption); have hx15 := bt_at a0 x20_2; replace p15 := eq_true p15; replace q15 := eq_true q15; have p17 : 0 ≤ (x20_2 : Int) := of_decide_eq_true (by first | (with_reducible assumption) | assumption); have q17 : x20_2 < (a0.size : Int) := of_decide_eq_true (by first | (with_reducible assumption) | assumption); have hx17 := bt_at a0 x20_2; replace p17 := eq_true p17; replace q17 := eq_true q17))
                        go_ret
                        exact ⟨by first | rfl | (simp; done) | (simp [*]; done), by repeat (first | exact Drawn0.refl _ | apply Drawn0.step)⟩
                      · rw [if_neg c18] at H
                        have c18b0 : decide (57 < (bt a0 x20_2)) = false := decide_eq_false c18
                        clear c18
                        have H' := Aside0.mk H
                        clear H
                        have p12 : 0 ≤ (x20_2 : Int) := of_decide_eq_true (by first | (with_reducible assumption) | assumption)
                        have q12 : x20_2 < (a0.size : Int) := of_decide_eq_true (by first | (with_reducible assumption) | assumption)
                        have hx12 := bt_at a0 x20_2
                        replace p12 := eq_true p12
                        replace q12 := eq_true q12
                        go_wp2_with (first | ((with_reducible refine gate_callee (f := 30) rfl ?_); refine goesL_ (some 26) rfl rfl Try.func30 (by kernel_rfl) rfl #[.int .u8 (bt a0 x20_2)] rfl (by (try simp only [List.map_toArray, List.map_cons, List.map_nil]); first | done | rfl | (simp only [List.length_drop, List.length_take]; rfl)) ?_; (with_reducible refine (formula_letter.calls (bt a0 x20_2) false _ A13.out).mono ?_); rintro e w' ⟨rfl, ⟨nd, rfl⟩⟩; refine ⟨_, rfl, ?_⟩; have p15 : 0 ≤ (x20_2 : Int) := of_decide_eq_true (by first | (with_reducible assumption) | assumption); have q15 : x20_2 < (a0.size : Int) := of_decide_eq_true (by first | (with_reducible assumption) | assumption); have hx15 := bt_at a0 x20_2; replace p15 := eq_true p15; replace q15 := eq_true q15; have p17 : 0 ≤ (x20_2 : Int) := of_decide_eq_true (by first | (with_reducible assumption) | assumption); have q17 : x20_2 < (a0.size : Int) := of_decide_eq_true (by first | (with_reducible assumption) | assumption); have hx17 := bt_at a0 x20_2; replace p17 := eq_true p17; replace q17 := eq_true q17))
                        go_roundg k2
                        case measure => have := HJ1.out; have := HK2.out; omega
                        case rel => exact ⟨(wrap64 (x20_2 + 1)), (by first | rfl | (simp; done) | (simp [*]; done)), H', ⟨by have := HJ1.out; have := HK2.out; omega⟩, by repeat (first | exact Drawn0.refl _ | apply Drawn0.step)⟩
                · rw [if_neg c11] at H
                  exact absurd H (by simp)
              · rw [if_neg c10] at H
                exact absurd H (by simp)
            · rw [if_neg c9] at H
              have c9b0 : decide (x20_2 < (a0.size : Int)) = false := decide_eq_false c9
              clear c9
              by_cases c19 : a0.toList = ([116, 114, 117, 101] : List UInt8)
              · rw [if_pos c19] at H
                have c19b0 : (a0.toList == ([116, 114, 117, 101] : List UInt8)) = true := beq_iff_eq.mpr c19
                have c19b1 : (a0.toList != ([116, 114, 117, 101] : List UInt8)) = false := bne_eq_false_iff_eq.mpr c19
                clear c19
                obtain rfl := Option.some.inj H
                go_wp2
                go_ret
                exact ⟨by first | rfl | (simp; done) | (simp [*]; done), by repeat (first | exact Drawn0.refl _ | apply Drawn0.step)⟩
              · rw [if_neg c19] at H
                have c19b0 : (a0.toList == ([116, 114, 117, 101] : List UInt8)) = false := beq_eq_false_iff_ne.mpr c19
                have c19b1 : (a0.toList != ([116, 114, 117, 101] : List UInt8)) = true := bne_iff_ne.mpr c19
                by_cases c20 : a0.toList = ([102, 97, 108, 115, 101] : List UInt8)
                · rw [if_pos c20] at H
                  have c20b0 : (a0.toList == ([102, 97, 108, 115, 101] : List UInt8)) = true := beq_iff_eq.mpr c20
                  have c20b1 : (a0.toList != ([102, 97, 108, 115, 101] : List UInt8)) = false := bne_eq_false_iff_eq.mpr c20
                  clear c20
                  obtain rfl := Option.some.inj H
                  go_wp2
                  go_ret
                  exact ⟨by first | rfl | (simp; done) | (simp [*]; done), by repeat (first | exact Drawn0.refl _ | apply Drawn0.step)⟩
                · rw [if_neg c20] at H
                  have c20b0 : (a0.toList == ([102, 97, 108, 115, 101] : List UInt8)) = false := beq_eq_false_iff_ne.mpr c20
                  have c20b1 : (a0.toList != ([102, 97, 108, 115, 101] : List UInt8)) = true := bne_iff_ne.mpr c20
                  by_cases c21 : a0.toList = ([97, 110, 100] : List UInt8)
                  · rw [if_pos c21] at H
                    have c21b0 : (a0.toList == ([97, 110, 100] : List UInt8)) = true := beq_iff_eq.mpr c21
                    have c21b1 : (a0.toList != ([97, 110, 100] : List UInt8)) = false := bne_eq_false_iff_eq.mpr c21
                    clear c21
                    obtain rfl := Option.some.inj H
                    go_wp2
                    go_ret
                    exact ⟨by first | rfl | (simp; done) | (simp [*]; done), by repeat (first | exact Drawn0.refl _ | apply Drawn0.step)⟩
                  · rw [if_neg c21] at H
                    have c21b0 : (a0.toList == ([97, 110, 100] : List UInt8)) = false := beq_eq_false_iff_ne.mpr c21
                    have c21b1 : (a0.toList != ([97, 110, 100] : List UInt8)) = true := bne_iff_ne.mpr c21
                    by_cases c22 : a0.toList = ([111, 114] : List UInt8)
                    · rw [if_pos c22] at H
                      have c22b0 : (a0.toList == ([111, 114] : List UInt8)) = true := beq_iff_eq.mpr c22
                      have c22b1 : (a0.toList != ([111, 114] : List UInt8)) = false := bne_eq_false_iff_eq.mpr c22
                      clear c22
                      obtain rfl := Option.some.inj H
                      go_wp2
                      go_ret
                      exact ⟨by first | rfl | (simp; done) | (simp [*]; done), by repeat (first | exact Drawn0.refl _ | apply Drawn0.step)⟩
                    · rw [if_neg c22] at H
                      have c22b0 : (a0.toList == ([111, 114] : List UInt8)) = false := beq_eq_false_iff_ne.mpr c22
                      have c22b1 : (a0.toList != ([111, 114] : List UInt8)) = true := bne_iff_ne.mpr c22
                      by_cases c23 : a0.toList = ([110, 111, 116] : List UInt8)
                      · rw [if_pos c23] at H
                        have c23b0 : (a0.toList == ([110, 111, 116] : List UInt8)) = true := beq_iff_eq.mpr c23
                        have c23b1 : (a0.toList != ([110, 111, 116] : List UInt8)) = false := bne_eq_false_iff_eq.mpr c23
                        clear c23
                        obtain rfl := Option.some.inj H
                        go_wp2
                        go_ret
                        exact ⟨by first | rfl | (simp; done) | (simp [*]; done), by repeat (first | exact Drawn0.refl _ | apply Drawn0.step)⟩
                      · rw [if_neg c23] at H
                        have c23b0 : (a0.toList == ([110, 111, 116] : List UInt8)) = false := beq_eq_false_iff_ne.mpr c23
                        have c23b1 : (a0.toList != ([110, 111, 116] : List UInt8)) = true := bne_iff_ne.mpr c23
                        by_cases c24 : a0.toList = ([105, 109, 112, 108, 105, 101, 115] : List UInt8)
                        · rw [if_pos c24] at H
                          have c24b0 : (a0.toList == ([105, 109, 112, 108, 105, 101, 115] : List UInt8)) = true := beq_iff_eq.mpr c24
                          have c24b1 : (a0.toList != ([105, 109, 112, 108, 105, 101, 115] : List UInt8)) = false := bne_eq_false_iff_eq.mpr c24
                          clear c24
                          obtain rfl := Option.some.inj H
                          go_wp2
                          go_ret
                          exact ⟨by first | rfl | (simp; done) | (simp [*]; done), by repeat (first | exact Drawn0.refl _ | apply Drawn0.step)⟩
                        · rw [if_neg c24] at H
                          have c24b0 : (a0.toList == ([105, 109, 112, 108, 105, 101, 115] : List UInt8)) = false := beq_eq_false_iff_ne.mpr c24
                          have c24b1 : (a0.toList != ([105, 109, 112, 108, 105, 101, 115] : List UInt8)) = true := bne_iff_ne.mpr c24
                          by_cases c25 : a0.toList = ([105, 102, 102] : List UInt8)
                          · rw [if_pos c25] at H
                            have c25b0 : (a0.toList == ([105, 102, 102] : List UInt8)) = true := beq_iff_eq.mpr c25
                            have c25b1 : (a0.toList != ([105, 102, 102] : List UInt8)) = false := bne_eq_false_iff_eq.mpr c25
                            clear c25
                            obtain rfl := Option.some.inj H
                            go_wp2
                            go_ret
                            exact ⟨by first | rfl | (simp; done) | (simp [*]; done), by repeat (first | exact Drawn0.refl _ | apply Drawn0.step)⟩
                          · rw [if_neg c25] at H
                            have c25b0 : (a0.toList == ([105, 102, 102] : List UInt8)) = false := beq_eq_false_iff_ne.mpr c25
                            have c25b1 : (a0.toList != ([105, 102, 102] : List UInt8)) = true := bne_iff_ne.mpr c25
                            by_cases c26 : a0.toList = ([102, 111, 114, 97, 108, 108] : List UInt8)
                            · rw [if_pos c26] at H
                              have c26b0 : (a0.toList == ([102, 111, 114, 97, 108, 108] : List UInt8)) = true := beq_iff_eq.mpr c26
                              have c26b1 : (a0.toList != ([102, 111, 114, 97, 108, 108] : List UInt8)) = false := bne_eq_false_iff_eq.mpr c26
                              clear c26
                              obtain rfl := Option.some.inj H
                              go_wp2
                              go_ret
                              exact ⟨by first | rfl | (simp; done) | (simp [*]; done), by repeat (first | exact Drawn0.refl _ | apply Drawn0.step)⟩
                            · rw [if_neg c26] at H
                              have c26b0 : (a0.toList == ([102, 111, 114, 97, 108, 108] : List UInt8)) = false := beq_eq_false_iff_ne.mpr c26
                              have c26b1 : (a0.toList != ([102, 111, 114, 97, 108, 108] : List UInt8)) = true := bne_iff_ne.mpr c26
                              by_cases c27 : a0.toList = ([101, 120, 105, 115, 116, 115] : List UInt8)
                              · rw [if_pos c27] at H
                                have c27b0 : (a0.toList == ([101, 120, 105, 115, 116, 115] : List UInt8)) = true := beq_iff_eq.mpr c27
                                have c27b1 : (a0.toList != ([101, 120, 105, 115, 116, 115] : List UInt8)) = false := bne_eq_false_iff_eq.mpr c27
                                clear c27
                                obtain rfl := Option.some.inj H
                                go_wp2
                                go_ret
                                exact ⟨by first | rfl | (simp; done) | (simp [*]; done), by repeat (first | exact Drawn0.refl _ | apply Drawn0.step)⟩
                              · rw [if_neg c27] at H
                                have c27b0 : (a0.toList == ([101, 120, 105, 115, 116, 115] : List UInt8)) = false := beq_eq_false_iff_ne.mpr c27
                                have c27b1 : (a0.toList != ([101, 120, 105, 115, 116, 115] : List UInt8)) = true := bne_iff_ne.mpr c27
                                obtain rfl := Option.some.inj H
                                go_wp2
                                go_ret
                                exact ⟨by first | rfl | (simp; done) | (simp [*]; done), by repeat (first | exact Drawn0.refl _ | apply Drawn0.step)⟩

/-! ### lexer_IsWord: function 20 -/
def lexer_IsWord.f (a0 : ByteArray) : Option (Bool) := if a0.toList = ([116, 114, 117, 101] : List UInt8) then (some true) else (if a0.toList = ([102, 97, 108, 115, 101] : List UInt8) then (some true) else (if a0.toList = ([97, 110, 100] : List UInt8) then (some true) else (if a0.toList = ([111, 114] : List UInt8) then (some true) else (if a0.toList = ([110, 111, 116] : List UInt8) then (some true) else (if a0.toList = ([105, 109, 112, 108, 105, 101, 115] : List UInt8) then (some true) else (if a0.toList = ([105, 102, 102] : List UInt8) then (some true) else (if a0.toList = ([102, 111, 114, 97, 108, 108] : List UInt8) then (some true) else (if a0.toList = ([101, 120, 105, 115, 116, 115] : List UInt8) then (some true) else (some false)))))))))
set_option maxHeartbeats 8000000 in
set_option maxRecDepth 100000 in
theorem lexer_IsWord.calls (a0 : ByteArray) (r : Bool) (w : World) (h : lexer_IsWord.f a0 = some r) :
    Calls Try.prog 20 #[.string a0] w fun e w' => e = .returned (.bool r) ∧ Drawn0 w w' := by
  have H : (if a0.toList = ([116, 114, 117, 101] : List UInt8) then (some true) else (if a0.toList = ([102, 97, 108, 115, 101] : List UInt8) then (some true) else (if a0.toList = ([97, 110, 100] : List UInt8) then (some true) else (if a0.toList = ([111, 114] : List UInt8) then (some true) else (if a0.toList = ([110, 111, 116] : List UInt8) then (some true) else (if a0.toList = ([105, 109, 112, 108, 105, 101, 115] : List UInt8) then (some true) else (if a0.toList = ([105, 102, 102] : List UInt8) then (some true) else (if a0.toList = ([102, 111, 114, 97, 108, 108] : List UInt8) then (some true) else (if a0.toList = ([101, 120, 105, 115, 116, 115] : List UInt8) then (some true) else (some false)))))))))) = some r := h
  clear h
  by_cases c2 : a0.toList = ([116, 114, 117, 101] : List UInt8)
  · rw [if_pos c2] at H
    have c2b0 : (a0.toList == ([116, 114, 117, 101] : List UInt8)) = true := beq_iff_eq.mpr c2
    have c2b1 : (a0.toList != ([116, 114, 117, 101] : List UInt8)) = false := bne_eq_false_iff_eq.mpr c2
    clear c2
    obtain rfl := Option.some.inj H
    go_enter Try.func20, Try.ntmps20
    go_wp2
    go_ret
    exact ⟨by first | rfl | (simp; done) | (simp [*]; done), by repeat (first | exact Drawn0.refl _ | apply Drawn0.step)⟩
  · rw [if_neg c2] at H
    have c2b0 : (a0.toList == ([116, 114, 117, 101] : List UInt8)) = false := beq_eq_false_iff_ne.mpr c2
    have c2b1 : (a0.toList != ([116, 114, 117, 101] : List UInt8)) = true := bne_iff_ne.mpr c2
    by_cases c3 : a0.toList = ([102, 97, 108, 115, 101] : List UInt8)
    · rw [if_pos c3] at H
      have c3b0 : (a0.toList == ([102, 97, 108, 115, 101] : List UInt8)) = true := beq_iff_eq.mpr c3
      have c3b1 : (a0.toList != ([102, 97, 108, 115, 101] : List UInt8)) = false := bne_eq_false_iff_eq.mpr c3
      clear c3
      obtain rfl := Option.some.inj H
      go_enter Try.func20, Try.ntmps20
      go_wp2
      go_ret
      exact ⟨by first | rfl | (simp; done) | (simp [*]; done), by repeat (first | exact Drawn0.refl _ | apply Drawn0.step)⟩
    · rw [if_neg c3] at H
      have c3b0 : (a0.toList == ([102, 97, 108, 115, 101] : List UInt8)) = false := beq_eq_false_iff_ne.mpr c3
      have c3b1 : (a0.toList != ([102, 97, 108, 115, 101] : List UInt8)) = true := bne_iff_ne.mpr c3
      by_cases c4 : a0.toList = ([97, 110, 100] : List UInt8)
      · rw [if_pos c4] at H
        have c4b0 : (a0.toList == ([97, 110, 100] : List UInt8)) = true := beq_iff_eq.mpr c4
        have c4b1 : (a0.toList != ([97, 110, 100] : List UInt8)) = false := bne_eq_false_iff_eq.mpr c4
        clear c4
        obtain rfl := Option.some.inj H
        go_enter Try.func20, Try.ntmps20
        go_wp2
        go_ret
        exact ⟨by first | rfl | (simp; done) | (simp [*]; done), by repeat (first | exact Drawn0.refl _ | apply Drawn0.step)⟩
      · rw [if_neg c4] at H
        have c4b0 : (a0.toList == ([97, 110, 100] : List UInt8)) = false := beq_eq_false_iff_ne.mpr c4
        have c4b1 : (a0.toList != ([97, 110, 100] : List UInt8)) = true := bne_iff_ne.mpr c4
        by_cases c5 : a0.toList = ([111, 114] : List UInt8)
        · rw [if_pos c5] at H
          have c5b0 : (a0.toList == ([111, 114] : List UInt8)) = true := beq_iff_eq.mpr c5
          have c5b1 : (a0.toList != ([111, 114] : List UInt8)) = false := bne_eq_false_iff_eq.mpr c5
          clear c5
          obtain rfl := Option.some.inj H
          go_enter Try.func20, Try.ntmps20
          go_wp2
          go_ret
          exact ⟨by first | rfl | (simp; done) | (simp [*]; done), by repeat (first | exact Drawn0.refl _ | apply Drawn0.step)⟩
        · rw [if_neg c5] at H
          have c5b0 : (a0.toList == ([111, 114] : List UInt8)) = false := beq_eq_false_iff_ne.mpr c5
          have c5b1 : (a0.toList != ([111, 114] : List UInt8)) = true := bne_iff_ne.mpr c5
          by_cases c6 : a0.toList = ([110, 111, 116] : List UInt8)
          · rw [if_pos c6] at H
            have c6b0 : (a0.toList == ([110, 111, 116] : List UInt8)) = true := beq_iff_eq.mpr c6
            have c6b1 : (a0.toList != ([110, 111, 116] : List UInt8)) = false := bne_eq_false_iff_eq.mpr c6
            clear c6
            obtain rfl := Option.some.inj H
            go_enter Try.func20, Try.ntmps20
            go_wp2
            go_ret
            exact ⟨by first | rfl | (simp; done) | (simp [*]; done), by repeat (first | exact Drawn0.refl _ | apply Drawn0.step)⟩
          · rw [if_neg c6] at H
            have c6b0 : (a0.toList == ([110, 111, 116] : List UInt8)) = false := beq_eq_false_iff_ne.mpr c6
            have c6b1 : (a0.toList != ([110, 111, 116] : List UInt8)) = true := bne_iff_ne.mpr c6
            by_cases c7 : a0.toList = ([105, 109, 112, 108, 105, 101, 115] : List UInt8)
            · rw [if_pos c7] at H
              have c7b0 : (a0.toList == ([105, 109, 112, 108, 105, 101, 115] : List UInt8)) = true := beq_iff_eq.mpr c7
              have c7b1 : (a0.toList != ([105, 109, 112, 108, 105, 101, 115] : List UInt8)) = false := bne_eq_false_iff_eq.mpr c7
              clear c7
              obtain rfl := Option.some.inj H
              go_enter Try.func20, Try.ntmps20
              go_wp2
              go_ret
              exact ⟨by first | rfl | (simp; done) | (simp [*]; done), by repeat (first | exact Drawn0.refl _ | apply Drawn0.step)⟩
            · rw [if_neg c7] at H
              have c7b0 : (a0.toList == ([105, 109, 112, 108, 105, 101, 115] : List UInt8)) = false := beq_eq_false_iff_ne.mpr c7
              have c7b1 : (a0.toList != ([105, 109, 112, 108, 105, 101, 115] : List UInt8)) = true := bne_iff_ne.mpr c7
              by_cases c8 : a0.toList = ([105, 102, 102] : List UInt8)
              · rw [if_pos c8] at H
                have c8b0 : (a0.toList == ([105, 102, 102] : List UInt8)) = true := beq_iff_eq.mpr c8
                have c8b1 : (a0.toList != ([105, 102, 102] : List UInt8)) = false := bne_eq_false_iff_eq.mpr c8
                clear c8
                obtain rfl := Option.some.inj H
                go_enter Try.func20, Try.ntmps20
                go_wp2
                go_ret
                exact ⟨by first | rfl | (simp; done) | (simp [*]; done), by repeat (first | exact Drawn0.refl _ | apply Drawn0.step)⟩
              · rw [if_neg c8] at H
                have c8b0 : (a0.toList == ([105, 102, 102] : List UInt8)) = false := beq_eq_false_iff_ne.mpr c8
                have c8b1 : (a0.toList != ([105, 102, 102] : List UInt8)) = true := bne_iff_ne.mpr c8
                by_cases c9 : a0.toList = ([102, 111, 114, 97, 108, 108] : List UInt8)
                · rw [if_pos c9] at H
                  have c9b0 : (a0.toList == ([102, 111, 114, 97, 108, 108] : List UInt8)) = true := beq_iff_eq.mpr c9
                  have c9b1 : (a0.toList != ([102, 111, 114, 97, 108, 108] : List UInt8)) = false := bne_eq_false_iff_eq.mpr c9
                  clear c9
                  obtain rfl := Option.some.inj H
                  go_enter Try.func20, Try.ntmps20
                  go_wp2
                  go_ret
                  exact ⟨by first | rfl | (simp; done) | (simp [*]; done), by repeat (first | exact Drawn0.refl _ | apply Drawn0.step)⟩
                · rw [if_neg c9] at H
                  have c9b0 : (a0.toList == ([102, 111, 114, 97, 108, 108] : List UInt8)) = false := beq_eq_false_iff_ne.mpr c9
                  have c9b1 : (a0.toList != ([102, 111, 114, 97, 108, 108] : List UInt8)) = true := bne_iff_ne.mpr c9
                  by_cases c10 : a0.toList = ([101, 120, 105, 115, 116, 115] : List UInt8)
                  · rw [if_pos c10] at H
                    have c10b0 : (a0.toList == ([101, 120, 105, 115, 116, 115] : List UInt8)) = true := beq_iff_eq.mpr c10
                    have c10b1 : (a0.toList != ([101, 120, 105, 115, 116, 115] : List UInt8)) = false := bne_eq_false_iff_eq.mpr c10
                    clear c10
                    obtain rfl := Option.some.inj H
                    go_enter Try.func20, Try.ntmps20
                    go_wp2
                    go_ret
                    exact ⟨by first | rfl | (simp; done) | (simp [*]; done), by repeat (first | exact Drawn0.refl _ | apply Drawn0.step)⟩
                  · rw [if_neg c10] at H
                    have c10b0 : (a0.toList == ([101, 120, 105, 115, 116, 115] : List UInt8)) = false := beq_eq_false_iff_ne.mpr c10
                    have c10b1 : (a0.toList != ([101, 120, 105, 115, 116, 115] : List UInt8)) = true := bne_iff_ne.mpr c10
                    obtain rfl := Option.some.inj H
                    go_enter Try.func20, Try.ntmps20
                    go_wp2
                    go_ret
                    exact ⟨by first | rfl | (simp; done) | (simp [*]; done), by repeat (first | exact Drawn0.refl _ | apply Drawn0.step)⟩

end Go.Proofs.Ytkomgnaleocleaa.PAll
