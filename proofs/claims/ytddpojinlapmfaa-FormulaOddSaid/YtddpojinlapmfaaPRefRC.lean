-- printed by wip/tools/xprint.py (the kit's print program, with stubs); checked by Lean
import Derived.Test.YtddpojinlapmfaaPRefx0
namespace Go.Proofs.Ytddpojinlapmfaa.PRef
open Go.RowKit Go.Proofs.YtddpojinlapmfaaW.PrintWords Go.Proofs.YtddpojinlapmfaaW.PrintLast Go.Proofs.YtddpojinlapmfaaW.PrintMore
attribute [local go_sem] max2_int min2_int max_two min_two max_three min_three max_four min_four   -- for this text's walks alone
set_option linter.unusedVariables false
set_option linter.unusedSimpArgs false

/-! ### cylinderref34_kids: function 56 -/
mutual
def cylinderref34_kids.j0 : Nat → Int → Bool → Option (Int × Bool)
  | 0, _, _ => none
  | k + 1, x4, x5 => if x5 = true then (some (0, true)) else (if x4 = 6 then (cylinderref34_kids.j1 k x4 (x4 == 6)) else (cylinderref34_kids.j1 k x4 (x4 == 7)))
def cylinderref34_kids.j1 : Nat → Int → Bool → Option (Int × Bool)
  | 0, _, _ => none
  | k + 1, x4, x9 => if x9 = true then (some (1, true)) else (if x4 = 3 then (cylinderref34_kids.j2 k x4 (x4 == 3)) else (if x4 = 4 then (cylinderref34_kids.j2 k x4 (x4 == 4)) else (if x4 = 5 then (cylinderref34_kids.j2 k x4 (x4 == 5)) else (cylinderref34_kids.j2 k x4 (x4 == 9)))))
def cylinderref34_kids.j2 : Nat → Int → Bool → Option (Int × Bool)
  | 0, _, _ => none
  | k + 1, x4, x12 => if x12 = true then (some (2, true)) else (if x4 = 10 then (cylinderref34_kids.j3 k x4 (x4 == 10)) else (cylinderref34_kids.j3 k x4 (x4 == 15)))
def cylinderref34_kids.j3 : Nat → Int → Bool → Option (Int × Bool)
  | 0, _, _ => none
  | k + 1, x4, x17 => if x17 = true then (some (1, false)) else (if x4 = 11 then (some (2, false)) else (if x4 = 12 then (some (2, false)) else (if x4 = 13 then (some (2, false)) else (if x4 = 14 then (some (2, false)) else (some ((-1), false))))))
end
def cylinderref34_kids.f (k : Nat) (a0 : Int) : Option (Int × Bool) := if a0 = 1 then (cylinderref34_kids.j0 k a0 (a0 == 1)) else (if a0 = 2 then (cylinderref34_kids.j0 k a0 (a0 == 2)) else (cylinderref34_kids.j0 k a0 (a0 == 8)))
theorem cylinderref34_kids.mono_l : ∀ k, (∀ y0 y1, LeO (cylinderref34_kids.j0 k y0 y1) (cylinderref34_kids.j0 (k + 1) y0 y1)) ∧ (∀ y0 y1, LeO (cylinderref34_kids.j1 k y0 y1) (cylinderref34_kids.j1 (k + 1) y0 y1)) ∧ (∀ y0 y1, LeO (cylinderref34_kids.j2 k y0 y1) (cylinderref34_kids.j2 (k + 1) y0 y1)) ∧ (∀ y0 y1, LeO (cylinderref34_kids.j3 k y0 y1) (cylinderref34_kids.j3 (k + 1) y0 y1))
  | 0 => ⟨fun _ _ r h => by simp [cylinderref34_kids.j0] at h, fun _ _ r h => by simp [cylinderref34_kids.j1] at h, fun _ _ r h => by simp [cylinderref34_kids.j2] at h, fun _ _ r h => by simp [cylinderref34_kids.j3] at h⟩
  | k + 1 => by
    obtain ⟨ih0, ih1, ih2, ih3⟩ := cylinderref34_kids.mono_l k
    refine ⟨?_, ?_, ?_, ?_⟩
    · intro y0 y1
      unfold cylinderref34_kids.j0
      repeat' first
      | (with_reducible exact ih0 _ _)
      | (with_reducible exact ih1 _ _)
      | (with_reducible exact ih2 _ _)
      | (with_reducible exact ih3 _ _)
      | (with_reducible exact LeO.refl _)
      | (with_reducible exact LeO.none _)
      | (with_reducible refine LeO.ite ?_ ?_)
      | (with_reducible refine LeO.bind ?_ (fun _ => ?_))
      | exact ih0 _ _
      | exact ih1 _ _
      | exact ih2 _ _
      | exact ih3 _ _
      | exact LeO.none _
      | refine LeO.ite ?_ ?_
      | refine LeO.bind ?_ (fun _ => ?_)
    · intro y0 y1
      unfold cylinderref34_kids.j1
      repeat' first
      | (with_reducible exact ih0 _ _)
      | (with_reducible exact ih1 _ _)
      | (with_reducible exact ih2 _ _)
      | (with_reducible exact ih3 _ _)
      | (with_reducible exact LeO.refl _)
      | (with_reducible exact LeO.none _)
      | (with_reducible refine LeO.ite ?_ ?_)
      | (with_reducible refine LeO.bind ?_ (fun _ => ?_))
      | exact ih0 _ _
      | exact ih1 _ _
      | exact ih2 _ _
      | exact ih3 _ _
      | exact LeO.none _
      | refine LeO.ite ?_ ?_
      | refine LeO.bind ?_ (fun _ => ?_)
    · intro y0 y1
      unfold cylinderref34_kids.j2
      repeat' first
      | (with_reducible exact ih0 _ _)
      | (with_reducible exact ih1 _ _)
      | (with_reducible exact ih2 _ _)
      | (with_reducible exact ih3 _ _)
      | (with_reducible exact LeO.refl _)
      | (with_reducible exact LeO.none _)
      | (with_reducible refine LeO.ite ?_ ?_)
      | (with_reducible refine LeO.bind ?_ (fun _ => ?_))
      | exact ih0 _ _
      | exact ih1 _ _
      | exact ih2 _ _
      | exact ih3 _ _
      | exact LeO.none _
      | refine LeO.ite ?_ ?_
      | refine LeO.bind ?_ (fun _ => ?_)
    · intro y0 y1
      unfold cylinderref34_kids.j3
      repeat' first
      | (with_reducible exact ih0 _ _)
      | (with_reducible exact ih1 _ _)
      | (with_reducible exact ih2 _ _)
      | (with_reducible exact ih3 _ _)
      | (with_reducible exact LeO.refl _)
      | (with_reducible exact LeO.none _)
      | (with_reducible refine LeO.ite ?_ ?_)
      | (with_reducible refine LeO.bind ?_ (fun _ => ?_))
      | exact ih0 _ _
      | exact ih1 _ _
      | exact ih2 _ _
      | exact ih3 _ _
      | exact LeO.none _
      | refine LeO.ite ?_ ?_
      | refine LeO.bind ?_ (fun _ => ?_)
theorem cylinderref34_kids.mono : ∀ a0 k, LeO (cylinderref34_kids.f k a0) (cylinderref34_kids.f (k + 1) a0) := by
  intro a0 k
  obtain ⟨ih0, ih1, ih2, ih3⟩ := cylinderref34_kids.mono_l k
  unfold cylinderref34_kids.f
  repeat' first
      | (with_reducible exact ih0 _ _)
      | (with_reducible exact ih1 _ _)
      | (with_reducible exact ih2 _ _)
      | (with_reducible exact ih3 _ _)
      | (with_reducible exact LeO.refl _)
      | (with_reducible exact LeO.none _)
      | (with_reducible refine LeO.ite ?_ ?_)
      | (with_reducible refine LeO.bind ?_ (fun _ => ?_))
      | exact ih0 _ _
      | exact ih1 _ _
      | exact ih2 _ _
      | exact ih3 _ _
      | exact LeO.none _
      | refine LeO.ite ?_ ?_
      | refine LeO.bind ?_ (fun _ => ?_)
set_option maxHeartbeats 8000000 in
set_option maxRecDepth 100000 in
theorem cylinderref34_kids.calls (k : Nat) (a0 : Int) (r1 : Int) (r2 : Bool) (w : World) (h : cylinderref34_kids.f k a0 = some (r1, r2)) :
    Calls Try.prog 56 #[.int .i64 a0] w fun e w' => e = .returned (.tuple #[.int .i64 r1, .bool r2]) ∧ Drawn0 w w' := by
  have H : (if a0 = 1 then (cylinderref34_kids.j0 k a0 (a0 == 1)) else (if a0 = 2 then (cylinderref34_kids.j0 k a0 (a0 == 2)) else (cylinderref34_kids.j0 k a0 (a0 == 8)))) = some (r1, r2) := h
  clear h
  have HC2 := Aside0.mk H
  clear H
  go_enter Try.func56, Try.ntmps56
  go_upto_if 5 with (fail)
  go_cut [5] (fun v5 wc => ∃ (kq : Nat) (x5_1 : Bool), v5 = .bool x5_1 ∧ Aside0 (cylinderref34_kids.j0 kq a0 x5_1 = some (r1, r2)) ∧ Aside0 (kq ≤ k) ∧ Drawn0 w wc)
  case first =>
    have H := HC2.out
    clear HC2
    by_cases c3 : a0 = 1
    · rw [if_pos c3] at H
      have c3b0 : (a0 == 1) = true := beq_iff_eq.mpr c3
      have c3b1 : (a0 != 1) = false := bne_eq_false_iff_eq.mpr c3
      clear c3
      (first | rw [c3b0] | (simp only [i64_w, i32_w]; rw [c3b0]) | skip)
      have H' := Aside0.mk H
      clear H
      go_wp2
      go_meet
      case rel => exact ⟨_, ((a0 == 1)), (by first | rfl | (simp; done) | (simp [*]; done)), H', ⟨by first | omega | exact Nat.le_refl _⟩, by repeat (first | exact Drawn0.refl _ | apply Drawn0.step)⟩
    · rw [if_neg c3] at H
      have c3b0 : (a0 == 1) = false := beq_eq_false_iff_ne.mpr c3
      have c3b1 : (a0 != 1) = true := bne_iff_ne.mpr c3
      (first | rw [c3b0] | (simp only [i64_w, i32_w]; rw [c3b0]) | skip)
      by_cases c4 : a0 = 2
      · rw [if_pos c4] at H
        have c4b0 : (a0 == 2) = true := beq_iff_eq.mpr c4
        have c4b1 : (a0 != 2) = false := bne_eq_false_iff_eq.mpr c4
        clear c4
        have H' := Aside0.mk H
        clear H
        go_wp2
        go_meet
        case rel => exact ⟨_, ((a0 == 2)), (by first | rfl | (simp; done) | (simp [*]; done)), H', ⟨by first | omega | exact Nat.le_refl _⟩, by repeat (first | exact Drawn0.refl _ | apply Drawn0.step)⟩
      · rw [if_neg c4] at H
        have c4b0 : (a0 == 2) = false := beq_eq_false_iff_ne.mpr c4
        have c4b1 : (a0 != 2) = true := bne_iff_ne.mpr c4
        have H' := Aside0.mk H
        clear H
        go_wp2
        go_meet
        case rel => exact ⟨_, ((a0 == 8)), (by first | rfl | (simp; done) | (simp [*]; done)), H', ⟨by first | omega | exact Nat.le_refl _⟩, by repeat (first | exact Drawn0.refl _ | apply Drawn0.step)⟩
  case rest =>
    clear HC2
    try clear p2
    try clear c3
    try clear c3b0
    try clear c3b1
    try clear c4
    try clear c4b0
    try clear c4b1
    obtain ⟨kq, x5_1, rfl, HA, HJ1, ⟨mc1, rfl⟩⟩ := hcut
    cases kq with
    | zero => exact absurd HA.out (by simp [cylinderref34_kids.j0])
    | succ kj1 =>
      have H := HA.out
      clear HA
      simp only [cylinderref34_kids.j0] at H
      by_cases c5 : x5_1 = true
      · subst c5
        have H1 : (some (0, true)) = some (r1, r2) := by rw [if_pos rfl] at H; exact H
        clear H
        have H := H1
        clear H1
        simp only [Option.some.injEq, Prod.mk.injEq] at H
        obtain ⟨rfl, rfl⟩ := H
        go_wp2
        go_ret2
        exact ⟨by first | rfl | (simp; done) | (simp [*]; done), by repeat (first | exact Drawn0.refl _ | apply Drawn0.step)⟩
      · replace c5 := Bool.eq_false_iff.mpr c5
        subst c5
        have H1 : (if a0 = 6 then (cylinderref34_kids.j1 kj1 a0 (a0 == 6)) else (cylinderref34_kids.j1 kj1 a0 (a0 == 7))) = some (r1, r2) := by rw [if_neg (show ¬ (false = true) by decide)] at H; exact H
        clear H
        have H := H1
        clear H1
        have HC6 := Aside0.mk H
        clear H
        go_upto_if 9 with (fail)
        go_cut [9] (fun v9 wc => ∃ (kq : Nat) (x9_5 : Bool), v9 = .bool x9_5 ∧ Aside0 (cylinderref34_kids.j1 kq a0 x9_5 = some (r1, r2)) ∧ Aside0 (kq ≤ kj1) ∧ Drawn0 w wc)
        case first =>
          have H := HC6.out
          clear HC6
          by_cases c7 : a0 = 6
          · rw [if_pos c7] at H
            have c7b0 : (a0 == 6) = true := beq_iff_eq.mpr c7
            have c7b1 : (a0 != 6) = false := bne_eq_false_iff_eq.mpr c7
            clear c7
            (first | rw [c7b0] | (simp only [i64_w, i32_w]; rw [c7b0]) | skip)
            have H' := Aside0.mk H
            clear H
            go_wp2
            go_meet
            case rel => exact ⟨_, ((a0 == 6)), (by first | rfl | (simp; done) | (simp [*]; done)), H', ⟨by have := HJ1.out; first | omega | exact Nat.le_refl _⟩, by repeat (first | exact Drawn0.refl _ | apply Drawn0.step)⟩
          · rw [if_neg c7] at H
            have c7b0 : (a0 == 6) = false := beq_eq_false_iff_ne.mpr c7
            have c7b1 : (a0 != 6) = true := bne_iff_ne.mpr c7
            (first | rw [c7b0] | (simp only [i64_w, i32_w]; rw [c7b0]) | skip)
            have H' := Aside0.mk H
            clear H
            go_wp2
            go_meet
            case rel => exact ⟨_, ((a0 == 7)), (by first | rfl | (simp; done) | (simp [*]; done)), H', ⟨by have := HJ1.out; first | omega | exact Nat.le_refl _⟩, by repeat (first | exact Drawn0.refl _ | apply Drawn0.step)⟩
        case rest =>
          clear HC6
          try clear c1
          try clear p2
          try clear c3
          try clear c3b0
          try clear c3b1
          try clear c4
          try clear c4b0
          try clear c4b1
          try clear c5
          try clear c7
          try clear c7b0
          try clear c7b1
          try clear p2
          obtain ⟨kq, x9_5, rfl, HA, HJ5, ⟨mc5, rfl⟩⟩ := hcut
          cases kq with
          | zero => exact absurd HA.out (by simp [cylinderref34_kids.j1])
          | succ kj5 =>
            have H := HA.out
            clear HA
            simp only [cylinderref34_kids.j1] at H
            by_cases c8 : x9_5 = true
            · subst c8
              have H1 : (some (1, true)) = some (r1, r2) := by rw [if_pos rfl] at H; exact H
              clear H
              have H := H1
              clear H1
              simp only [Option.some.injEq, Prod.mk.injEq] at H
              obtain ⟨rfl, rfl⟩ := H
              go_wp2
              go_ret2
              exact ⟨by first | rfl | (simp; done) | (simp [*]; done), by repeat (first | exact Drawn0.refl _ | apply Drawn0.step)⟩
            · replace c8 := Bool.eq_false_iff.mpr c8
              subst c8
              have H1 : (if a0 = 3 then (cylinderref34_kids.j2 kj5 a0 (a0 == 3)) else (if a0 = 4 then (cylinderref34_kids.j2 kj5 a0 (a0 == 4)) else (if a0 = 5 then (cylinderref34_kids.j2 kj5 a0 (a0 == 5)) else (cylinderref34_kids.j2 kj5 a0 (a0 == 9))))) = some (r1, r2) := by rw [if_neg (show ¬ (false = true) by decide)] at H; exact H
              clear H
              have H := H1
              clear H1
              have HC9 := Aside0.mk H
              clear H
              go_upto_if 12 with (fail)
              go_cut [12] (fun v12 wc => ∃ (kq : Nat) (x12_8 : Bool), v12 = .bool x12_8 ∧ Aside0 (cylinderref34_kids.j2 kq a0 x12_8 = some (r1, r2)) ∧ Aside0 (kq ≤ kj5) ∧ Drawn0 w wc)
              case first =>
                have H := HC9.out
                clear HC9
                by_cases c10 : a0 = 3
                · rw [if_pos c10] at H
                  have c10b0 : (a0 == 3) = true := beq_iff_eq.mpr c10
                  have c10b1 : (a0 != 3) = false := bne_eq_false_iff_eq.mpr c10
                  clear c10
                  (first | rw [c10b0] | (simp only [i64_w, i32_w]; rw [c10b0]) | skip)
                  have H' := Aside0.mk H
                  clear H
                  go_wp2
                  go_meet
                  case rel => exact ⟨_, ((a0 == 3)), (by first | rfl | (simp; done) | (simp [*]; done)), H', ⟨by have := HJ1.out; have := HJ5.out; first | omega | exact Nat.le_refl _⟩, by repeat (first | exact Drawn0.refl _ | apply Drawn0.step)⟩
                · rw [if_neg c10] at H
                  have c10b0 : (a0 == 3) = false := beq_eq_false_iff_ne.mpr c10
                  have c10b1 : (a0 != 3) = true := bne_iff_ne.mpr c10
                  (first | rw [c10b0] | (simp only [i64_w, i32_w]; rw [c10b0]) | skip)
                  by_cases c11 : a0 = 4
                  · rw [if_pos c11] at H
                    have c11b0 : (a0 == 4) = true := beq_iff_eq.mpr c11
                    have c11b1 : (a0 != 4) = false := bne_eq_false_iff_eq.mpr c11
                    clear c11
                    have H' := Aside0.mk H
                    clear H
                    go_wp2
                    go_meet
                    case rel => exact ⟨_, ((a0 == 4)), (by first | rfl | (simp; done) | (simp [*]; done)), H', ⟨by have := HJ1.out; have := HJ5.out; first | omega | exact Nat.le_refl _⟩, by repeat (first | exact Drawn0.refl _ | apply Drawn0.step)⟩
                  · rw [if_neg c11] at H
                    have c11b0 : (a0 == 4) = false := beq_eq_false_iff_ne.mpr c11
                    have c11b1 : (a0 != 4) = true := bne_iff_ne.mpr c11
                    by_cases c12 : a0 = 5
                    · rw [if_pos c12] at H
                      have c12b0 : (a0 == 5) = true := beq_iff_eq.mpr c12
                      have c12b1 : (a0 != 5) = false := bne_eq_false_iff_eq.mpr c12
                      clear c12
                      have H' := Aside0.mk H
                      clear H
                      go_wp2
                      go_meet
                      case rel => exact ⟨_, ((a0 == 5)), (by first | rfl | (simp; done) | (simp [*]; done)), H', ⟨by have := HJ1.out; have := HJ5.out; first | omega | exact Nat.le_refl _⟩, by repeat (first | exact Drawn0.refl _ | apply Drawn0.step)⟩
                    · rw [if_neg c12] at H
                      have c12b0 : (a0 == 5) = false := beq_eq_false_iff_ne.mpr c12
                      have c12b1 : (a0 != 5) = true := bne_iff_ne.mpr c12
                      have H' := Aside0.mk H
                      clear H
                      go_wp2
                      go_meet
                      case rel => exact ⟨_, ((a0 == 9)), (by first | rfl | (simp; done) | (simp [*]; done)), H', ⟨by have := HJ1.out; have := HJ5.out; first | omega | exact Nat.le_refl _⟩, by repeat (first | exact Drawn0.refl _ | apply Drawn0.step)⟩
              case rest =>
                clear HC9
                try clear c1
                try clear p2
                try clear c3
                try clear c3b0
                try clear c3b1
                try clear c4
                try clear c4b0
                try clear c4b1
                try clear c5
                try clear c7
                try clear c7b0
                try clear c7b1
                try clear c8
                try clear c10
                try clear c10b0
                try clear c10b1
                try clear c11
                try clear c11b0
                try clear c11b1
                try clear c12
                try clear c12b0
                try clear c12b1
                try clear p2
                obtain ⟨kq, x12_8, rfl, HA, HJ8, ⟨mc8, rfl⟩⟩ := hcut
                cases kq with
                | zero => exact absurd HA.out (by simp [cylinderref34_kids.j2])
                | succ kj8 =>
                  have H := HA.out
                  clear HA
                  simp only [cylinderref34_kids.j2] at H
                  by_cases c13 : x12_8 = true
                  · subst c13
                    have H1 : (some (2, true)) = some (r1, r2) := by rw [if_pos rfl] at H; exact H
                    clear H
                    have H := H1
                    clear H1
                    simp only [Option.some.injEq, Prod.mk.injEq] at H
                    obtain ⟨rfl, rfl⟩ := H
                    go_wp2
                    go_ret2
                    exact ⟨by first | rfl | (simp; done) | (simp [*]; done), by repeat (first | exact Drawn0.refl _ | apply Drawn0.step)⟩
                  · replace c13 := Bool.eq_false_iff.mpr c13
                    subst c13
                    have H1 : (if a0 = 10 then (cylinderref34_kids.j3 kj8 a0 (a0 == 10)) else (cylinderref34_kids.j3 kj8 a0 (a0 == 15))) = some (r1, r2) := by rw [if_neg (show ¬ (false = true) by decide)] at H; exact H
                    clear H
                    have H := H1
                    clear H1
                    have HC14 := Aside0.mk H
                    clear H
                    go_upto_if 17 with (fail)
                    go_cut [17] (fun v17 wc => ∃ (kq : Nat) (x17_13 : Bool), v17 = .bool x17_13 ∧ Aside0 (cylinderref34_kids.j3 kq a0 x17_13 = some (r1, r2)) ∧ Aside0 (kq ≤ kj8) ∧ Drawn0 w wc)
                    case first =>
                      have H := HC14.out
                      clear HC14
                      by_cases c15 : a0 = 10
                      · rw [if_pos c15] at H
                        have c15b0 : (a0 == 10) = true := beq_iff_eq.mpr c15
                        have c15b1 : (a0 != 10) = false := bne_eq_false_iff_eq.mpr c15
                        clear c15
                        (first | rw [c15b0] | (simp only [i64_w, i32_w]; rw [c15b0]) | skip)
                        have H' := Aside0.mk H
                        clear H
                        go_wp2
                        go_meet
                        case rel => exact ⟨_, ((a0 == 10)), (by first | rfl | (simp; done) | (simp [*]; done)), H', ⟨by have := HJ1.out; have := HJ5.out; have := HJ8.out; first | omega | exact Nat.le_refl _⟩, by repeat (first | exact Drawn0.refl _ | apply Drawn0.step)⟩
                      · rw [if_neg c15] at H
                        have c15b0 : (a0 == 10) = false := beq_eq_false_iff_ne.mpr c15
                        have c15b1 : (a0 != 10) = true := bne_iff_ne.mpr c15
                        (first | rw [c15b0] | (simp only [i64_w, i32_w]; rw [c15b0]) | skip)
                        have H' := Aside0.mk H
                        clear H
                        go_wp2
                        go_meet
                        case rel => exact ⟨_, ((a0 == 15)), (by first | rfl | (simp; done) | (simp [*]; done)), H', ⟨by have := HJ1.out; have := HJ5.out; have := HJ8.out; first | omega | exact Nat.le_refl _⟩, by repeat (first | exact Drawn0.refl _ | apply Drawn0.step)⟩
                    case rest =>
                      clear HC14
                      try clear c1
                      try clear p2
                      try clear c3
                      try clear c3b0
                      try clear c3b1
                      try clear c4
                      try clear c4b0
                      try clear c4b1
                      try clear c5
                      try clear c7
                      try clear c7b0
                      try clear c7b1
                      try clear c8
                      try clear c10
                      try clear c10b0
                      try clear c10b1
                      try clear c11
                      try clear c11b0
                      try clear c11b1
                      try clear c12
                      try clear c12b0
                      try clear c12b1
                      try clear c13
                      try clear c15
                      try clear c15b0
                      try clear c15b1
                      try clear p2
                      obtain ⟨kq, x17_13, rfl, HA, HJ13, ⟨mc13, rfl⟩⟩ := hcut
                      cases kq with
                      | zero => exact absurd HA.out (by simp [cylinderref34_kids.j3])
                      | succ kj13 =>
                        have H := HA.out
                        clear HA
                        simp only [cylinderref34_kids.j3] at H
                        by_cases c16 : x17_13 = true
                        · subst c16
                          have H1 : (some (1, false)) = some (r1, r2) := by rw [if_pos rfl] at H; exact H
                          clear H
                          have H := H1
                          clear H1
                          simp only [Option.some.injEq, Prod.mk.injEq] at H
                          obtain ⟨rfl, rfl⟩ := H
                          go_wp2
                          go_ret2
                          exact ⟨by first | rfl | (simp; done) | (simp [*]; done), by repeat (first | exact Drawn0.refl _ | apply Drawn0.step)⟩
                        · replace c16 := Bool.eq_false_iff.mpr c16
                          subst c16
                          have H1 : (if a0 = 11 then (some (2, false)) else (if a0 = 12 then (some (2, false)) else (if a0 = 13 then (some (2, false)) else (if a0 = 14 then (some (2, false)) else (some ((-1), false)))))) = some (r1, r2) := by rw [if_neg (show ¬ (false = true) by decide)] at H; exact H
                          clear H
                          have H := H1
                          clear H1
                          by_cases c17 : a0 = 11
                          · rw [if_pos c17] at H
                            have c17b0 : (a0 == 11) = true := beq_iff_eq.mpr c17
                            have c17b1 : (a0 != 11) = false := bne_eq_false_iff_eq.mpr c17
                            clear c17
                            simp only [Option.some.injEq, Prod.mk.injEq] at H
                            obtain ⟨rfl, rfl⟩ := H
                            go_wp2
                            go_ret2
                            exact ⟨by first | rfl | (simp; done) | (simp [*]; done), by repeat (first | exact Drawn0.refl _ | apply Drawn0.step)⟩
                          · rw [if_neg c17] at H
                            have c17b0 : (a0 == 11) = false := beq_eq_false_iff_ne.mpr c17
                            have c17b1 : (a0 != 11) = true := bne_iff_ne.mpr c17
                            by_cases c18 : a0 = 12
                            · rw [if_pos c18] at H
                              have c18b0 : (a0 == 12) = true := beq_iff_eq.mpr c18
                              have c18b1 : (a0 != 12) = false := bne_eq_false_iff_eq.mpr c18
                              clear c18
                              simp only [Option.some.injEq, Prod.mk.injEq] at H
                              obtain ⟨rfl, rfl⟩ := H
                              go_wp2
                              go_ret2
                              exact ⟨by first | rfl | (simp; done) | (simp [*]; done), by repeat (first | exact Drawn0.refl _ | apply Drawn0.step)⟩
                            · rw [if_neg c18] at H
                              have c18b0 : (a0 == 12) = false := beq_eq_false_iff_ne.mpr c18
                              have c18b1 : (a0 != 12) = true := bne_iff_ne.mpr c18
                              by_cases c19 : a0 = 13
                              · rw [if_pos c19] at H
                                have c19b0 : (a0 == 13) = true := beq_iff_eq.mpr c19
                                have c19b1 : (a0 != 13) = false := bne_eq_false_iff_eq.mpr c19
                                clear c19
                                simp only [Option.some.injEq, Prod.mk.injEq] at H
                                obtain ⟨rfl, rfl⟩ := H
                                go_wp2
                                go_ret2
                                exact ⟨by first | rfl | (simp; done) | (simp [*]; done), by repeat (first | exact Drawn0.refl _ | apply Drawn0.step)⟩
                              · rw [if_neg c19] at H
                                have c19b0 : (a0 == 13) = false := beq_eq_false_iff_ne.mpr c19
                                have c19b1 : (a0 != 13) = true := bne_iff_ne.mpr c19
                                by_cases c20 : a0 = 14
                                · rw [if_pos c20] at H
                                  have c20b0 : (a0 == 14) = true := beq_iff_eq.mpr c20
                                  have c20b1 : (a0 != 14) = false := bne_eq_false_iff_eq.mpr c20
                                  clear c20
                                  simp only [Option.some.injEq, Prod.mk.injEq] at H
                                  obtain ⟨rfl, rfl⟩ := H
                                  go_wp2
                                  go_ret2
                                  exact ⟨by first | rfl | (simp; done) | (simp [*]; done), by repeat (first | exact Drawn0.refl _ | apply Drawn0.step)⟩
                                · rw [if_neg c20] at H
                                  have c20b0 : (a0 == 14) = false := beq_eq_false_iff_ne.mpr c20
                                  have c20b1 : (a0 != 14) = true := bne_iff_ne.mpr c20
                                  simp only [Option.some.injEq, Prod.mk.injEq] at H
                                  obtain ⟨rfl, rfl⟩ := H
                                  go_wp2
                                  go_ret2
                                  exact ⟨by first | rfl | (simp; done) | (simp [*]; done), by repeat (first | exact Drawn0.refl _ | apply Drawn0.step)⟩

/-! ### cylinderref34_isTerm: function 57 -/
def cylinderref34_isTerm.f (a0 : Int) : Option (Bool) := if a0 ≥ 1 then (some (decide (a0 ≤ 7))) else (some false)
set_option maxHeartbeats 8000000 in
set_option maxRecDepth 100000 in
theorem cylinderref34_isTerm.calls (a0 : Int) (r : Bool) (w : World) (h : cylinderref34_isTerm.f a0 = some r) :
    Calls Try.prog 57 #[.int .i64 a0] w fun e w' => e = .returned (.bool r) ∧ Drawn0 w w' := by
  have H : (if a0 ≥ 1 then (some (decide (a0 ≤ 7))) else (some false)) = some r := h
  clear h
  by_cases c2 : a0 ≥ 1
  · rw [if_pos c2] at H
    have c2b0 : decide (1 ≤ a0) = true := decide_eq_true c2
    clear c2
    obtain rfl := Option.some.inj H
    go_enter Try.func57, Try.ntmps57
    go_wp2
    go_ret
    exact ⟨by first | rfl | (simp; done) | (simp [*]; done), by repeat (first | exact Drawn0.refl _ | apply Drawn0.step)⟩
  · rw [if_neg c2] at H
    have c2b0 : decide (1 ≤ a0) = false := decide_eq_false c2
    clear c2
    obtain rfl := Option.some.inj H
    go_enter Try.func57, Try.ntmps57
    go_wp2
    go_ret
    exact ⟨by first | rfl | (simp; done) | (simp [*]; done), by repeat (first | exact Drawn0.refl _ | apply Drawn0.step)⟩

/-! ### cylinderref34_Is: function 19 -/
mutual
def cylinderref34_Is.j0 : Nat → Bool → Bool → Int → Bool → List Int → ByteArray → Int → Int → Bool → Bool → List (S29) → Option (Bool)
  | 0, _, _, _, _, _, _, _, _, _, _, _ => none
  | k + 1, x6, x25, x138000, x138001, x138002, x138003, x138004, x138005, x138006, x138007, x138008 => if x25 = true then (some false) else (if x138000 = 7 then (if x138004 < 0 then (cylinderref34_Is.j1 k x6 true x138000 x138001 x138002 x138003 x138004 x138005 x138006 x138007 x138008) else (if x138000 = 9 then (if x138005 < 1 then (cylinderref34_Is.j1 k x6 true x138000 x138001 x138002 x138003 x138004 x138005 x138006 x138007 x138008) else (cylinderref34_Is.j1 k x6 (decide (x138005 > 6)) x138000 x138001 x138002 x138003 x138004 x138005 x138006 x138007 x138008)) else (cylinderref34_Is.j1 k x6 false x138000 x138001 x138002 x138003 x138004 x138005 x138006 x138007 x138008))) else (if x138000 = 9 then (if x138005 < 1 then (cylinderref34_Is.j1 k x6 true x138000 x138001 x138002 x138003 x138004 x138005 x138006 x138007 x138008) else (cylinderref34_Is.j1 k x6 (decide (x138005 > 6)) x138000 x138001 x138002 x138003 x138004 x138005 x138006 x138007 x138008)) else (cylinderref34_Is.j1 k x6 false x138000 x138001 x138002 x138003 x138004 x138005 x138006 x138007 x138008)))
def cylinderref34_Is.j1 : Nat → Bool → Bool → Int → Bool → List Int → ByteArray → Int → Int → Bool → Bool → List (S29) → Option (Bool)
  | 0, _, _, _, _, _, _, _, _, _, _, _ => none
  | k + 1, x6, x48, x138000, x138001, x138002, x138003, x138004, x138005, x138006, x138007, x138008 => if x48 = true then (some false) else (cylinderref34_Is.l0 k x6 (x138008.length : Int) 0 x138000 x138001 x138002 x138003 x138004 x138005 x138006 x138007 x138008)
def cylinderref34_Is.l0 : Nat → Bool → Int → Int → Int → Bool → List Int → ByteArray → Int → Int → Bool → Bool → List (S29) → Option (Bool)
  | 0, _, _, _, _, _, _, _, _, _, _, _, _ => none
  | k + 1, x6, x51, x52, x138000, x138001, x138002, x138003, x138004, x138005, x138006, x138007, x138008 => if x52 < x51 then (if 0 ≤ x52 then (if x52 < (x138008.length : Int) then ((cylinderref34_Is.f k ((rd_T29 x138008 x52).f0) ((rd_T29 x138008 x52).f1.f0) ((rd_T29 x138008 x52).f1.f1) ((rd_T29 x138008 x52).f2) ((rd_T29 x138008 x52).f3) ((rd_T29 x138008 x52).f4) ((rd_T29 x138008 x52).f5) ((rd_T29 x138008 x52).f6) ((rd_T29 x138008 x52).f7) x6).bind fun t142 => (if t142 = true then (cylinderref34_Is.l0 k x6 x51 (wrap64 (x52 + 1)) x138000 x138001 x138002 x138003 x138004 x138005 x138006 x138007 x138008) else (some false))) else (none)) else (none)) else (some true)
def cylinderref34_Is.f : Nat → Int → Bool → List Int → ByteArray → Int → Int → Bool → Bool → List (S29) → Bool → Option (Bool)
  | 0, _, _, _, _, _, _, _, _, _, _ => none
  | k + 1, a0_0, a0_1, l0_2, a0_3, a0_4, a0_5, a0_6, a0_7, l0_8, a1 => (cylinderref34_kids.f k a0_0).bind fun bt138 => (if bt138.1 = (l0_8.length : Int) then ((cylinderref34_isTerm.f a0_0).bind fun t140 => (cylinderref34_Is.j0 k bt138.2 (t140 != a1) a0_0 a0_1 l0_2 a0_3 a0_4 a0_5 a0_6 a0_7 l0_8)) else (cylinderref34_Is.j0 k bt138.2 true a0_0 a0_1 l0_2 a0_3 a0_4 a0_5 a0_6 a0_7 l0_8))
end
theorem cylinderref34_Is.mono_l : ∀ k, (∀ y0 y1 y2 y3 y4 y5 y6 y7 y8 y9, LeO (cylinderref34_Is.f k y0 y1 y2 y3 y4 y5 y6 y7 y8 y9) (cylinderref34_Is.f (k + 1) y0 y1 y2 y3 y4 y5 y6 y7 y8 y9)) ∧ (∀ y0 y1 y2 y3 y4 y5 y6 y7 y8 y9 y10, LeO (cylinderref34_Is.j0 k y0 y1 y2 y3 y4 y5 y6 y7 y8 y9 y10) (cylinderref34_Is.j0 (k + 1) y0 y1 y2 y3 y4 y5 y6 y7 y8 y9 y10)) ∧ (∀ y0 y1 y2 y3 y4 y5 y6 y7 y8 y9 y10, LeO (cylinderref34_Is.j1 k y0 y1 y2 y3 y4 y5 y6 y7 y8 y9 y10) (cylinderref34_Is.j1 (k + 1) y0 y1 y2 y3 y4 y5 y6 y7 y8 y9 y10)) ∧ (∀ y0 y1 y2 y3 y4 y5 y6 y7 y8 y9 y10 y11, LeO (cylinderref34_Is.l0 k y0 y1 y2 y3 y4 y5 y6 y7 y8 y9 y10 y11) (cylinderref34_Is.l0 (k + 1) y0 y1 y2 y3 y4 y5 y6 y7 y8 y9 y10 y11))
  | 0 => ⟨fun _ _ _ _ _ _ _ _ _ _ r h => by simp [cylinderref34_Is.f] at h, fun _ _ _ _ _ _ _ _ _ _ _ r h => by simp [cylinderref34_Is.j0] at h, fun _ _ _ _ _ _ _ _ _ _ _ r h => by simp [cylinderref34_Is.j1] at h, fun _ _ _ _ _ _ _ _ _ _ _ _ r h => by simp [cylinderref34_Is.l0] at h⟩
  | k + 1 => by
    obtain ⟨ih0, ih1, ih2, ih3⟩ := cylinderref34_Is.mono_l k
    refine ⟨?_, ?_, ?_, ?_⟩
    · intro y0 y1 y2 y3 y4 y5 y6 y7 y8 y9
      unfold cylinderref34_Is.f
      repeat' first
      | (with_reducible exact ih0 _ _ _ _ _ _ _ _ _ _)
      | (with_reducible exact ih1 _ _ _ _ _ _ _ _ _ _ _)
      | (with_reducible exact ih2 _ _ _ _ _ _ _ _ _ _ _)
      | (with_reducible exact ih3 _ _ _ _ _ _ _ _ _ _ _ _)
      | (with_reducible exact cylinderref34_kids.mono _ _)
      | (with_reducible exact LeO.refl _)
      | (with_reducible exact LeO.none _)
      | (with_reducible refine LeO.ite ?_ ?_)
      | (with_reducible refine LeO.bind ?_ (fun _ => ?_))
      | exact ih0 _ _ _ _ _ _ _ _ _ _
      | exact ih1 _ _ _ _ _ _ _ _ _ _ _
      | exact ih2 _ _ _ _ _ _ _ _ _ _ _
      | exact ih3 _ _ _ _ _ _ _ _ _ _ _ _
      | exact cylinderref34_kids.mono _ _
      | exact LeO.none _
      | refine LeO.ite ?_ ?_
      | refine LeO.bind ?_ (fun _ => ?_)
    · intro y0 y1 y2 y3 y4 y5 y6 y7 y8 y9 y10
      unfold cylinderref34_Is.j0
      repeat' first
      | (with_reducible exact ih0 _ _ _ _ _ _ _ _ _ _)
      | (with_reducible exact ih1 _ _ _ _ _ _ _ _ _ _ _)
      | (with_reducible exact ih2 _ _ _ _ _ _ _ _ _ _ _)
      | (with_reducible exact ih3 _ _ _ _ _ _ _ _ _ _ _ _)
      | (with_reducible exact cylinderref34_kids.mono _ _)
      | (with_reducible exact LeO.refl _)
      | (with_reducible exact LeO.none _)
      | (with_reducible refine LeO.ite ?_ ?_)
      | (with_reducible refine LeO.bind ?_ (fun _ => ?_))
      | exact ih0 _ _ _ _ _ _ _ _ _ _
      | exact ih1 _ _ _ _ _ _ _ _ _ _ _
      | exact ih2 _ _ _ _ _ _ _ _ _ _ _
      | exact ih3 _ _ _ _ _ _ _ _ _ _ _ _
      | exact cylinderref34_kids.mono _ _
      | exact LeO.none _
      | refine LeO.ite ?_ ?_
      | refine LeO.bind ?_ (fun _ => ?_)
    · intro y0 y1 y2 y3 y4 y5 y6 y7 y8 y9 y10
      unfold cylinderref34_Is.j1
      repeat' first
      | (with_reducible exact ih0 _ _ _ _ _ _ _ _ _ _)
      | (with_reducible exact ih1 _ _ _ _ _ _ _ _ _ _ _)
      | (with_reducible exact ih2 _ _ _ _ _ _ _ _ _ _ _)
      | (with_reducible exact ih3 _ _ _ _ _ _ _ _ _ _ _ _)
      | (with_reducible exact cylinderref34_kids.mono _ _)
      | (with_reducible exact LeO.refl _)
      | (with_reducible exact LeO.none _)
      | (with_reducible refine LeO.ite ?_ ?_)
      | (with_reducible refine LeO.bind ?_ (fun _ => ?_))
      | exact ih0 _ _ _ _ _ _ _ _ _ _
      | exact ih1 _ _ _ _ _ _ _ _ _ _ _
      | exact ih2 _ _ _ _ _ _ _ _ _ _ _
      | exact ih3 _ _ _ _ _ _ _ _ _ _ _ _
      | exact cylinderref34_kids.mono _ _
      | exact LeO.none _
      | refine LeO.ite ?_ ?_
      | refine LeO.bind ?_ (fun _ => ?_)
    · intro y0 y1 y2 y3 y4 y5 y6 y7 y8 y9 y10 y11
      unfold cylinderref34_Is.l0
      repeat' first
      | (with_reducible exact ih0 _ _ _ _ _ _ _ _ _ _)
      | (with_reducible exact ih1 _ _ _ _ _ _ _ _ _ _ _)
      | (with_reducible exact ih2 _ _ _ _ _ _ _ _ _ _ _)
      | (with_reducible exact ih3 _ _ _ _ _ _ _ _ _ _ _ _)
      | (with_reducible exact cylinderref34_kids.mono _ _)
      | (with_reducible exact LeO.refl _)
      | (with_reducible exact LeO.none _)
      | (with_reducible refine LeO.ite ?_ ?_)
      | (with_reducible refine LeO.bind ?_ (fun _ => ?_))
      | exact ih0 _ _ _ _ _ _ _ _ _ _
      | exact ih1 _ _ _ _ _ _ _ _ _ _ _
      | exact ih2 _ _ _ _ _ _ _ _ _ _ _
      | exact ih3 _ _ _ _ _ _ _ _ _ _ _ _
      | exact cylinderref34_kids.mono _ _
      | exact LeO.none _
      | refine LeO.ite ?_ ?_
      | refine LeO.bind ?_ (fun _ => ?_)
theorem cylinderref34_Is.mono : ∀ a0 a1 a2 a3 a4 a5 a6 a7 a8 a9 k, LeO (cylinderref34_Is.f k a0 a1 a2 a3 a4 a5 a6 a7 a8 a9) (cylinderref34_Is.f (k + 1) a0 a1 a2 a3 a4 a5 a6 a7 a8 a9) := by
  intro a0 a1 a2 a3 a4 a5 a6 a7 a8 a9 k
  obtain ⟨ih0, ih1, ih2, ih3⟩ := cylinderref34_Is.mono_l k
  exact ih0 a0 a1 a2 a3 a4 a5 a6 a7 a8 a9
set_option maxHeartbeats 8000000 in
set_option maxRecDepth 100000 in
theorem cylinderref34_Is.calls (k : Nat) : ∀ (a0_0 : Int) (a0_1 : Bool) (A0_2 : Option Addr) (c0_2 : Nat) (l0_2 : List Int) (a0_3 : ByteArray) (a0_4 : Int) (a0_5 : Int) (a0_6 : Bool) (a0_7 : Bool) (A0_8 : Option Addr) (c0_8 : Nat) (l0_8 : List (S29)) (a1 : Bool) (r : Bool) (w : World) (hr0_2 : Kd.C (Kd.int .u32) w A0_2 l0_2.length l0_2) (hc0_2 : l0_2.length ≤ c0_2) (hr0_8 : Kd.C k29 w A0_8 l0_8.length l0_8) (hc0_8 : l0_8.length ≤ c0_8) (h : cylinderref34_Is.f k a0_0 a0_1 l0_2 a0_3 a0_4 a0_5 a0_6 a0_7 l0_8 a1 = some r),
    Calls Try.prog 19 #[.agg #[.int .i64 a0_0, .bool a0_1, .slice A0_2 l0_2.length c0_2, .string a0_3, .int .i64 a0_4, .int .i64 a0_5, .bool a0_6, .bool a0_7, .slice A0_8 l0_8.length c0_8], .bool a1] w fun e w' => e = .returned (.bool r) ∧ Below w.heap.size w w' := by
  induction k using Nat.strongRecOn with
  | _ k ih =>
  intro a0_0 a0_1 A0_2 c0_2 l0_2 a0_3 a0_4 a0_5 a0_6 a0_7 A0_8 c0_8 l0_8 a1 r w hr0_2 hc0_2 hr0_8 hc0_8 h
  cases k with
  | zero => exact absurd h (by simp [cylinderref34_Is.f])
  | succ k =>
  simp only [cylinderref34_Is.f] at h
  have hu29 := Try.underlying29
  have HR0_2 := Aside0.mk hr0_2
  have HC0_2 := Aside0.mk hc0_2
  clear hr0_2 hc0_2
  have HR0_8 := Aside0.mk hr0_8
  have HC0_8 := Aside0.mk hc0_8
  clear hr0_8 hc0_8
  have HB := Aside0.mk (Below.refl w.heap.size w)
  have H : ((cylinderref34_kids.f k a0_0).bind fun bt138 => (if bt138.1 = (l0_8.length : Int) then ((cylinderref34_isTerm.f a0_0).bind fun t140 => (cylinderref34_Is.j0 k bt138.2 (t140 != a1) a0_0 a0_1 l0_2 a0_3 a0_4 a0_5 a0_6 a0_7 l0_8)) else (cylinderref34_Is.j0 k bt138.2 true a0_0 a0_1 l0_2 a0_3 a0_4 a0_5 a0_6 a0_7 l0_8))) = some r := h
  clear h
  replace H := Option.bind_eq_some_iff.mp H
  obtain ⟨⟨t138, t139⟩, A30, H⟩ := H
  replace H : (if t138 = (l0_8.length : Int) then ((cylinderref34_isTerm.f a0_0).bind fun t140 => (cylinderref34_Is.j0 k t139 (t140 != a1) a0_0 a0_1 l0_2 a0_3 a0_4 a0_5 a0_6 a0_7 l0_8)) else (cylinderref34_Is.j0 k t139 true a0_0 a0_1 l0_2 a0_3 a0_4 a0_5 a0_6 a0_7 l0_8)) = some r := H
  have A3 := Aside0.mk A30
  clear A30
  have HC4 := Aside0.mk H
  clear H
  go_enter Try.func19, Try.ntmps19
  go_upto_region 2 with (first | ((with_reducible refine gate_dst (N := 2) rfl ?_); refine box_event ?hg (N := 2) ?hd (cs := #[.int .i64 a0_0, .bool a0_1, .slice A0_2 l0_2.length c0_2, .string a0_3, .int .i64 a0_4, .int .i64 a0_5, .bool a0_6, .bool a0_7, .slice A0_8 l0_8.length c0_8]) (t := 29) ?hr ?_; (case hd => rfl); (case hg => rfl); (case hr => first | (go_simp; done) | (go_simp; rfl)); intro gb137 hg w5 hbox hb; have n0_ := Aside0.mk (below_step (by repeat (first | (with_reducible first | exact HB.out | apply below_alloc | apply pw_below_drewN | apply below_drew1) | exact HB.out)) hb); have n1_ := Aside0.mk (hbox); have n2_ := Aside0.mk ((by rw [hg]; exact (below_size (by repeat (first | (with_reducible first | exact HB.out | apply below_alloc | apply pw_below_drewN | apply below_drew1) | exact HB.out))) : w.heap.size ≤ gb137)); have n3_ := Aside0.mk ((by rw [hg]; exact (below_size (by repeat (first | (with_reducible first | exact HB.out | apply below_alloc | apply pw_below_drewN | apply below_drew1) | exact HB.out))) : w.heap.size ≤ gb137)); clear HB; have HB := n0_; have BK137 := n1_; have GW137 := n2_; have GE137 := n3_; clear n0_ n1_ n2_ n3_; clear hb hbox hg; have hcz6_0 : w5.cell? ⟨gb137, 0, none⟩ = some (.int .i64 a0_0) := (blk_cell BK137.out 0).trans rfl; have hcz6_1 : w5.cell? ⟨gb137, 1, none⟩ = some (.bool a0_1) := (blk_cell BK137.out 1).trans rfl; have hcz6_2 : w5.cell? ⟨gb137, 2, none⟩ = some (.slice A0_2 l0_2.length c0_2) := (blk_cell BK137.out 2).trans rfl; have hcz6_3 : w5.cell? ⟨gb137, 3, none⟩ = some (.string a0_3) := (blk_cell BK137.out 3).trans rfl; have hcz6_4 : w5.cell? ⟨gb137, 4, none⟩ = some (.int .i64 a0_4) := (blk_cell BK137.out 4).trans rfl; have hcz6_5 : w5.cell? ⟨gb137, 5, none⟩ = some (.int .i64 a0_5) := (blk_cell BK137.out 5).trans rfl; have hcz6_6 : w5.cell? ⟨gb137, 6, none⟩ = some (.bool a0_6) := (blk_cell BK137.out 6).trans rfl; have hcz6_7 : w5.cell? ⟨gb137, 7, none⟩ = some (.bool a0_7) := (blk_cell BK137.out 7).trans rfl; have hcz6_8 : w5.cell? ⟨gb137, 8, none⟩ = some (.slice A0_8 l0_8.length c0_8) := (blk_cell BK137.out 8).trans rfl; have hfz6_0 := blk_frozen BK137.out 0; have hfz6_1 := blk_frozen BK137.out 1; have hfz6_2 := blk_frozen BK137.out 2; have hfz6_3 := blk_frozen BK137.out 3; have hfz6_4 := blk_frozen BK137.out 4; have hfz6_5 := blk_frozen BK137.out 5; have hfz6_6 := blk_frozen BK137.out 6; have hfz6_7 := blk_frozen BK137.out 7; have hfz6_8 := blk_frozen BK137.out 8) | ((with_reducible refine gate_callee (f := 56) rfl ?_); refine goesL_ (some 11) rfl rfl Try.func56 (by kernel_rfl) rfl #[.int .i64 a0_0] rfl (by (try simp only [List.map_toArray, List.map_cons, List.map_nil]); first | done | rfl | (simp only [List.length_drop, List.length_take]; rfl)) ?_; (with_reducible refine (cylinderref34_kids.calls k a0_0 t138 t139 _ A3.out).mono ?_); rintro e w' ⟨rfl, ⟨nd, rfl⟩⟩; refine ⟨_, rfl, ?_⟩))
  (try simp only [Act.put, List.setIfInBounds_toArray, List.set_cons_zero, List.set_cons_succ])
  go_cut [25] (fun v25 wc => ∃ (kq : Nat) (x25_3 : Bool), v25 = .bool x25_3 ∧ Aside0 (cylinderref34_Is.j0 kq t139 x25_3 a0_0 a0_1 l0_2 a0_3 a0_4 a0_5 a0_6 a0_7 l0_8 = some r) ∧ Aside0 (kq ≤ k) ∧ Aside0 (wc.heap[gb137]? = some (.cells #[.int .i64 a0_0, .bool a0_1, (.slice A0_2 l0_2.length c0_2), .string a0_3, .int .i64 a0_4, .int .i64 a0_5, .bool a0_6, .bool a0_7, (.slice A0_8 l0_8.length c0_8)] 29 (0, 0))) ∧ Aside0 (Below w.heap.size w wc))
  case first =>
    have H := HC4.out
    clear HC4
    by_cases c7 : t138 = (l0_8.length : Int)
    · rw [if_pos c7] at H
      have c7b0 : (t138 == (l0_8.length : Int)) = true := beq_iff_eq.mpr c7
      have c7b1 : (t138 != (l0_8.length : Int)) = false := bne_eq_false_iff_eq.mpr c7
      clear c7
      (first | rw [c7b0] | (simp only [i64_w, i32_w]; rw [c7b0]) | skip)
      replace H := Option.bind_eq_some_iff.mp H
      obtain ⟨t140, A80, H⟩ := H
      replace H : (cylinderref34_Is.j0 k t139 (t140 != a1) a0_0 a0_1 l0_2 a0_3 a0_4 a0_5 a0_6 a0_7 l0_8) = some r := H
      have A8 := Aside0.mk A80
      clear A80
      have H' := Aside0.mk H
      clear H
      have hcz9_0 : w5.cell? ⟨gb137, 0, none⟩ = some (.int .i64 a0_0) := (blk_cell BK137.out 0).trans rfl
      have hcz9_1 : w5.cell? ⟨gb137, 1, none⟩ = some (.bool a0_1) := (blk_cell BK137.out 1).trans rfl
      have hcz9_2 : w5.cell? ⟨gb137, 2, none⟩ = some (.slice A0_2 l0_2.length c0_2) := (blk_cell BK137.out 2).trans rfl
      have hcz9_3 : w5.cell? ⟨gb137, 3, none⟩ = some (.string a0_3) := (blk_cell BK137.out 3).trans rfl
      have hcz9_4 : w5.cell? ⟨gb137, 4, none⟩ = some (.int .i64 a0_4) := (blk_cell BK137.out 4).trans rfl
      have hcz9_5 : w5.cell? ⟨gb137, 5, none⟩ = some (.int .i64 a0_5) := (blk_cell BK137.out 5).trans rfl
      have hcz9_6 : w5.cell? ⟨gb137, 6, none⟩ = some (.bool a0_6) := (blk_cell BK137.out 6).trans rfl
      have hcz9_7 : w5.cell? ⟨gb137, 7, none⟩ = some (.bool a0_7) := (blk_cell BK137.out 7).trans rfl
      have hcz9_8 : w5.cell? ⟨gb137, 8, none⟩ = some (.slice A0_8 l0_8.length c0_8) := (blk_cell BK137.out 8).trans rfl
      have hfz9_0 := blk_frozen BK137.out 0
      have hfz9_1 := blk_frozen BK137.out 1
      have hfz9_2 := blk_frozen BK137.out 2
      have hfz9_3 := blk_frozen BK137.out 3
      have hfz9_4 := blk_frozen BK137.out 4
      have hfz9_5 := blk_frozen BK137.out 5
      have hfz9_6 := blk_frozen BK137.out 6
      have hfz9_7 := blk_frozen BK137.out 7
      have hfz9_8 := blk_frozen BK137.out 8
      go_wp2_with (first | (go_at_call 57; (with_reducible refine (cylinderref34_isTerm.calls a0_0 t140 _ A8.out).mono ?_); rintro e w' ⟨rfl, ⟨nd, rfl⟩⟩))
      go_meet
      case rel => exact ⟨_, ((t140 != a1)), (by first | rfl | (simp; done) | (simp [*]; done)), H', ⟨by first | omega | exact Nat.le_refl _⟩, ⟨by (with_reducible repeat (first | refine blk_drewN ?_ _ | refine blk_drew ?_ | refine blk_alloc ?_ _)); exact BK137.out⟩, ⟨by repeat (first | (with_reducible first | exact HB.out | apply below_alloc | apply pw_below_drewN | apply below_drew1 | refine below_set ?_ GE137.out) | exact HB.out)⟩⟩
    · rw [if_neg c7] at H
      have c7b0 : (t138 == (l0_8.length : Int)) = false := beq_eq_false_iff_ne.mpr c7
      have c7b1 : (t138 != (l0_8.length : Int)) = true := bne_iff_ne.mpr c7
      (first | rw [c7b0] | (simp only [i64_w, i32_w]; rw [c7b0]) | skip)
      have H' := Aside0.mk H
      clear H
      have hcz10_0 : w5.cell? ⟨gb137, 0, none⟩ = some (.int .i64 a0_0) := (blk_cell BK137.out 0).trans rfl
      have hcz10_1 : w5.cell? ⟨gb137, 1, none⟩ = some (.bool a0_1) := (blk_cell BK137.out 1).trans rfl
      have hcz10_2 : w5.cell? ⟨gb137, 2, none⟩ = some (.slice A0_2 l0_2.length c0_2) := (blk_cell BK137.out 2).trans rfl
      have hcz10_3 : w5.cell? ⟨gb137, 3, none⟩ = some (.string a0_3) := (blk_cell BK137.out 3).trans rfl
      have hcz10_4 : w5.cell? ⟨gb137, 4, none⟩ = some (.int .i64 a0_4) := (blk_cell BK137.out 4).trans rfl
      have hcz10_5 : w5.cell? ⟨gb137, 5, none⟩ = some (.int .i64 a0_5) := (blk_cell BK137.out 5).trans rfl
      have hcz10_6 : w5.cell? ⟨gb137, 6, none⟩ = some (.bool a0_6) := (blk_cell BK137.out 6).trans rfl
      have hcz10_7 : w5.cell? ⟨gb137, 7, none⟩ = some (.bool a0_7) := (blk_cell BK137.out 7).trans rfl
      have hcz10_8 : w5.cell? ⟨gb137, 8, none⟩ = some (.slice A0_8 l0_8.length c0_8) := (blk_cell BK137.out 8).trans rfl
      have hfz10_0 := blk_frozen BK137.out 0
      have hfz10_1 := blk_frozen BK137.out 1
      have hfz10_2 := blk_frozen BK137.out 2
      have hfz10_3 := blk_frozen BK137.out 3
      have hfz10_4 := blk_frozen BK137.out 4
      have hfz10_5 := blk_frozen BK137.out 5
      have hfz10_6 := blk_frozen BK137.out 6
      have hfz10_7 := blk_frozen BK137.out 7
      have hfz10_8 := blk_frozen BK137.out 8
      go_wp2
      go_meet
      case rel => exact ⟨_, (true), (by first | rfl | (simp; done) | (simp [*]; done)), H', ⟨by first | omega | exact Nat.le_refl _⟩, ⟨by (with_reducible repeat (first | refine blk_drewN ?_ _ | refine blk_drew ?_ | refine blk_alloc ?_ _)); exact BK137.out⟩, ⟨by repeat (first | (with_reducible first | exact HB.out | apply below_alloc | apply pw_below_drewN | apply below_drew1 | refine below_set ?_ GE137.out) | exact HB.out)⟩⟩
  case rest =>
    clear HC4
    try clear c1
    try clear p2
    try clear c5
    try clear c7
    try clear c7b0
    try clear c7b1
    try clear hcz10_0
    try clear hcz10_1
    try clear hcz10_2
    try clear hcz10_3
    try clear hcz10_4
    try clear hcz10_5
    try clear hcz10_6
    try clear hcz10_7
    try clear hcz10_8
    try clear hcz6_0
    try clear hcz6_1
    try clear hcz6_2
    try clear hcz6_3
    try clear hcz6_4
    try clear hcz6_5
    try clear hcz6_6
    try clear hcz6_7
    try clear hcz6_8
    try clear hcz9_0
    try clear hcz9_1
    try clear hcz9_2
    try clear hcz9_3
    try clear hcz9_4
    try clear hcz9_5
    try clear hcz9_6
    try clear hcz9_7
    try clear hcz9_8
    try clear hfz10_0
    try clear hfz10_1
    try clear hfz10_2
    try clear hfz10_3
    try clear hfz10_4
    try clear hfz10_5
    try clear hfz10_6
    try clear hfz10_7
    try clear hfz10_8
    try clear hfz6_0
    try clear hfz6_1
    try clear hfz6_2
    try clear hfz6_3
    try clear hfz6_4
    try clear hfz6_5
    try clear hfz6_6
    try clear hfz6_7
    try clear hfz6_8
    try clear hfz9_0
    try clear hfz9_1
    try clear hfz9_2
    try clear hfz9_3
    try clear hfz9_4
    try clear hfz9_5
    try clear hfz9_6
    try clear hfz9_7
    try clear hfz9_8
    obtain ⟨kq, x25_3, rfl, HA, HJ3, BK137, HB⟩ := hcut
    cases kq with
    | zero => exact absurd HA.out (by simp [cylinderref34_Is.j0])
    | succ kj3 =>
      have H := HA.out
      clear HA
      simp only [cylinderref34_Is.j0] at H
      by_cases c11 : x25_3 = true
      · subst c11
        have H1 : (some false) = some r := by rw [if_pos rfl] at H; exact H
        clear H
        have H := H1
        clear H1
        obtain rfl := Option.some.inj H
        go_wp2
        go_ret
        exact ⟨by first | rfl | (simp [errW_none, errW_some] <;> rfl) | (simp [*, errW_none, errW_some] <;> rfl), by repeat (first | (with_reducible first | exact HB.out | apply below_alloc | apply pw_below_drewN | apply below_drew1 | refine below_set ?_ GE137.out) | exact HB.out)⟩
      · replace c11 := Bool.eq_false_iff.mpr c11
        subst c11
        have H1 : (if a0_0 = 7 then (if a0_4 < 0 then (cylinderref34_Is.j1 kj3 t139 true a0_0 a0_1 l0_2 a0_3 a0_4 a0_5 a0_6 a0_7 l0_8) else (if a0_0 = 9 then (if a0_5 < 1 then (cylinderref34_Is.j1 kj3 t139 true a0_0 a0_1 l0_2 a0_3 a0_4 a0_5 a0_6 a0_7 l0_8) else (cylinderref34_Is.j1 kj3 t139 (decide (a0_5 > 6)) a0_0 a0_1 l0_2 a0_3 a0_4 a0_5 a0_6 a0_7 l0_8)) else (cylinderref34_Is.j1 kj3 t139 false a0_0 a0_1 l0_2 a0_3 a0_4 a0_5 a0_6 a0_7 l0_8))) else (if a0_0 = 9 then (if a0_5 < 1 then (cylinderref34_Is.j1 kj3 t139 true a0_0 a0_1 l0_2 a0_3 a0_4 a0_5 a0_6 a0_7 l0_8) else (cylinderref34_Is.j1 kj3 t139 (decide (a0_5 > 6)) a0_0 a0_1 l0_2 a0_3 a0_4 a0_5 a0_6 a0_7 l0_8)) else (cylinderref34_Is.j1 kj3 t139 false a0_0 a0_1 l0_2 a0_3 a0_4 a0_5 a0_6 a0_7 l0_8))) = some r := by rw [if_neg (show ¬ (false = true) by decide)] at H; exact H
        clear H
        have H := H1
        clear H1
        have HC12 := Aside0.mk H
        clear H
        go_upto_region 4 with (fail)
        go_cut [48] (fun v48 wc => ∃ (kq : Nat) (x48_11 : Bool), v48 = .bool x48_11 ∧ Aside0 (cylinderref34_Is.j1 kq t139 x48_11 a0_0 a0_1 l0_2 a0_3 a0_4 a0_5 a0_6 a0_7 l0_8 = some r) ∧ Aside0 (kq ≤ kj3) ∧ Aside0 (wc.heap[gb137]? = some (.cells #[.int .i64 a0_0, .bool a0_1, (.slice A0_2 l0_2.length c0_2), .string a0_3, .int .i64 a0_4, .int .i64 a0_5, .bool a0_6, .bool a0_7, (.slice A0_8 l0_8.length c0_8)] 29 (0, 0))) ∧ Aside0 (Below w.heap.size w wc))
        case first =>
          have H := HC12.out
          clear HC12
          by_cases c13 : a0_0 = 7
          · rw [if_pos c13] at H
            have c13b0 : (a0_0 == 7) = true := beq_iff_eq.mpr c13
            have c13b1 : (a0_0 != 7) = false := bne_eq_false_iff_eq.mpr c13
            clear c13
            (first | rw [c13b0] | (simp only [i64_w, i32_w]; rw [c13b0]) | skip)
            by_cases c14 : a0_4 < 0
            · rw [if_pos c14] at H
              have c14b0 : decide (a0_4 < 0) = true := decide_eq_true c14
              clear c14
              have H' := Aside0.mk H
              clear H
              have hcz15_0 : wc.cell? ⟨gb137, 0, none⟩ = some (.int .i64 a0_0) := (blk_cell BK137.out 0).trans rfl
              have hcz15_1 : wc.cell? ⟨gb137, 1, none⟩ = some (.bool a0_1) := (blk_cell BK137.out 1).trans rfl
              have hcz15_2 : wc.cell? ⟨gb137, 2, none⟩ = some (.slice A0_2 l0_2.length c0_2) := (blk_cell BK137.out 2).trans rfl
              have hcz15_3 : wc.cell? ⟨gb137, 3, none⟩ = some (.string a0_3) := (blk_cell BK137.out 3).trans rfl
              have hcz15_4 : wc.cell? ⟨gb137, 4, none⟩ = some (.int .i64 a0_4) := (blk_cell BK137.out 4).trans rfl
              have hcz15_5 : wc.cell? ⟨gb137, 5, none⟩ = some (.int .i64 a0_5) := (blk_cell BK137.out 5).trans rfl
              have hcz15_6 : wc.cell? ⟨gb137, 6, none⟩ = some (.bool a0_6) := (blk_cell BK137.out 6).trans rfl
              have hcz15_7 : wc.cell? ⟨gb137, 7, none⟩ = some (.bool a0_7) := (blk_cell BK137.out 7).trans rfl
              have hcz15_8 : wc.cell? ⟨gb137, 8, none⟩ = some (.slice A0_8 l0_8.length c0_8) := (blk_cell BK137.out 8).trans rfl
              have hfz15_0 := blk_frozen BK137.out 0
              have hfz15_1 := blk_frozen BK137.out 1
              have hfz15_2 := blk_frozen BK137.out 2
              have hfz15_3 := blk_frozen BK137.out 3
              have hfz15_4 := blk_frozen BK137.out 4
              have hfz15_5 := blk_frozen BK137.out 5
              have hfz15_6 := blk_frozen BK137.out 6
              have hfz15_7 := blk_frozen BK137.out 7
              have hfz15_8 := blk_frozen BK137.out 8
              go_wp2
              go_meet
              case rel => exact ⟨_, (true), (by first | rfl | (simp; done) | (simp [*]; done)), H', ⟨by have := HJ3.out; first | omega | exact Nat.le_refl _⟩, ⟨by (with_reducible repeat (first | refine blk_drewN ?_ _ | refine blk_drew ?_ | refine blk_alloc ?_ _)); exact BK137.out⟩, ⟨by repeat (first | (with_reducible first | exact HB.out | apply below_alloc | apply pw_below_drewN | apply below_drew1 | refine below_set ?_ GE137.out) | exact HB.out)⟩⟩
            · rw [if_neg c14] at H
              have c14b0 : decide (a0_4 < 0) = false := decide_eq_false c14
              clear c14
              by_cases c16 : a0_0 = 9
              · rw [if_pos c16] at H
                have c16b0 : (a0_0 == 9) = true := beq_iff_eq.mpr c16
                have c16b1 : (a0_0 != 9) = false := bne_eq_false_iff_eq.mpr c16
                clear c16
                by_cases c17 : a0_5 < 1
                · rw [if_pos c17] at H
                  have c17b0 : decide (a0_5 < 1) = true := decide_eq_true c17
                  clear c17
                  have H' := Aside0.mk H
                  clear H
                  have hcz18_0 : wc.cell? ⟨gb137, 0, none⟩ = some (.int .i64 a0_0) := (blk_cell BK137.out 0).trans rfl
                  have hcz18_1 : wc.cell? ⟨gb137, 1, none⟩ = some (.bool a0_1) := (blk_cell BK137.out 1).trans rfl
                  have hcz18_2 : wc.cell? ⟨gb137, 2, none⟩ = some (.slice A0_2 l0_2.length c0_2) := (blk_cell BK137.out 2).trans rfl
                  have hcz18_3 : wc.cell? ⟨gb137, 3, none⟩ = some (.string a0_3) := (blk_cell BK137.out 3).trans rfl
                  have hcz18_4 : wc.cell? ⟨gb137, 4, none⟩ = some (.int .i64 a0_4) := (blk_cell BK137.out 4).trans rfl
                  have hcz18_5 : wc.cell? ⟨gb137, 5, none⟩ = some (.int .i64 a0_5) := (blk_cell BK137.out 5).trans rfl
                  have hcz18_6 : wc.cell? ⟨gb137, 6, none⟩ = some (.bool a0_6) := (blk_cell BK137.out 6).trans rfl
                  have hcz18_7 : wc.cell? ⟨gb137, 7, none⟩ = some (.bool a0_7) := (blk_cell BK137.out 7).trans rfl
                  have hcz18_8 : wc.cell? ⟨gb137, 8, none⟩ = some (.slice A0_8 l0_8.length c0_8) := (blk_cell BK137.out 8).trans rfl
                  have hfz18_0 := blk_frozen BK137.out 0
                  have hfz18_1 := blk_frozen BK137.out 1
                  have hfz18_2 := blk_frozen BK137.out 2
                  have hfz18_3 := blk_frozen BK137.out 3
                  have hfz18_4 := blk_frozen BK137.out 4
                  have hfz18_5 := blk_frozen BK137.out 5
                  have hfz18_6 := blk_frozen BK137.out 6
                  have hfz18_7 := blk_frozen BK137.out 7
                  have hfz18_8 := blk_frozen BK137.out 8
                  go_wp2
                  go_meet
                  case rel => exact ⟨_, (true), (by first | rfl | (simp; done) | (simp [*]; done)), H', ⟨by have := HJ3.out; first | omega | exact Nat.le_refl _⟩, ⟨by (with_reducible repeat (first | refine blk_drewN ?_ _ | refine blk_drew ?_ | refine blk_alloc ?_ _)); exact BK137.out⟩, ⟨by repeat (first | (with_reducible first | exact HB.out | apply below_alloc | apply pw_below_drewN | apply below_drew1 | refine below_set ?_ GE137.out) | exact HB.out)⟩⟩
                · rw [if_neg c17] at H
                  have c17b0 : decide (a0_5 < 1) = false := decide_eq_false c17
                  clear c17
                  have H' := Aside0.mk H
                  clear H
                  have hcz19_0 : wc.cell? ⟨gb137, 0, none⟩ = some (.int .i64 a0_0) := (blk_cell BK137.out 0).trans rfl
                  have hcz19_1 : wc.cell? ⟨gb137, 1, none⟩ = some (.bool a0_1) := (blk_cell BK137.out 1).trans rfl
                  have hcz19_2 : wc.cell? ⟨gb137, 2, none⟩ = some (.slice A0_2 l0_2.length c0_2) := (blk_cell BK137.out 2).trans rfl
                  have hcz19_3 : wc.cell? ⟨gb137, 3, none⟩ = some (.string a0_3) := (blk_cell BK137.out 3).trans rfl
                  have hcz19_4 : wc.cell? ⟨gb137, 4, none⟩ = some (.int .i64 a0_4) := (blk_cell BK137.out 4).trans rfl
                  have hcz19_5 : wc.cell? ⟨gb137, 5, none⟩ = some (.int .i64 a0_5) := (blk_cell BK137.out 5).trans rfl
                  have hcz19_6 : wc.cell? ⟨gb137, 6, none⟩ = some (.bool a0_6) := (blk_cell BK137.out 6).trans rfl
                  have hcz19_7 : wc.cell? ⟨gb137, 7, none⟩ = some (.bool a0_7) := (blk_cell BK137.out 7).trans rfl
                  have hcz19_8 : wc.cell? ⟨gb137, 8, none⟩ = some (.slice A0_8 l0_8.length c0_8) := (blk_cell BK137.out 8).trans rfl
                  have hfz19_0 := blk_frozen BK137.out 0
                  have hfz19_1 := blk_frozen BK137.out 1
                  have hfz19_2 := blk_frozen BK137.out 2
                  have hfz19_3 := blk_frozen BK137.out 3
                  have hfz19_4 := blk_frozen BK137.out 4
                  have hfz19_5 := blk_frozen BK137.out 5
                  have hfz19_6 := blk_frozen BK137.out 6
                  have hfz19_7 := blk_frozen BK137.out 7
                  have hfz19_8 := blk_frozen BK137.out 8
                  go_wp2
                  go_meet
                  case rel => exact ⟨_, (decide (a0_5 > 6)), (by first | rfl | (simp; done) | (simp [*]; done)), H', ⟨by have := HJ3.out; first | omega | exact Nat.le_refl _⟩, ⟨by (with_reducible repeat (first | refine blk_drewN ?_ _ | refine blk_drew ?_ | refine blk_alloc ?_ _)); exact BK137.out⟩, ⟨by repeat (first | (with_reducible first | exact HB.out | apply below_alloc | apply pw_below_drewN | apply below_drew1 | refine below_set ?_ GE137.out) | exact HB.out)⟩⟩
              · rw [if_neg c16] at H
                have c16b0 : (a0_0 == 9) = false := beq_eq_false_iff_ne.mpr c16
                have c16b1 : (a0_0 != 9) = true := bne_iff_ne.mpr c16
                have H' := Aside0.mk H
                clear H
                have hcz20_0 : wc.cell? ⟨gb137, 0, none⟩ = some (.int .i64 a0_0) := (blk_cell BK137.out 0).trans rfl
                have hcz20_1 : wc.cell? ⟨gb137, 1, none⟩ = some (.bool a0_1) := (blk_cell BK137.out 1).trans rfl
                have hcz20_2 : wc.cell? ⟨gb137, 2, none⟩ = some (.slice A0_2 l0_2.length c0_2) := (blk_cell BK137.out 2).trans rfl
                have hcz20_3 : wc.cell? ⟨gb137, 3, none⟩ = some (.string a0_3) := (blk_cell BK137.out 3).trans rfl
                have hcz20_4 : wc.cell? ⟨gb137, 4, none⟩ = some (.int .i64 a0_4) := (blk_cell BK137.out 4).trans rfl
                have hcz20_5 : wc.cell? ⟨gb137, 5, none⟩ = some (.int .i64 a0_5) := (blk_cell BK137.out 5).trans rfl
                have hcz20_6 : wc.cell? ⟨gb137, 6, none⟩ = some (.bool a0_6) := (blk_cell BK137.out 6).trans rfl
                have hcz20_7 : wc.cell? ⟨gb137, 7, none⟩ = some (.bool a0_7) := (blk_cell BK137.out 7).trans rfl
                have hcz20_8 : wc.cell? ⟨gb137, 8, none⟩ = some (.slice A0_8 l0_8.length c0_8) := (blk_cell BK137.out 8).trans rfl
                have hfz20_0 := blk_frozen BK137.out 0
                have hfz20_1 := blk_frozen BK137.out 1
                have hfz20_2 := blk_frozen BK137.out 2
                have hfz20_3 := blk_frozen BK137.out 3
                have hfz20_4 := blk_frozen BK137.out 4
                have hfz20_5 := blk_frozen BK137.out 5
                have hfz20_6 := blk_frozen BK137.out 6
                have hfz20_7 := blk_frozen BK137.out 7
                have hfz20_8 := blk_frozen BK137.out 8
                go_wp2
                go_meet
                case rel => exact ⟨_, (false), (by first | rfl | (simp; done) | (simp [*]; done)), H', ⟨by have := HJ3.out; first | omega | exact Nat.le_refl _⟩, ⟨by (with_reducible repeat (first | refine blk_drewN ?_ _ | refine blk_drew ?_ | refine blk_alloc ?_ _)); exact BK137.out⟩, ⟨by repeat (first | (with_reducible first | exact HB.out | apply below_alloc | apply pw_below_drewN | apply below_drew1 | refine below_set ?_ GE137.out) | exact HB.out)⟩⟩
          · rw [if_neg c13] at H
            have c13b0 : (a0_0 == 7) = false := beq_eq_false_iff_ne.mpr c13
            have c13b1 : (a0_0 != 7) = true := bne_iff_ne.mpr c13
            (first | rw [c13b0] | (simp only [i64_w, i32_w]; rw [c13b0]) | skip)
            by_cases c21 : a0_0 = 9
            · rw [if_pos c21] at H
              have c21b0 : (a0_0 == 9) = true := beq_iff_eq.mpr c21
              have c21b1 : (a0_0 != 9) = false := bne_eq_false_iff_eq.mpr c21
              clear c21
              by_cases c22 : a0_5 < 1
              · rw [if_pos c22] at H
                have c22b0 : decide (a0_5 < 1) = true := decide_eq_true c22
                clear c22
                have H' := Aside0.mk H
                clear H
                have hcz23_0 : wc.cell? ⟨gb137, 0, none⟩ = some (.int .i64 a0_0) := (blk_cell BK137.out 0).trans rfl
                have hcz23_1 : wc.cell? ⟨gb137, 1, none⟩ = some (.bool a0_1) := (blk_cell BK137.out 1).trans rfl
                have hcz23_2 : wc.cell? ⟨gb137, 2, none⟩ = some (.slice A0_2 l0_2.length c0_2) := (blk_cell BK137.out 2).trans rfl
                have hcz23_3 : wc.cell? ⟨gb137, 3, none⟩ = some (.string a0_3) := (blk_cell BK137.out 3).trans rfl
                have hcz23_4 : wc.cell? ⟨gb137, 4, none⟩ = some (.int .i64 a0_4) := (blk_cell BK137.out 4).trans rfl
                have hcz23_5 : wc.cell? ⟨gb137, 5, none⟩ = some (.int .i64 a0_5) := (blk_cell BK137.out 5).trans rfl
                have hcz23_6 : wc.cell? ⟨gb137, 6, none⟩ = some (.bool a0_6) := (blk_cell BK137.out 6).trans rfl
                have hcz23_7 : wc.cell? ⟨gb137, 7, none⟩ = some (.bool a0_7) := (blk_cell BK137.out 7).trans rfl
                have hcz23_8 : wc.cell? ⟨gb137, 8, none⟩ = some (.slice A0_8 l0_8.length c0_8) := (blk_cell BK137.out 8).trans rfl
                have hfz23_0 := blk_frozen BK137.out 0
                have hfz23_1 := blk_frozen BK137.out 1
                have hfz23_2 := blk_frozen BK137.out 2
                have hfz23_3 := blk_frozen BK137.out 3
                have hfz23_4 := blk_frozen BK137.out 4
                have hfz23_5 := blk_frozen BK137.out 5
                have hfz23_6 := blk_frozen BK137.out 6
                have hfz23_7 := blk_frozen BK137.out 7
                have hfz23_8 := blk_frozen BK137.out 8
                go_wp2
                go_meet
                case rel => exact ⟨_, (true), (by first | rfl | (simp; done) | (simp [*]; done)), H', ⟨by have := HJ3.out; first | omega | exact Nat.le_refl _⟩, ⟨by (with_reducible repeat (first | refine blk_drewN ?_ _ | refine blk_drew ?_ | refine blk_alloc ?_ _)); exact BK137.out⟩, ⟨by repeat (first | (with_reducible first | exact HB.out | apply below_alloc | apply pw_below_drewN | apply below_drew1 | refine below_set ?_ GE137.out) | exact HB.out)⟩⟩
              · rw [if_neg c22] at H
                have c22b0 : decide (a0_5 < 1) = false := decide_eq_false c22
                clear c22
                have H' := Aside0.mk H
                clear H
                have hcz24_0 : wc.cell? ⟨gb137, 0, none⟩ = some (.int .i64 a0_0) := (blk_cell BK137.out 0).trans rfl
                have hcz24_1 : wc.cell? ⟨gb137, 1, none⟩ = some (.bool a0_1) := (blk_cell BK137.out 1).trans rfl
                have hcz24_2 : wc.cell? ⟨gb137, 2, none⟩ = some (.slice A0_2 l0_2.length c0_2) := (blk_cell BK137.out 2).trans rfl
                have hcz24_3 : wc.cell? ⟨gb137, 3, none⟩ = some (.string a0_3) := (blk_cell BK137.out 3).trans rfl
                have hcz24_4 : wc.cell? ⟨gb137, 4, none⟩ = some (.int .i64 a0_4) := (blk_cell BK137.out 4).trans rfl
                have hcz24_5 : wc.cell? ⟨gb137, 5, none⟩ = some (.int .i64 a0_5) := (blk_cell BK137.out 5).trans rfl
                have hcz24_6 : wc.cell? ⟨gb137, 6, none⟩ = some (.bool a0_6) := (blk_cell BK137.out 6).trans rfl
                have hcz24_7 : wc.cell? ⟨gb137, 7, none⟩ = some (.bool a0_7) := (blk_cell BK137.out 7).trans rfl
                have hcz24_8 : wc.cell? ⟨gb137, 8, none⟩ = some (.slice A0_8 l0_8.length c0_8) := (blk_cell BK137.out 8).trans rfl
                have hfz24_0 := blk_frozen BK137.out 0
                have hfz24_1 := blk_frozen BK137.out 1
                have hfz24_2 := blk_frozen BK137.out 2
                have hfz24_3 := blk_frozen BK137.out 3
                have hfz24_4 := blk_frozen BK137.out 4
                have hfz24_5 := blk_frozen BK137.out 5
                have hfz24_6 := blk_frozen BK137.out 6
                have hfz24_7 := blk_frozen BK137.out 7
                have hfz24_8 := blk_frozen BK137.out 8
                go_wp2
                go_meet
                case rel => exact ⟨_, (decide (a0_5 > 6)), (by first | rfl | (simp; done) | (simp [*]; done)), H', ⟨by have := HJ3.out; first | omega | exact Nat.le_refl _⟩, ⟨by (with_reducible repeat (first | refine blk_drewN ?_ _ | refine blk_drew ?_ | refine blk_alloc ?_ _)); exact BK137.out⟩, ⟨by repeat (first | (with_reducible first | exact HB.out | apply below_alloc | apply pw_below_drewN | apply below_drew1 | refine below_set ?_ GE137.out) | exact HB.out)⟩⟩
            · rw [if_neg c21] at H
              have c21b0 : (a0_0 == 9) = false := beq_eq_false_iff_ne.mpr c21
              have c21b1 : (a0_0 != 9) = true := bne_iff_ne.mpr c21
              have H' := Aside0.mk H
              clear H
              have hcz25_0 : wc.cell? ⟨gb137, 0, none⟩ = some (.int .i64 a0_0) := (blk_cell BK137.out 0).trans rfl
              have hcz25_1 : wc.cell? ⟨gb137, 1, none⟩ = some (.bool a0_1) := (blk_cell BK137.out 1).trans rfl
              have hcz25_2 : wc.cell? ⟨gb137, 2, none⟩ = some (.slice A0_2 l0_2.length c0_2) := (blk_cell BK137.out 2).trans rfl
              have hcz25_3 : wc.cell? ⟨gb137, 3, none⟩ = some (.string a0_3) := (blk_cell BK137.out 3).trans rfl
              have hcz25_4 : wc.cell? ⟨gb137, 4, none⟩ = some (.int .i64 a0_4) := (blk_cell BK137.out 4).trans rfl
              have hcz25_5 : wc.cell? ⟨gb137, 5, none⟩ = some (.int .i64 a0_5) := (blk_cell BK137.out 5).trans rfl
              have hcz25_6 : wc.cell? ⟨gb137, 6, none⟩ = some (.bool a0_6) := (blk_cell BK137.out 6).trans rfl
              have hcz25_7 : wc.cell? ⟨gb137, 7, none⟩ = some (.bool a0_7) := (blk_cell BK137.out 7).trans rfl
              have hcz25_8 : wc.cell? ⟨gb137, 8, none⟩ = some (.slice A0_8 l0_8.length c0_8) := (blk_cell BK137.out 8).trans rfl
              have hfz25_0 := blk_frozen BK137.out 0
              have hfz25_1 := blk_frozen BK137.out 1
              have hfz25_2 := blk_frozen BK137.out 2
              have hfz25_3 := blk_frozen BK137.out 3
              have hfz25_4 := blk_frozen BK137.out 4
              have hfz25_5 := blk_frozen BK137.out 5
              have hfz25_6 := blk_frozen BK137.out 6
              have hfz25_7 := blk_frozen BK137.out 7
              have hfz25_8 := blk_frozen BK137.out 8
              go_wp2
              go_meet
              case rel => exact ⟨_, (false), (by first | rfl | (simp; done) | (simp [*]; done)), H', ⟨by have := HJ3.out; first | omega | exact Nat.le_refl _⟩, ⟨by (with_reducible repeat (first | refine blk_drewN ?_ _ | refine blk_drew ?_ | refine blk_alloc ?_ _)); exact BK137.out⟩, ⟨by repeat (first | (with_reducible first | exact HB.out | apply below_alloc | apply pw_below_drewN | apply below_drew1 | refine below_set ?_ GE137.out) | exact HB.out)⟩⟩
        case rest =>
          clear HC12
          try clear c1
          try clear c2
          try clear p2
          try clear c5
          try clear c7
          try clear c7b0
          try clear c7b1
          try clear c11
          try clear c13
          try clear c13b0
          try clear c13b1
          try clear c14
          try clear c14b0
          try clear c16
          try clear c16b0
          try clear c16b1
          try clear c17
          try clear c17b0
          try clear c19
          try clear c21
          try clear c21b0
          try clear c21b1
          try clear c22
          try clear c22b0
          try clear hcz10_0
          try clear hcz10_1
          try clear hcz10_2
          try clear hcz10_3
          try clear hcz10_4
          try clear hcz10_5
          try clear hcz10_6
          try clear hcz10_7
          try clear hcz10_8
          try clear hcz15_0
          try clear hcz15_1
          try clear hcz15_2
          try clear hcz15_3
          try clear hcz15_4
          try clear hcz15_5
          try clear hcz15_6
          try clear hcz15_7
          try clear hcz15_8
          try clear hcz18_0
          try clear hcz18_1
          try clear hcz18_2
          try clear hcz18_3
          try clear hcz18_4
          try clear hcz18_5
          try clear hcz18_6
          try clear hcz18_7
          try clear hcz18_8
          try clear hcz19_0
          try clear hcz19_1
          try clear hcz19_2
          try clear hcz19_3
          try clear hcz19_4
          try clear hcz19_5
          try clear hcz19_6
          try clear hcz19_7
          try clear hcz19_8
          try clear hcz20_0
          try clear hcz20_1
          try clear hcz20_2
          try clear hcz20_3
          try clear hcz20_4
          try clear hcz20_5
          try clear hcz20_6
          try clear hcz20_7
          try clear hcz20_8
          try clear hcz23_0
          try clear hcz23_1
          try clear hcz23_2
          try clear hcz23_3
          try clear hcz23_4
          try clear hcz23_5
          try clear hcz23_6
          try clear hcz23_7
          try clear hcz23_8
          try clear hcz24_0
          try clear hcz24_1
          try clear hcz24_2
          try clear hcz24_3
          try clear hcz24_4
          try clear hcz24_5
          try clear hcz24_6
          try clear hcz24_7
          try clear hcz24_8
          try clear hcz25_0
          try clear hcz25_1
          try clear hcz25_2
          try clear hcz25_3
          try clear hcz25_4
          try clear hcz25_5
          try clear hcz25_6
          try clear hcz25_7
          try clear hcz25_8
          try clear hcz6_0
          try clear hcz6_1
          try clear hcz6_2
          try clear hcz6_3
          try clear hcz6_4
          try clear hcz6_5
          try clear hcz6_6
          try clear hcz6_7
          try clear hcz6_8
          try clear hcz9_0
          try clear hcz9_1
          try clear hcz9_2
          try clear hcz9_3
          try clear hcz9_4
          try clear hcz9_5
          try clear hcz9_6
          try clear hcz9_7
          try clear hcz9_8
          try clear hfz10_0
          try clear hfz10_1
          try clear hfz10_2
          try clear hfz10_3
          try clear hfz10_4
          try clear hfz10_5
          try clear hfz10_6
          try clear hfz10_7
          try clear hfz10_8
          try clear hfz15_0
          try clear hfz15_1
          try clear hfz15_2
          try clear hfz15_3
          try clear hfz15_4
          try clear hfz15_5
          try clear hfz15_6
          try clear hfz15_7
          try clear hfz15_8
          try clear hfz18_0
          try clear hfz18_1
          try clear hfz18_2
          try clear hfz18_3
          try clear hfz18_4
          try clear hfz18_5
          try clear hfz18_6
          try clear hfz18_7
          try clear hfz18_8
          try clear hfz19_0
          try clear hfz19_1
          try clear hfz19_2
          try clear hfz19_3
          try clear hfz19_4
          try clear hfz19_5
          try clear hfz19_6
          try clear hfz19_7
          try clear hfz19_8
          try clear hfz20_0
          try clear hfz20_1
          try clear hfz20_2
          try clear hfz20_3
          try clear hfz20_4
          try clear hfz20_5
          try clear hfz20_6
          try clear hfz20_7
          try clear hfz20_8
          try clear hfz23_0
          try clear hfz23_1
          try clear hfz23_2
          try clear hfz23_3
          try clear hfz23_4
          try clear hfz23_5
          try clear hfz23_6
          try clear hfz23_7
          try clear hfz23_8
          try clear hfz24_0
          try clear hfz24_1
          try clear hfz24_2
          try clear hfz24_3
          try clear hfz24_4
          try clear hfz24_5
          try clear hfz24_6
          try clear hfz24_7
          try clear hfz24_8
          try clear hfz25_0
          try clear hfz25_1
          try clear hfz25_2
          try clear hfz25_3
          try clear hfz25_4
          try clear hfz25_5
          try clear hfz25_6
          try clear hfz25_7
          try clear hfz25_8
          try clear hfz6_0
          try clear hfz6_1
          try clear hfz6_2
          try clear hfz6_3
          try clear hfz6_4
          try clear hfz6_5
          try clear hfz6_6
          try clear hfz6_7
          try clear hfz6_8
          try clear hfz9_0
          try clear hfz9_1
          try clear hfz9_2
          try clear hfz9_3
          try clear hfz9_4
          try clear hfz9_5
          try clear hfz9_6
          try clear hfz9_7
          try clear hfz9_8
          try clear p2
          obtain ⟨kq, x48_11, rfl, HA, HJ11, BK137, HB⟩ := hcut
          cases kq with
          | zero => exact absurd HA.out (by simp [cylinderref34_Is.j1])
          | succ kj11 =>
            have H := HA.out
            clear HA
            simp only [cylinderref34_Is.j1] at H
            by_cases c26 : x48_11 = true
            · subst c26
              have H1 : (some false) = some r := by rw [if_pos rfl] at H; exact H
              clear H
              have H := H1
              clear H1
              obtain rfl := Option.some.inj H
              go_wp2
              go_ret
              exact ⟨by first | rfl | (simp [errW_none, errW_some] <;> rfl) | (simp [*, errW_none, errW_some] <;> rfl), by repeat (first | (with_reducible first | exact HB.out | apply below_alloc | apply pw_below_drewN | apply below_drew1 | refine below_set ?_ GE137.out) | exact HB.out)⟩
            · replace c26 := Bool.eq_false_iff.mpr c26
              subst c26
              have H1 : (cylinderref34_Is.l0 kj11 t139 (l0_8.length : Int) 0 a0_0 a0_1 l0_2 a0_3 a0_4 a0_5 a0_6 a0_7 l0_8) = some r := by rw [if_neg (show ¬ (false = true) by decide)] at H; exact H
              clear H
              have H := H1
              clear H1
              have H' := Aside0.mk H
              clear H
              have hcz27_0 : wc.cell? ⟨gb137, 0, none⟩ = some (.int .i64 a0_0) := (blk_cell BK137.out 0).trans rfl
              have hcz27_1 : wc.cell? ⟨gb137, 1, none⟩ = some (.bool a0_1) := (blk_cell BK137.out 1).trans rfl
              have hcz27_2 : wc.cell? ⟨gb137, 2, none⟩ = some (.slice A0_2 l0_2.length c0_2) := (blk_cell BK137.out 2).trans rfl
              have hcz27_3 : wc.cell? ⟨gb137, 3, none⟩ = some (.string a0_3) := (blk_cell BK137.out 3).trans rfl
              have hcz27_4 : wc.cell? ⟨gb137, 4, none⟩ = some (.int .i64 a0_4) := (blk_cell BK137.out 4).trans rfl
              have hcz27_5 : wc.cell? ⟨gb137, 5, none⟩ = some (.int .i64 a0_5) := (blk_cell BK137.out 5).trans rfl
              have hcz27_6 : wc.cell? ⟨gb137, 6, none⟩ = some (.bool a0_6) := (blk_cell BK137.out 6).trans rfl
              have hcz27_7 : wc.cell? ⟨gb137, 7, none⟩ = some (.bool a0_7) := (blk_cell BK137.out 7).trans rfl
              have hcz27_8 : wc.cell? ⟨gb137, 8, none⟩ = some (.slice A0_8 l0_8.length c0_8) := (blk_cell BK137.out 8).trans rfl
              have hfz27_0 := blk_frozen BK137.out 0
              have hfz27_1 := blk_frozen BK137.out 1
              have hfz27_2 := blk_frozen BK137.out 2
              have hfz27_3 := blk_frozen BK137.out 3
              have hfz27_4 := blk_frozen BK137.out 4
              have hfz27_5 := blk_frozen BK137.out 5
              have hfz27_6 := blk_frozen BK137.out 6
              have hfz27_7 := blk_frozen BK137.out 7
              have hfz27_8 := blk_frozen BK137.out 8
              go_wp2
              go_loopg [52] kj11 (fun kq v52 w' => ∃ (x52_3 : Int), v52 = .int .i64 x52_3 ∧ Aside0 (cylinderref34_Is.l0 kq t139 (l0_8.length : Int) x52_3 a0_0 a0_1 l0_2 a0_3 a0_4 a0_5 a0_6 a0_7 l0_8 = some r) ∧ Aside0 (kq ≤ kj11) ∧ Aside0 (w'.heap[gb137]? = some (.cells #[.int .i64 a0_0, .bool a0_1, (.slice A0_2 l0_2.length c0_2), .string a0_3, .int .i64 a0_4, .int .i64 a0_5, .bool a0_6, .bool a0_7, (.slice A0_8 l0_8.length c0_8)] 29 (0, 0))) ∧ Aside0 (Below w.heap.size w w'))
              case atStart => exact ⟨(0), (by first | rfl | (simp; done) | (simp [*]; done)), H', ⟨Nat.le_refl _⟩, ⟨by (with_reducible repeat (first | refine blk_drewN ?_ _ | refine blk_drew ?_ | refine blk_alloc ?_ _)); exact BK137.out⟩, ⟨by repeat (first | (with_reducible first | exact HB.out | apply below_alloc | apply pw_below_drewN | apply below_drew1 | refine below_set ?_ GE137.out) | exact HB.out)⟩⟩
              case round =>
                clear H'
                try clear c1
                try clear c2
                try clear p2
                try clear c5
                try clear c7
                try clear c7b0
                try clear c7b1
                try clear c11
                try clear c13
                try clear c13b0
                try clear c13b1
                try clear c14
                try clear c14b0
                try clear c16
                try clear c16b0
                try clear c16b1
                try clear c17
                try clear c17b0
                try clear c19
                try clear c21
                try clear c21b0
                try clear c21b1
                try clear c22
                try clear c22b0
                try clear c26
                try clear hcz10_0
                try clear hcz10_1
                try clear hcz10_2
                try clear hcz10_3
                try clear hcz10_4
                try clear hcz10_5
                try clear hcz10_6
                try clear hcz10_7
                try clear hcz10_8
                try clear hcz15_0
                try clear hcz15_1
                try clear hcz15_2
                try clear hcz15_3
                try clear hcz15_4
                try clear hcz15_5
                try clear hcz15_6
                try clear hcz15_7
                try clear hcz15_8
                try clear hcz18_0
                try clear hcz18_1
                try clear hcz18_2
                try clear hcz18_3
                try clear hcz18_4
                try clear hcz18_5
                try clear hcz18_6
                try clear hcz18_7
                try clear hcz18_8
                try clear hcz19_0
                try clear hcz19_1
                try clear hcz19_2
                try clear hcz19_3
                try clear hcz19_4
                try clear hcz19_5
                try clear hcz19_6
                try clear hcz19_7
                try clear hcz19_8
                try clear hcz20_0
                try clear hcz20_1
                try clear hcz20_2
                try clear hcz20_3
                try clear hcz20_4
                try clear hcz20_5
                try clear hcz20_6
                try clear hcz20_7
                try clear hcz20_8
                try clear hcz23_0
                try clear hcz23_1
                try clear hcz23_2
                try clear hcz23_3
                try clear hcz23_4
                try clear hcz23_5
                try clear hcz23_6
                try clear hcz23_7
                try clear hcz23_8
                try clear hcz24_0
                try clear hcz24_1
                try clear hcz24_2
                try clear hcz24_3
                try clear hcz24_4
                try clear hcz24_5
                try clear hcz24_6
                try clear hcz24_7
                try clear hcz24_8
                try clear hcz25_0
                try clear hcz25_1
                try clear hcz25_2
                try clear hcz25_3
                try clear hcz25_4
                try clear hcz25_5
                try clear hcz25_6
                try clear hcz25_7
                try clear hcz25_8
                try clear hcz27_0
                try clear hcz27_1
                try clear hcz27_2
                try clear hcz27_3
                try clear hcz27_4
                try clear hcz27_5
                try clear hcz27_6
                try clear hcz27_7
                try clear hcz27_8
                try clear hcz6_0
                try clear hcz6_1
                try clear hcz6_2
                try clear hcz6_3
                try clear hcz6_4
                try clear hcz6_5
                try clear hcz6_6
                try clear hcz6_7
                try clear hcz6_8
                try clear hcz9_0
                try clear hcz9_1
                try clear hcz9_2
                try clear hcz9_3
                try clear hcz9_4
                try clear hcz9_5
                try clear hcz9_6
                try clear hcz9_7
                try clear hcz9_8
                try clear hfz10_0
                try clear hfz10_1
                try clear hfz10_2
                try clear hfz10_3
                try clear hfz10_4
                try clear hfz10_5
                try clear hfz10_6
                try clear hfz10_7
                try clear hfz10_8
                try clear hfz15_0
                try clear hfz15_1
                try clear hfz15_2
                try clear hfz15_3
                try clear hfz15_4
                try clear hfz15_5
                try clear hfz15_6
                try clear hfz15_7
                try clear hfz15_8
                try clear hfz18_0
                try clear hfz18_1
                try clear hfz18_2
                try clear hfz18_3
                try clear hfz18_4
                try clear hfz18_5
                try clear hfz18_6
                try clear hfz18_7
                try clear hfz18_8
                try clear hfz19_0
                try clear hfz19_1
                try clear hfz19_2
                try clear hfz19_3
                try clear hfz19_4
                try clear hfz19_5
                try clear hfz19_6
                try clear hfz19_7
                try clear hfz19_8
                try clear hfz20_0
                try clear hfz20_1
                try clear hfz20_2
                try clear hfz20_3
                try clear hfz20_4
                try clear hfz20_5
                try clear hfz20_6
                try clear hfz20_7
                try clear hfz20_8
                try clear hfz23_0
                try clear hfz23_1
                try clear hfz23_2
                try clear hfz23_3
                try clear hfz23_4
                try clear hfz23_5
                try clear hfz23_6
                try clear hfz23_7
                try clear hfz23_8
                try clear hfz24_0
                try clear hfz24_1
                try clear hfz24_2
                try clear hfz24_3
                try clear hfz24_4
                try clear hfz24_5
                try clear hfz24_6
                try clear hfz24_7
                try clear hfz24_8
                try clear hfz25_0
                try clear hfz25_1
                try clear hfz25_2
                try clear hfz25_3
                try clear hfz25_4
                try clear hfz25_5
                try clear hfz25_6
                try clear hfz25_7
                try clear hfz25_8
                try clear hfz27_0
                try clear hfz27_1
                try clear hfz27_2
                try clear hfz27_3
                try clear hfz27_4
                try clear hfz27_5
                try clear hfz27_6
                try clear hfz27_7
                try clear hfz27_8
                try clear hfz6_0
                try clear hfz6_1
                try clear hfz6_2
                try clear hfz6_3
                try clear hfz6_4
                try clear hfz6_5
                try clear hfz6_6
                try clear hfz6_7
                try clear hfz6_8
                try clear hfz9_0
                try clear hfz9_1
                try clear hfz9_2
                try clear hfz9_3
                try clear hfz9_4
                try clear hfz9_5
                try clear hfz9_6
                try clear hfz9_7
                try clear hfz9_8
                try clear p2
                obtain ⟨x52_3, rfl, HA, HK3, BK137, HB⟩ := hrel
                cases gk with
                | zero => exact absurd HA.out (by simp [cylinderref34_Is.l0])
                | succ k3 =>
                  have H := HA.out
                  clear HA
                  simp only [cylinderref34_Is.l0] at H
                  by_cases c28 : x52_3 < (l0_8.length : Int)
                  · rw [if_pos c28] at H
                    have c28b0 : decide (x52_3 < (l0_8.length : Int)) = true := decide_eq_true c28
                    clear c28
                    by_cases c29 : 0 ≤ x52_3
                    · rw [if_pos c29] at H
                      have c29b0 : decide (0 ≤ x52_3) = true := decide_eq_true c29
                      clear c29
                      by_cases c30 : x52_3 < (l0_8.length : Int)
                      · rw [if_pos c30] at H
                        have c30b0 : decide (x52_3 < (l0_8.length : Int)) = true := decide_eq_true c30
                        clear c30
                        replace H := Option.bind_eq_some_iff.mp H
                        obtain ⟨t142, A310, H⟩ := H
                        replace H : (if t142 = true then (cylinderref34_Is.l0 k3 t139 (l0_8.length : Int) (wrap64 (x52_3 + 1)) a0_0 a0_1 l0_2 a0_3 a0_4 a0_5 a0_6 a0_7 l0_8) else (some false)) = some r := H
                        have A31 := Aside0.mk A310
                        clear A310
                        by_cases c32 : t142 = true
                        · subst c32
                          have H1 : (cylinderref34_Is.l0 k3 t139 (l0_8.length : Int) (wrap64 (x52_3 + 1)) a0_0 a0_1 l0_2 a0_3 a0_4 a0_5 a0_6 a0_7 l0_8) = some r := by rw [if_pos rfl] at H; exact H
                          clear H
                          have H := H1
                          clear H1
                          have H' := Aside0.mk H
                          clear H
                          have hcz33_0 : wr.cell? ⟨gb137, 0, none⟩ = some (.int .i64 a0_0) := (blk_cell BK137.out 0).trans rfl
                          have hcz33_1 : wr.cell? ⟨gb137, 1, none⟩ = some (.bool a0_1) := (blk_cell BK137.out 1).trans rfl
                          have hcz33_2 : wr.cell? ⟨gb137, 2, none⟩ = some (.slice A0_2 l0_2.length c0_2) := (blk_cell BK137.out 2).trans rfl
                          have hcz33_3 : wr.cell? ⟨gb137, 3, none⟩ = some (.string a0_3) := (blk_cell BK137.out 3).trans rfl
                          have hcz33_4 : wr.cell? ⟨gb137, 4, none⟩ = some (.int .i64 a0_4) := (blk_cell BK137.out 4).trans rfl
                          have hcz33_5 : wr.cell? ⟨gb137, 5, none⟩ = some (.int .i64 a0_5) := (blk_cell BK137.out 5).trans rfl
                          have hcz33_6 : wr.cell? ⟨gb137, 6, none⟩ = some (.bool a0_6) := (blk_cell BK137.out 6).trans rfl
                          have hcz33_7 : wr.cell? ⟨gb137, 7, none⟩ = some (.bool a0_7) := (blk_cell BK137.out 7).trans rfl
                          have hcz33_8 : wr.cell? ⟨gb137, 8, none⟩ = some (.slice A0_8 l0_8.length c0_8) := (blk_cell BK137.out 8).trans rfl
                          have hfz33_0 := blk_frozen BK137.out 0
                          have hfz33_1 := blk_frozen BK137.out 1
                          have hfz33_2 := blk_frozen BK137.out 2
                          have hfz33_3 := blk_frozen BK137.out 3
                          have hfz33_4 := blk_frozen BK137.out 4
                          have hfz33_5 := blk_frozen BK137.out 5
                          have hfz33_6 := blk_frozen BK137.out 6
                          have hfz33_7 := blk_frozen BK137.out 7
                          have hfz33_8 := blk_frozen BK137.out 8
                          have p141 : 0 ≤ (x52_3 : Int) := of_decide_eq_true (by first | (with_reducible assumption) | assumption)
                          have q141 : x52_3 < (l0_8.length : Int) := of_decide_eq_true (by first | (with_reducible assumption) | assumption)
                          obtain ⟨ad141, A141_2, c141_2, A141_8, c141_8, e141, hx141_0, hx141_1, hx141_2, hx141_3, hx141_4, hx141_5, hx141_6, hx141_7, hx141_8, hl141_2, hi141_2, hl141_8, hi141_8⟩ := at_T29 HR0_8.out x52_3 p141 q141
                          cases e141
                          replace hx141_0 := (HB.out.cell (World.block_lt_of_cell? w _ hx141_0)).trans hx141_0
                          replace hx141_1 := (HB.out.cell (World.block_lt_of_cell? w _ hx141_1)).trans hx141_1
                          replace hx141_2 := (HB.out.cell (World.block_lt_of_cell? w _ hx141_2)).trans hx141_2
                          replace hx141_3 := (HB.out.cell (World.block_lt_of_cell? w _ hx141_3)).trans hx141_3
                          replace hx141_4 := (HB.out.cell (World.block_lt_of_cell? w _ hx141_4)).trans hx141_4
                          replace hx141_5 := (HB.out.cell (World.block_lt_of_cell? w _ hx141_5)).trans hx141_5
                          replace hx141_6 := (HB.out.cell (World.block_lt_of_cell? w _ hx141_6)).trans hx141_6
                          replace hx141_7 := (HB.out.cell (World.block_lt_of_cell? w _ hx141_7)).trans hx141_7
                          replace hx141_8 := (HB.out.cell (World.block_lt_of_cell? w _ hx141_8)).trans hx141_8
                          have HR141_2 := Aside0.mk hi141_2
                          have HC141_2 := Aside0.mk hl141_2
                          clear hi141_2 hl141_2
                          have HR141_8 := Aside0.mk hi141_8
                          have HC141_8 := Aside0.mk hl141_8
                          clear hi141_8 hl141_8
                          replace p141 := eq_true p141
                          replace q141 := eq_true q141
                          go_wp2_with (first | ((with_reducible refine gate_callee (f := 19) rfl ?_); refine goesL_ (some 61) rfl rfl Try.func19 (by kernel_rfl) rfl #[.agg #[.int .i64 ((rd_T29 l0_8 x52_3).f0), .bool ((rd_T29 l0_8 x52_3).f1.f0), .slice A141_2 ((rd_T29 l0_8 x52_3).f1.f1).length c141_2, .string ((rd_T29 l0_8 x52_3).f2), .int .i64 ((rd_T29 l0_8 x52_3).f3), .int .i64 ((rd_T29 l0_8 x52_3).f4), .bool ((rd_T29 l0_8 x52_3).f5), .bool ((rd_T29 l0_8 x52_3).f6), .slice A141_8 ((rd_T29 l0_8 x52_3).f7).length c141_8], .bool t139] rfl (by (try simp only [List.map_toArray, List.map_cons, List.map_nil]); first | done | rfl | (simp only [List.length_drop, List.length_take]; rfl)) ?_; (with_reducible refine (ih k3 (by have := HJ3.out; have := HJ11.out; have := HK3.out; omega) ((rd_T29 l0_8 x52_3).f0) ((rd_T29 l0_8 x52_3).f1.f0) _ _ ((rd_T29 l0_8 x52_3).f1.f1) ((rd_T29 l0_8 x52_3).f2) ((rd_T29 l0_8 x52_3).f3) ((rd_T29 l0_8 x52_3).f4) ((rd_T29 l0_8 x52_3).f5) ((rd_T29 l0_8 x52_3).f6) _ _ ((rd_T29 l0_8 x52_3).f7) t139 true _ ?side1 ?side2 ?side3 ?side4 A31.out).mono ?_); (case side1 => repeat (first | exact (Kd.C_below HR141_2.out HB.out) | (with_reducible refine Kd.C_alloc ?_ _) | (with_reducible refine Kd.C_drewN ?_ _) | (with_reducible refine Kd.C_drew ?_))); (case side2 => exact HC141_2.out); (case side3 => repeat (first | exact (Kd.C_below HR141_8.out HB.out) | (with_reducible refine Kd.C_alloc ?_ _) | (with_reducible refine Kd.C_drewN ?_ _) | (with_reducible refine Kd.C_drew ?_))); (case side4 => exact HC141_8.out); rintro e w34 ⟨rfl, hb⟩; refine ⟨_, rfl, ?_⟩; have n0_ := Aside0.mk (blk_below (g := gb137) (o := .cells #[.int .i64 a0_0, .bool a0_1, .slice A0_2 l0_2.length c0_2, .string a0_3, .int .i64 a0_4, .int .i64 a0_5, .bool a0_6, .bool a0_7, .slice (some ad141) l0_8.length c0_8] 29 (0, 0)) (by (with_reducible repeat (first | refine blk_drewN ?_ _ | refine blk_drew ?_ | refine blk_alloc ?_ _)); exact BK137.out) hb); have n1_ := Aside0.mk (below_step (by repeat (first | (with_reducible first | exact HB.out | apply below_alloc | apply pw_below_drewN | apply below_drew1 | refine below_set ?_ GE137.out) | exact HB.out)) hb); clear BK137; clear HB; have BK137 := n0_; have HB := n1_; clear n0_ n1_; (try clear hb); (try clear hb2); (try clear hk); (try clear hi)))
                          go_roundg k3
                          case measure => have := HJ3.out; have := HJ11.out; have := HK3.out; omega
                          case rel => exact ⟨(wrap64 (x52_3 + 1)), (by first | rfl | (simp; done) | (simp [*]; done)), H', ⟨by have := HJ3.out; have := HJ11.out; have := HK3.out; omega⟩, ⟨by (with_reducible repeat (first | refine blk_drewN ?_ _ | refine blk_drew ?_ | refine blk_alloc ?_ _)); exact BK137.out⟩, ⟨by repeat (first | (with_reducible first | exact HB.out | apply below_alloc | apply pw_below_drewN | apply below_drew1 | refine below_set ?_ GE137.out) | exact HB.out)⟩⟩
                        · replace c32 := Bool.eq_false_iff.mpr c32
                          subst c32
                          have H1 : (some false) = some r := by rw [if_neg (show ¬ (false = true) by decide)] at H; exact H
                          clear H
                          have H := H1
                          clear H1
                          obtain rfl := Option.some.inj H
                          have hcz35_0 : wr.cell? ⟨gb137, 0, none⟩ = some (.int .i64 a0_0) := (blk_cell BK137.out 0).trans rfl
                          have hcz35_1 : wr.cell? ⟨gb137, 1, none⟩ = some (.bool a0_1) := (blk_cell BK137.out 1).trans rfl
                          have hcz35_2 : wr.cell? ⟨gb137, 2, none⟩ = some (.slice A0_2 l0_2.length c0_2) := (blk_cell BK137.out 2).trans rfl
                          have hcz35_3 : wr.cell? ⟨gb137, 3, none⟩ = some (.string a0_3) := (blk_cell BK137.out 3).trans rfl
                          have hcz35_4 : wr.cell? ⟨gb137, 4, none⟩ = some (.int .i64 a0_4) := (blk_cell BK137.out 4).trans rfl
                          have hcz35_5 : wr.cell? ⟨gb137, 5, none⟩ = some (.int .i64 a0_5) := (blk_cell BK137.out 5).trans rfl
                          have hcz35_6 : wr.cell? ⟨gb137, 6, none⟩ = some (.bool a0_6) := (blk_cell BK137.out 6).trans rfl
                          have hcz35_7 : wr.cell? ⟨gb137, 7, none⟩ = some (.bool a0_7) := (blk_cell BK137.out 7).trans rfl
                          have hcz35_8 : wr.cell? ⟨gb137, 8, none⟩ = some (.slice A0_8 l0_8.length c0_8) := (blk_cell BK137.out 8).trans rfl
                          have hfz35_0 := blk_frozen BK137.out 0
                          have hfz35_1 := blk_frozen BK137.out 1
                          have hfz35_2 := blk_frozen BK137.out 2
                          have hfz35_3 := blk_frozen BK137.out 3
                          have hfz35_4 := blk_frozen BK137.out 4
                          have hfz35_5 := blk_frozen BK137.out 5
                          have hfz35_6 := blk_frozen BK137.out 6
                          have hfz35_7 := blk_frozen BK137.out 7
                          have hfz35_8 := blk_frozen BK137.out 8
                          have p141 : 0 ≤ (x52_3 : Int) := of_decide_eq_true (by first | (with_reducible assumption) | assumption)
                          have q141 : x52_3 < (l0_8.length : Int) := of_decide_eq_true (by first | (with_reducible assumption) | assumption)
                          obtain ⟨ad141, A141_2, c141_2, A141_8, c141_8, e141, hx141_0, hx141_1, hx141_2, hx141_3, hx141_4, hx141_5, hx141_6, hx141_7, hx141_8, hl141_2, hi141_2, hl141_8, hi141_8⟩ := at_T29 HR0_8.out x52_3 p141 q141
                          cases e141
                          replace hx141_0 := (HB.out.cell (World.block_lt_of_cell? w _ hx141_0)).trans hx141_0
                          replace hx141_1 := (HB.out.cell (World.block_lt_of_cell? w _ hx141_1)).trans hx141_1
                          replace hx141_2 := (HB.out.cell (World.block_lt_of_cell? w _ hx141_2)).trans hx141_2
                          replace hx141_3 := (HB.out.cell (World.block_lt_of_cell? w _ hx141_3)).trans hx141_3
                          replace hx141_4 := (HB.out.cell (World.block_lt_of_cell? w _ hx141_4)).trans hx141_4
                          replace hx141_5 := (HB.out.cell (World.block_lt_of_cell? w _ hx141_5)).trans hx141_5
                          replace hx141_6 := (HB.out.cell (World.block_lt_of_cell? w _ hx141_6)).trans hx141_6
                          replace hx141_7 := (HB.out.cell (World.block_lt_of_cell? w _ hx141_7)).trans hx141_7
                          replace hx141_8 := (HB.out.cell (World.block_lt_of_cell? w _ hx141_8)).trans hx141_8
                          have HR141_2 := Aside0.mk hi141_2
                          have HC141_2 := Aside0.mk hl141_2
                          clear hi141_2 hl141_2
                          have HR141_8 := Aside0.mk hi141_8
                          have HC141_8 := Aside0.mk hl141_8
                          clear hi141_8 hl141_8
                          replace p141 := eq_true p141
                          replace q141 := eq_true q141
                          go_wp2_with (first | ((with_reducible refine gate_callee (f := 19) rfl ?_); refine goesL_ (some 61) rfl rfl Try.func19 (by kernel_rfl) rfl #[.agg #[.int .i64 ((rd_T29 l0_8 x52_3).f0), .bool ((rd_T29 l0_8 x52_3).f1.f0), .slice A141_2 ((rd_T29 l0_8 x52_3).f1.f1).length c141_2, .string ((rd_T29 l0_8 x52_3).f2), .int .i64 ((rd_T29 l0_8 x52_3).f3), .int .i64 ((rd_T29 l0_8 x52_3).f4), .bool ((rd_T29 l0_8 x52_3).f5), .bool ((rd_T29 l0_8 x52_3).f6), .slice A141_8 ((rd_T29 l0_8 x52_3).f7).length c141_8], .bool t139] rfl (by (try simp only [List.map_toArray, List.map_cons, List.map_nil]); first | done | rfl | (simp only [List.length_drop, List.length_take]; rfl)) ?_; (with_reducible refine (ih k3 (by have := HJ3.out; have := HJ11.out; have := HK3.out; omega) ((rd_T29 l0_8 x52_3).f0) ((rd_T29 l0_8 x52_3).f1.f0) _ _ ((rd_T29 l0_8 x52_3).f1.f1) ((rd_T29 l0_8 x52_3).f2) ((rd_T29 l0_8 x52_3).f3) ((rd_T29 l0_8 x52_3).f4) ((rd_T29 l0_8 x52_3).f5) ((rd_T29 l0_8 x52_3).f6) _ _ ((rd_T29 l0_8 x52_3).f7) t139 false _ ?side1 ?side2 ?side3 ?side4 A31.out).mono ?_); (case side1 => repeat (first | exact (Kd.C_below HR141_2.out HB.out) | (with_reducible refine Kd.C_alloc ?_ _) | (with_reducible refine Kd.C_drewN ?_ _) | (with_reducible refine Kd.C_drew ?_))); (case side2 => exact HC141_2.out); (case side3 => repeat (first | exact (Kd.C_below HR141_8.out HB.out) | (with_reducible refine Kd.C_alloc ?_ _) | (with_reducible refine Kd.C_drewN ?_ _) | (with_reducible refine Kd.C_drew ?_))); (case side4 => exact HC141_8.out); rintro e w36 ⟨rfl, hb⟩; refine ⟨_, rfl, ?_⟩; have n0_ := Aside0.mk (blk_below (g := gb137) (o := .cells #[.int .i64 a0_0, .bool a0_1, .slice A0_2 l0_2.length c0_2, .string a0_3, .int .i64 a0_4, .int .i64 a0_5, .bool a0_6, .bool a0_7, .slice (some ad141) l0_8.length c0_8] 29 (0, 0)) (by (with_reducible repeat (first | refine blk_drewN ?_ _ | refine blk_drew ?_ | refine blk_alloc ?_ _)); exact BK137.out) hb); have n1_ := Aside0.mk (below_step (by repeat (first | (with_reducible first | exact HB.out | apply below_alloc | apply pw_below_drewN | apply below_drew1 | refine below_set ?_ GE137.out) | exact HB.out)) hb); clear BK137; clear HB; have BK137 := n0_; have HB := n1_; clear n0_ n1_; (try clear hb); (try clear hb2); (try clear hk); (try clear hi)))
                          go_ret
                          exact ⟨by first | rfl | (simp [errW_none, errW_some] <;> rfl) | (simp [*, errW_none, errW_some] <;> rfl), by repeat (first | (with_reducible first | exact HB.out | apply below_alloc | apply pw_below_drewN | apply below_drew1 | refine below_set ?_ GE137.out) | exact HB.out)⟩
                      · rw [if_neg c30] at H
                        exact absurd H (by simp)
                    · rw [if_neg c29] at H
                      exact absurd H (by simp)
                  · rw [if_neg c28] at H
                    have c28b0 : decide (x52_3 < (l0_8.length : Int)) = false := decide_eq_false c28
                    clear c28
                    obtain rfl := Option.some.inj H
                    go_wp2
                    go_ret
                    exact ⟨by first | rfl | (simp [errW_none, errW_some] <;> rfl) | (simp [*, errW_none, errW_some] <;> rfl), by repeat (first | (with_reducible first | exact HB.out | apply below_alloc | apply pw_below_drewN | apply below_drew1 | refine below_set ?_ GE137.out) | exact HB.out)⟩

end Go.Proofs.Ytddpojinlapmfaa.PRef
