-- printed by wip/tools/xprint.py (the kit's print program, with stubs); checked by Lean
import Derived.Test.YtkomgnaleocleaaPAllx0
import Derived.Test.YtkomgnaleocleaaPAllx2
import Derived.Test.YtkomgnaleocleaaPAllx4
import Derived.Test.YtkomgnaleocleaaLex
namespace Go.Proofs.Ytkomgnaleocleaa.PAll
open Go.RowKit Go.Proofs.YtkomgnaleocleaaW.PrintWords Go.Proofs.YtkomgnaleocleaaW.PrintLast Go.Proofs.YtkomgnaleocleaaW.PrintMore
attribute [local go_sem] max2_int min2_int max_two min_two max_three min_three max_four min_four   -- for this text's walks alone
set_option linter.unusedVariables false
set_option linter.unusedSimpArgs false

/-! ### cylinderlaw35_LexerBlanks: function 5 -/
mutual
def cylinderlaw35_LexerBlanks.j0 : Nat → ByteArray → Int → Int → Bool → Option (Bool)
  | 0, _, _, _, _ => none
  | k + 1, x0, x1, x2, x24 => if x24 = true then ((cylinderlaw35_awake.f).bind fun t236 => (some t236)) else ((lexer_Lex.f x0).bind fun bt237 => (if bt237.2.2 = 0 then (if (bt237.1.length : Int) > 0 then (cylinderlaw35_LexerBlanks.j1 k x0 x1 x2 bt237.1 0 0 (decide (x1 > 0))) else (cylinderlaw35_LexerBlanks.j1 k x0 x1 x2 bt237.1 0 0 false)) else (some true)))
def cylinderlaw35_LexerBlanks.j1 : Nat → ByteArray → Int → Int → List (S30) → Int → Int → Bool → Option (Bool)
  | 0, _, _, _, _, _, _, _ => none
  | k + 1, x0, x1, x2, x7, x10, x11, x40 => if x40 = true then (if (x7.length : Int) = 0 then (none) else (if 0 ≤ (wrap64 ((wrap64 (1 + (Int.tmod (wrap64 (x1)) (x7.length : Int)))) - 1)) then (if (wrap64 ((wrap64 (1 + (Int.tmod (wrap64 (x1)) (x7.length : Int)))) - 1)) < (x7.length : Int) then (cylinderlaw35_LexerBlanks.j2 k x0 x2 x7 (wrap64 (((rd_T30 x7 (wrap64 ((wrap64 (1 + (Int.tmod (wrap64 (x1)) (x7.length : Int)))) - 1))).f2) + (((rd_T30 x7 (wrap64 ((wrap64 (1 + (Int.tmod (wrap64 (x1)) (x7.length : Int)))) - 1))).f1).size : Int))) (wrap64 (1 + (Int.tmod (wrap64 (x1)) (x7.length : Int))))) else (none)) else (none))) else (cylinderlaw35_LexerBlanks.j2 k x0 x2 x7 x10 x11)
def cylinderlaw35_LexerBlanks.j2 : Nat → ByteArray → Int → List (S30) → Int → Int → Option (Bool)
  | 0, _, _, _, _, _ => none
  | k + 1, x0, x2, x7, x10, x11 => (some (([9, 10, 13, 32] : List Int) : List Int)).bind fun y244 => (if 0 ≤ (Int.tmod x2 4) then (if (Int.tmod x2 4) < (y244.length : Int) then (if 0 ≤ x10 then (if x10 ≤ (x0.size : Int) then (if (x0.extract 0 (x10 : Int).toNat).size + (Utf8.encode (wrap32 (rd y244 (Int.tmod x2 4)))).size ≤ 9223372036854775807 then (if ((x0.extract 0 (x10 : Int).toNat) ++ (Utf8.encode (wrap32 (rd y244 (Int.tmod x2 4))))).size + (x0.extract (x10 : Int).toNat x0.size).size ≤ 9223372036854775807 then ((lexer_Lex.f (((x0.extract 0 (x10 : Int).toNat) ++ (Utf8.encode (wrap32 (rd y244 (Int.tmod x2 4))))) ++ (x0.extract (x10 : Int).toNat x0.size))).bind fun bt248 => (if bt248.2.2 = 0 then ((cylinderref35_Same.f k x7 bt248.1 false).bind fun t253 => (cylinderlaw35_LexerBlanks.j3 k x7 x11 bt248.1 (!t253))) else (cylinderlaw35_LexerBlanks.j3 k x7 x11 bt248.1 true))) else (none)) else (none)) else (none)) else (none)) else (none)) else (none))
def cylinderlaw35_LexerBlanks.j3 : Nat → List (S30) → Int → List (S30) → Bool → Option (Bool)
  | 0, _, _, _, _ => none
  | k + 1, x7, x11, x13, x89 => if x89 = true then (some false) else (cylinderlaw35_LexerBlanks.l0 k x7 x11 x13 (x7.length : Int) 0)
def cylinderlaw35_LexerBlanks.l0 : Nat → List (S30) → Int → List (S30) → Int → Int → Option (Bool)
  | 0, _, _, _, _, _ => none
  | k + 1, x7, x11, x13, x91, x92 => if x92 < x91 then (if x92 ≥ x11 then (if 0 ≤ x92 then (if x92 < (x13.length : Int) then (if x92 < (x7.length : Int) then (if ((rd_T30 x13 x92).f2) = (wrap64 (((rd_T30 x7 x92).f2) + 1)) then (cylinderlaw35_LexerBlanks.l0 k x7 x11 x13 x91 (wrap64 (x92 + 1))) else (some false)) else (none)) else (none)) else (none)) else (if 0 ≤ x92 then (if x92 < (x13.length : Int) then (if x92 < (x7.length : Int) then (if ((rd_T30 x13 x92).f2) = (wrap64 (((rd_T30 x7 x92).f2) + 0)) then (cylinderlaw35_LexerBlanks.l0 k x7 x11 x13 x91 (wrap64 (x92 + 1))) else (some false)) else (none)) else (none)) else (none))) else (some true)
end
def cylinderlaw35_LexerBlanks.f (k : Nat) (a0 : ByteArray) (a1 : Int) (a2 : Int) : Option (Bool) := (cylinderlaw35_awake.f).bind fun t235 => (if t235 = true then (cylinderlaw35_LexerBlanks.j0 k a0 a1 a2 (decide ((a0.size : Int) > 3000))) else (cylinderlaw35_LexerBlanks.j0 k a0 a1 a2 true))
theorem cylinderlaw35_LexerBlanks.mono_l : ∀ k, (∀ y0 y1 y2 y3, LeO (cylinderlaw35_LexerBlanks.j0 k y0 y1 y2 y3) (cylinderlaw35_LexerBlanks.j0 (k + 1) y0 y1 y2 y3)) ∧ (∀ y0 y1 y2 y3 y4 y5 y6, LeO (cylinderlaw35_LexerBlanks.j1 k y0 y1 y2 y3 y4 y5 y6) (cylinderlaw35_LexerBlanks.j1 (k + 1) y0 y1 y2 y3 y4 y5 y6)) ∧ (∀ y0 y1 y2 y3 y4, LeO (cylinderlaw35_LexerBlanks.j2 k y0 y1 y2 y3 y4) (cylinderlaw35_LexerBlanks.j2 (k + 1) y0 y1 y2 y3 y4)) ∧ (∀ y0 y1 y2 y3, LeO (cylinderlaw35_LexerBlanks.j3 k y0 y1 y2 y3) (cylinderlaw35_LexerBlanks.j3 (k + 1) y0 y1 y2 y3)) ∧ (∀ y0 y1 y2 y3 y4, LeO (cylinderlaw35_LexerBlanks.l0 k y0 y1 y2 y3 y4) (cylinderlaw35_LexerBlanks.l0 (k + 1) y0 y1 y2 y3 y4))
  | 0 => ⟨fun _ _ _ _ r h => by simp [cylinderlaw35_LexerBlanks.j0] at h, fun _ _ _ _ _ _ _ r h => by simp [cylinderlaw35_LexerBlanks.j1] at h, fun _ _ _ _ _ r h => by simp [cylinderlaw35_LexerBlanks.j2] at h, fun _ _ _ _ r h => by simp [cylinderlaw35_LexerBlanks.j3] at h, fun _ _ _ _ _ r h => by simp [cylinderlaw35_LexerBlanks.l0] at h⟩
  | k + 1 => by
    obtain ⟨ih0, ih1, ih2, ih3, ih4⟩ := cylinderlaw35_LexerBlanks.mono_l k
    refine ⟨?_, ?_, ?_, ?_, ?_⟩
    · intro y0 y1 y2 y3
      unfold cylinderlaw35_LexerBlanks.j0
      repeat' first
      | (with_reducible exact ih0 _ _ _ _)
      | (with_reducible exact ih1 _ _ _ _ _ _ _)
      | (with_reducible exact ih2 _ _ _ _ _)
      | (with_reducible exact ih3 _ _ _ _)
      | (with_reducible exact ih4 _ _ _ _ _)
      | (with_reducible exact cylinderref35_Same.mono _ _ _ _)
      | (with_reducible exact LeO.refl _)
      | (with_reducible exact LeO.none _)
      | (with_reducible refine LeO.ite ?_ ?_)
      | (with_reducible refine LeO.bind ?_ (fun _ => ?_))
      | exact ih0 _ _ _ _
      | exact ih1 _ _ _ _ _ _ _
      | exact ih2 _ _ _ _ _
      | exact ih3 _ _ _ _
      | exact ih4 _ _ _ _ _
      | exact cylinderref35_Same.mono _ _ _ _
      | exact LeO.none _
      | refine LeO.ite ?_ ?_
      | refine LeO.bind ?_ (fun _ => ?_)
    · intro y0 y1 y2 y3 y4 y5 y6
      unfold cylinderlaw35_LexerBlanks.j1
      repeat' first
      | (with_reducible exact ih0 _ _ _ _)
      | (with_reducible exact ih1 _ _ _ _ _ _ _)
      | (with_reducible exact ih2 _ _ _ _ _)
      | (with_reducible exact ih3 _ _ _ _)
      | (with_reducible exact ih4 _ _ _ _ _)
      | (with_reducible exact cylinderref35_Same.mono _ _ _ _)
      | (with_reducible exact LeO.refl _)
      | (with_reducible exact LeO.none _)
      | (with_reducible refine LeO.ite ?_ ?_)
      | (with_reducible refine LeO.bind ?_ (fun _ => ?_))
      | exact ih0 _ _ _ _
      | exact ih1 _ _ _ _ _ _ _
      | exact ih2 _ _ _ _ _
      | exact ih3 _ _ _ _
      | exact ih4 _ _ _ _ _
      | exact cylinderref35_Same.mono _ _ _ _
      | exact LeO.none _
      | refine LeO.ite ?_ ?_
      | refine LeO.bind ?_ (fun _ => ?_)
    · intro y0 y1 y2 y3 y4
      unfold cylinderlaw35_LexerBlanks.j2
      repeat' first
      | (with_reducible exact ih0 _ _ _ _)
      | (with_reducible exact ih1 _ _ _ _ _ _ _)
      | (with_reducible exact ih2 _ _ _ _ _)
      | (with_reducible exact ih3 _ _ _ _)
      | (with_reducible exact ih4 _ _ _ _ _)
      | (with_reducible exact cylinderref35_Same.mono _ _ _ _)
      | (with_reducible exact LeO.refl _)
      | (with_reducible exact LeO.none _)
      | (with_reducible refine LeO.ite ?_ ?_)
      | (with_reducible refine LeO.bind ?_ (fun _ => ?_))
      | exact ih0 _ _ _ _
      | exact ih1 _ _ _ _ _ _ _
      | exact ih2 _ _ _ _ _
      | exact ih3 _ _ _ _
      | exact ih4 _ _ _ _ _
      | exact cylinderref35_Same.mono _ _ _ _
      | exact LeO.none _
      | refine LeO.ite ?_ ?_
      | refine LeO.bind ?_ (fun _ => ?_)
    · intro y0 y1 y2 y3
      unfold cylinderlaw35_LexerBlanks.j3
      repeat' first
      | (with_reducible exact ih0 _ _ _ _)
      | (with_reducible exact ih1 _ _ _ _ _ _ _)
      | (with_reducible exact ih2 _ _ _ _ _)
      | (with_reducible exact ih3 _ _ _ _)
      | (with_reducible exact ih4 _ _ _ _ _)
      | (with_reducible exact cylinderref35_Same.mono _ _ _ _)
      | (with_reducible exact LeO.refl _)
      | (with_reducible exact LeO.none _)
      | (with_reducible refine LeO.ite ?_ ?_)
      | (with_reducible refine LeO.bind ?_ (fun _ => ?_))
      | exact ih0 _ _ _ _
      | exact ih1 _ _ _ _ _ _ _
      | exact ih2 _ _ _ _ _
      | exact ih3 _ _ _ _
      | exact ih4 _ _ _ _ _
      | exact cylinderref35_Same.mono _ _ _ _
      | exact LeO.none _
      | refine LeO.ite ?_ ?_
      | refine LeO.bind ?_ (fun _ => ?_)
    · intro y0 y1 y2 y3 y4
      unfold cylinderlaw35_LexerBlanks.l0
      repeat' first
      | (with_reducible exact ih0 _ _ _ _)
      | (with_reducible exact ih1 _ _ _ _ _ _ _)
      | (with_reducible exact ih2 _ _ _ _ _)
      | (with_reducible exact ih3 _ _ _ _)
      | (with_reducible exact ih4 _ _ _ _ _)
      | (with_reducible exact cylinderref35_Same.mono _ _ _ _)
      | (with_reducible exact LeO.refl _)
      | (with_reducible exact LeO.none _)
      | (with_reducible refine LeO.ite ?_ ?_)
      | (with_reducible refine LeO.bind ?_ (fun _ => ?_))
      | exact ih0 _ _ _ _
      | exact ih1 _ _ _ _ _ _ _
      | exact ih2 _ _ _ _ _
      | exact ih3 _ _ _ _
      | exact ih4 _ _ _ _ _
      | exact cylinderref35_Same.mono _ _ _ _
      | exact LeO.none _
      | refine LeO.ite ?_ ?_
      | refine LeO.bind ?_ (fun _ => ?_)
theorem cylinderlaw35_LexerBlanks.mono : ∀ a0 a1 a2 k, LeO (cylinderlaw35_LexerBlanks.f k a0 a1 a2) (cylinderlaw35_LexerBlanks.f (k + 1) a0 a1 a2) := by
  intro a0 a1 a2 k
  obtain ⟨ih0, ih1, ih2, ih3, ih4⟩ := cylinderlaw35_LexerBlanks.mono_l k
  unfold cylinderlaw35_LexerBlanks.f
  repeat' first
      | (with_reducible exact ih0 _ _ _ _)
      | (with_reducible exact ih1 _ _ _ _ _ _ _)
      | (with_reducible exact ih2 _ _ _ _ _)
      | (with_reducible exact ih3 _ _ _ _)
      | (with_reducible exact ih4 _ _ _ _ _)
      | (with_reducible exact cylinderref35_Same.mono _ _ _ _)
      | (with_reducible exact LeO.refl _)
      | (with_reducible exact LeO.none _)
      | (with_reducible refine LeO.ite ?_ ?_)
      | (with_reducible refine LeO.bind ?_ (fun _ => ?_))
      | exact ih0 _ _ _ _
      | exact ih1 _ _ _ _ _ _ _
      | exact ih2 _ _ _ _ _
      | exact ih3 _ _ _ _
      | exact ih4 _ _ _ _ _
      | exact cylinderref35_Same.mono _ _ _ _
      | exact LeO.none _
      | refine LeO.ite ?_ ?_
      | refine LeO.bind ?_ (fun _ => ?_)
def cylinderlaw35_LexerBlanks.T10 : Bool × List (List Nat × List Nat) := (true, [([], []), ([], []), ([1], [1]), ([0, 2], [0, 2]), ([3], [3]), ([4], [4]), ([], []), ([], []), ([7], [7]), ([6, 8], [6, 8]), ([9], [9]), ([10], [10]), ([11], [11]), ([5, 12], [5, 12]), ([13, 0, 1, 2, 3, 4, 5, 6, 7, 8, 9, 10, 11, 12, 13], [13])])
def cylinderlaw35_LexerBlanks.B10 : List Nat := [0, 0, 2, 7, 15, 31, 0, 0, 128, 448, 960, 1984, 4032, 8191, 16383]
theorem cylinderlaw35_LexerBlanks.tab10 : rtab .any (opsOf Try.f5 10) = cylinderlaw35_LexerBlanks.T10 := by kernel_rfl
theorem cylinderlaw35_LexerBlanks.bits10 : waitsOk cylinderlaw35_LexerBlanks.T10.2 cylinderlaw35_LexerBlanks.B10 = true := by kernel_rfl
def cylinderlaw35_LexerBlanks.T12 : Bool × List (List Nat × List Nat) := (true, [([], []), ([], []), ([0, 1], [0, 1]), ([], []), ([3], [3]), ([4], [4]), ([2, 5], [2, 5]), ([], []), ([], []), ([7, 8], [7, 8]), ([6, 9], [6, 9]), ([10], [10]), ([11], [11]), ([12], [12]), ([12], [12]), ([12], [12]), ([13, 11, 0, 1, 2, 3, 4, 5, 6, 7, 8, 9, 10, 11, 12, 13], [13]), ([14, 16, 0, 1, 2, 3, 4, 5, 6, 7, 8, 9, 10, 11, 12, 13, 14, 16], [14]), ([15, 17, 0, 1, 2, 3, 4, 5, 6, 7, 8, 9, 10, 11, 12, 13, 14, 15, 16, 17], [15])])
def cylinderlaw35_LexerBlanks.B12 : List Nat := [0, 0, 3, 0, 8, 24, 63, 0, 0, 384, 1023, 2047, 4095, 8191, 8191, 8191, 16383, 98303, 262143]
theorem cylinderlaw35_LexerBlanks.tab12 : rtab .any (opsOf Try.f5 12) = cylinderlaw35_LexerBlanks.T12 := by kernel_rfl
theorem cylinderlaw35_LexerBlanks.bits12 : waitsOk cylinderlaw35_LexerBlanks.T12.2 cylinderlaw35_LexerBlanks.B12 = true := by kernel_rfl
def cylinderlaw35_LexerBlanks.T21 : Bool × List (List Nat × List Nat) := (true, [([], []), ([], []), ([0, 1], [0, 1]), ([2], [2]), ([3], [3]), ([], []), ([], []), ([5, 6], [5, 6]), ([7], [7]), ([8], [8]), ([], []), ([9, 10], [9, 10]), ([4, 11], [4, 11])])
def cylinderlaw35_LexerBlanks.B21 : List Nat := [0, 0, 3, 7, 15, 0, 0, 96, 224, 480, 0, 2016, 4095]
theorem cylinderlaw35_LexerBlanks.tab21 : rtab .any (opsOf Try.f5 21) = cylinderlaw35_LexerBlanks.T21 := by kernel_rfl
theorem cylinderlaw35_LexerBlanks.bits21 : waitsOk cylinderlaw35_LexerBlanks.T21.2 cylinderlaw35_LexerBlanks.B21 = true := by kernel_rfl
set_option maxHeartbeats 8000000 in
set_option maxRecDepth 100000 in
theorem cylinderlaw35_LexerBlanks.calls (k : Nat) (a0 : ByteArray) (a1 : Int) (a2 : Int) (r : Bool) (w : World) (h : cylinderlaw35_LexerBlanks.f k a0 a1 a2 = some r) :
    Calls Try.prog 5 #[.string a0, .int .u8 a1, .int .u8 a2] w fun e w' => e = .returned (.bool r) ∧ Below w.heap.size w w' := by
  have hrs := run_rune_str
  have HB := Aside0.mk (Below.refl w.heap.size w)
  have H : ((cylinderlaw35_awake.f).bind fun t235 => (if t235 = true then (cylinderlaw35_LexerBlanks.j0 k a0 a1 a2 (decide ((a0.size : Int) > 3000))) else (cylinderlaw35_LexerBlanks.j0 k a0 a1 a2 true))) = some r := h
  clear h
  have HC4 := Aside0.mk H
  clear H
  go_enter Try.func5, Try.ntmps5
  go_upto_region 1 with (fail)
  go_cut [24] (fun v24 wc => ∃ (kq : Nat) (x24_3 : Bool), v24 = .bool x24_3 ∧ Aside0 (cylinderlaw35_LexerBlanks.j0 kq a0 a1 a2 x24_3 = some r) ∧ Aside0 (kq ≤ k) ∧ Aside0 (Below w.heap.size w wc))
  case first =>
    have H := HC4.out
    clear HC4
    replace H := Option.bind_eq_some_iff.mp H
    obtain ⟨t235, A50, H⟩ := H
    replace H : (if t235 = true then (cylinderlaw35_LexerBlanks.j0 k a0 a1 a2 (decide ((a0.size : Int) > 3000))) else (cylinderlaw35_LexerBlanks.j0 k a0 a1 a2 true)) = some r := H
    have A5 := Aside0.mk A50
    clear A50
    by_cases c6 : t235 = true
    · subst c6
      have H1 : (cylinderlaw35_LexerBlanks.j0 k a0 a1 a2 (decide ((a0.size : Int) > 3000))) = some r := by rw [if_pos rfl] at H; exact H
      clear H
      have H := H1
      clear H1
      have H' := Aside0.mk H
      clear H
      go_wp2_with (first | ((with_reducible refine gate_callee (f := 12) rfl ?_); refine goesL_ (some 18) rfl rfl Try.func12 (by kernel_rfl) rfl #[] rfl (by (try simp only [List.map_toArray, List.map_cons, List.map_nil]); first | done | rfl | (simp only [List.length_drop, List.length_take]; rfl)) ?_; (with_reducible refine (cylinderlaw35_awake.calls  true _ A5.out).mono ?_); rintro e w7 ⟨rfl, hb⟩; refine ⟨_, rfl, ?_⟩; have n0_ := Aside0.mk (below_step (by repeat (first | (with_reducible first | exact HB.out | apply below_alloc | apply pw_below_drewN | apply below_drew1) | exact HB.out)) hb); clear HB; have HB := n0_; clear n0_; (try clear hb); (try clear hb2); (try clear hk); (try clear hi)))
      go_meet
      case rel => exact ⟨_, (decide ((a0.size : Int) > 3000)), (by first | rfl | (simp; done) | (simp [*]; done)), H', ⟨by first | omega | exact Nat.le_refl _⟩, ⟨by repeat (first | (with_reducible first | exact HB.out | apply below_alloc | apply pw_below_drewN | apply below_drew1) | exact HB.out)⟩⟩
    · replace c6 := Bool.eq_false_iff.mpr c6
      subst c6
      have H1 : (cylinderlaw35_LexerBlanks.j0 k a0 a1 a2 true) = some r := by rw [if_neg (show ¬ (false = true) by decide)] at H; exact H
      clear H
      have H := H1
      clear H1
      have H' := Aside0.mk H
      clear H
      go_wp2_with (first | ((with_reducible refine gate_callee (f := 12) rfl ?_); refine goesL_ (some 18) rfl rfl Try.func12 (by kernel_rfl) rfl #[] rfl (by (try simp only [List.map_toArray, List.map_cons, List.map_nil]); first | done | rfl | (simp only [List.length_drop, List.length_take]; rfl)) ?_; (with_reducible refine (cylinderlaw35_awake.calls  false _ A5.out).mono ?_); rintro e w8 ⟨rfl, hb⟩; refine ⟨_, rfl, ?_⟩; have n0_ := Aside0.mk (below_step (by repeat (first | (with_reducible first | exact HB.out | apply below_alloc | apply pw_below_drewN | apply below_drew1) | exact HB.out)) hb); clear HB; have HB := n0_; clear n0_; (try clear hb); (try clear hb2); (try clear hk); (try clear hi)))
      go_meet
      case rel => exact ⟨_, (true), (by first | rfl | (simp; done) | (simp [*]; done)), H', ⟨by first | omega | exact Nat.le_refl _⟩, ⟨by repeat (first | (with_reducible first | exact HB.out | apply below_alloc | apply pw_below_drewN | apply below_drew1) | exact HB.out)⟩⟩
  case rest =>
    clear HC4
    try clear c1
    try clear p2
    try clear c5
    try clear c6
    obtain ⟨kq, x24_3, rfl, HA, HJ3, HB⟩ := hcut
    cases kq with
    | zero => exact absurd HA.out (by simp [cylinderlaw35_LexerBlanks.j0])
    | succ kj3 =>
      have H := HA.out
      clear HA
      simp only [cylinderlaw35_LexerBlanks.j0] at H
      by_cases c9 : x24_3 = true
      · subst c9
        have H1 : ((cylinderlaw35_awake.f).bind fun t236 => (some t236)) = some r := by rw [if_pos rfl] at H; exact H
        clear H
        have H := H1
        clear H1
        replace H := Option.bind_eq_some_iff.mp H
        obtain ⟨t236, A100, H⟩ := H
        replace H : (some t236) = some r := H
        have A10 := Aside0.mk A100
        clear A100
        obtain rfl := Option.some.inj H
        go_wp2_with (first | ((with_reducible refine gate_callee (f := 12) rfl ?_); refine goesL_ (some 25) rfl rfl Try.func12 (by kernel_rfl) rfl #[] rfl (by (try simp only [List.map_toArray, List.map_cons, List.map_nil]); first | done | rfl | (simp only [List.length_drop, List.length_take]; rfl)) ?_; (with_reducible refine (cylinderlaw35_awake.calls  t236 _ A10.out).mono ?_); rintro e w11 ⟨rfl, hb⟩; refine ⟨_, rfl, ?_⟩; have n0_ := Aside0.mk (below_step (by repeat (first | (with_reducible first | exact HB.out | apply below_alloc | apply pw_below_drewN | apply below_drew1) | exact HB.out)) hb); clear HB; have HB := n0_; clear n0_; (try clear hb); (try clear hb2); (try clear hk); (try clear hi)))
        go_ret
        exact ⟨by first | rfl | (simp [errW_none, errW_some] <;> rfl) | (simp [*, errW_none, errW_some] <;> rfl) | (rw [wrap64_wrap_add]; rfl) | (have e_ := Option.some.inj (A28.out.symm.trans A30.out); subst e_; rfl), by repeat (first | (with_reducible first | exact HB.out | apply below_alloc | apply pw_below_drewN | apply below_drew1) | exact HB.out)⟩
      · replace c9 := Bool.eq_false_iff.mpr c9
        subst c9
        have H1 : ((lexer_Lex.f a0).bind fun bt237 => (if bt237.2.2 = 0 then (if (bt237.1.length : Int) > 0 then (cylinderlaw35_LexerBlanks.j1 kj3 a0 a1 a2 bt237.1 0 0 (decide (a1 > 0))) else (cylinderlaw35_LexerBlanks.j1 kj3 a0 a1 a2 bt237.1 0 0 false)) else (some true))) = some r := by rw [if_neg (show ¬ (false = true) by decide)] at H; exact H
        clear H
        have H := H1
        clear H1
        replace H := Option.bind_eq_some_iff.mp H
        obtain ⟨⟨t237, t238, t239⟩, A120, H⟩ := H
        replace H : (if t239 = 0 then (if (t237.length : Int) > 0 then (cylinderlaw35_LexerBlanks.j1 kj3 a0 a1 a2 t237 0 0 (decide (a1 > 0))) else (cylinderlaw35_LexerBlanks.j1 kj3 a0 a1 a2 t237 0 0 false)) else (some true)) = some r := H
        have A12 := Aside0.mk A120
        clear A120
        by_cases c13 : t239 = 0
        · rw [if_pos c13] at H
          have c13b0 : (t239 == 0) = true := beq_iff_eq.mpr c13
          have c13b1 : (t239 != 0) = false := bne_eq_false_iff_eq.mpr c13
          clear c13
          have HC14 := Aside0.mk H
          clear H
          go_upto_region 8 with (first | ((with_reducible refine gate_callee (f := 13) rfl ?_); refine goesL_ (some 28) rfl rfl Try.func13 (by kernel_rfl) rfl #[.string a0] rfl (by (try simp only [List.map_toArray, List.map_cons, List.map_nil]); first | done | rfl | (simp only [List.length_drop, List.length_take]; rfl)) ?_; (with_reducible refine (lexer_Lex.calls a0 t237 t238 t239 _ A12.out).mono ?_); rintro e w15 ⟨v240, rfl, ho0, hb⟩; refine ⟨_, rfl, ?_⟩; have n0_ := Aside0.mk (Kd.R_lower ho0 (below_size (by repeat (first | (with_reducible first | exact HB.out | apply below_alloc | apply pw_below_drewN | apply below_drew1) | exact HB.out)))); have n1_ := Aside0.mk (below_step (by repeat (first | (with_reducible first | exact HB.out | apply below_alloc | apply pw_below_drewN | apply below_drew1) | exact HB.out)) hb); clear HB; have HO241 := n0_; have HB := n1_; clear n0_ n1_; (try clear hb); (try clear hb2); (try clear hk); (try clear hi); (try clear ho0)))
          (try simp only [Act.put, List.setIfInBounds_toArray, List.set_cons_zero, List.set_cons_succ])
          go_cut [40] (fun v40 wc => ∃ (kq : Nat) (x40_13 : Bool), v40 = .bool x40_13 ∧ Aside0 (cylinderlaw35_LexerBlanks.j1 kq a0 a1 a2 t237 0 0 x40_13 = some r) ∧ Aside0 (kq ≤ kj3) ∧ Aside0 (Kd.R k30 30 wc w.heap.size (fun _ => True) v240 t237) ∧ Aside0 (Below w.heap.size w wc))
          case first =>
            have H := HC14.out
            clear HC14
            by_cases c16 : (t237.length : Int) > 0
            · rw [if_pos c16] at H
              have c16b0 : decide (0 < (t237.length : Int)) = true := decide_eq_true c16
              have c16b1 : decide (0 < t237.length) = true := decide_eq_true (by omega)
              clear c16
              (first | rw [c16b0] | (simp only [i64_w, i32_w]; rw [c16b0]) | skip)
              have H' := Aside0.mk H
              clear H
              obtain ⟨Ao17, co17, eo17⟩ := Kd.R_slice HO241.out
              subst eo17
              go_wp2
              go_meet
              case rel => exact ⟨_, (decide (a1 > 0)), (by first | rfl | (simp; done) | (simp [*]; done)), H', ⟨by have := HJ3.out; first | omega | exact Nat.le_refl _⟩, ⟨by (with_reducible repeat (first | apply Kd.R_alloc | apply Kd.R_drewN | apply Kd.R_drew)); exact HO241.out⟩, ⟨by repeat (first | (with_reducible first | exact HB.out | apply below_alloc | apply pw_below_drewN | apply below_drew1) | exact HB.out)⟩⟩
            · rw [if_neg c16] at H
              have c16b0 : decide (0 < (t237.length : Int)) = false := decide_eq_false c16
              have c16b1 : decide (0 < t237.length) = false := decide_eq_false (by omega)
              clear c16
              (first | rw [c16b0] | (simp only [i64_w, i32_w]; rw [c16b0]) | skip)
              have H' := Aside0.mk H
              clear H
              obtain ⟨Ao18, co18, eo18⟩ := Kd.R_slice HO241.out
              subst eo18
              go_wp2
              go_meet
              case rel => exact ⟨_, (false), (by first | rfl | (simp; done) | (simp [*]; done)), H', ⟨by have := HJ3.out; first | omega | exact Nat.le_refl _⟩, ⟨by (with_reducible repeat (first | apply Kd.R_alloc | apply Kd.R_drewN | apply Kd.R_drew)); exact HO241.out⟩, ⟨by repeat (first | (with_reducible first | exact HB.out | apply below_alloc | apply pw_below_drewN | apply below_drew1) | exact HB.out)⟩⟩
          case rest =>
            clear HC14
            try clear c1
            try clear p2
            try clear c5
            try clear c6
            try clear c9
            try clear c12
            try clear c13
            try clear c13b0
            try clear c13b1
            try clear c16
            try clear c16b0
            try clear c16b1
            try clear p2
            obtain ⟨kq, x40_13, rfl, HA, HJ13, HO_7, HB⟩ := hcut
            cases kq with
            | zero => exact absurd HA.out (by simp [cylinderlaw35_LexerBlanks.j1])
            | succ kj13 =>
              have H := HA.out
              clear HA
              simp only [cylinderlaw35_LexerBlanks.j1] at H
              have HC19 := Aside0.mk H
              clear H
              go_upto_if 40 with (fail)
              go_cut [10, 11] (fun v10 v11 wc => ∃ (kq : Nat) (x10_18 : Int) (x11_18 : Int), v10 = .int .i64 x10_18 ∧ v11 = .int .i64 x11_18 ∧ Aside0 (cylinderlaw35_LexerBlanks.j2 kq a0 a2 t237 x10_18 x11_18 = some r) ∧ Aside0 (kq ≤ kj13) ∧ Aside0 (Kd.R k30 30 wc w.heap.size (fun _ => True) v240 t237) ∧ Aside0 (Below w.heap.size w wc))
              case first =>
                have H := HC19.out
                clear HC19
                by_cases c20 : x40_13 = true
                · subst c20
                  have H1 : (if (t237.length : Int) = 0 then (none) else (if 0 ≤ (wrap64 ((wrap64 (1 + (Int.tmod (wrap64 (a1)) (t237.length : Int)))) - 1)) then (if (wrap64 ((wrap64 (1 + (Int.tmod (wrap64 (a1)) (t237.length : Int)))) - 1)) < (t237.length : Int) then (cylinderlaw35_LexerBlanks.j2 kj13 a0 a2 t237 (wrap64 (((rd_T30 t237 (wrap64 ((wrap64 (1 + (Int.tmod (wrap64 (a1)) (t237.length : Int)))) - 1))).f2) + (((rd_T30 t237 (wrap64 ((wrap64 (1 + (Int.tmod (wrap64 (a1)) (t237.length : Int)))) - 1))).f1).size : Int))) (wrap64 (1 + (Int.tmod (wrap64 (a1)) (t237.length : Int))))) else (none)) else (none))) = some r := by rw [if_pos rfl] at H; exact H
                  clear H
                  have H := H1
                  clear H1
                  by_cases c21 : (t237.length : Int) = 0
                  · rw [if_pos c21] at H
                    exact absurd H (by simp)
                  · rw [if_neg c21] at H
                    have c21b0 : ((t237.length : Int) == 0) = false := beq_eq_false_iff_ne.mpr c21
                    have c21b1 : ((t237.length : Int) != 0) = true := bne_iff_ne.mpr c21
                    have c21b2 : ¬ (t237 = []) := fun h_ => c21 (by rw [h_]; rfl)
                    (first | rw [c21b0] | (simp only [i64_w, i32_w]; rw [c21b0]) | skip)
                    obtain ⟨ji22, hji22⟩ : ∃ j_ : Int, (wrap64 ((wrap64 (1 + (Int.tmod (wrap64 (a1)) (t237.length : Int)))) - 1)) = j_ := ⟨_, rfl⟩
                    replace H : (if 0 ≤ (ji22) then (if (ji22) < (t237.length : Int) then (cylinderlaw35_LexerBlanks.j2 kj13 a0 a2 t237 (wrap64 (((rd_T30 t237 (ji22)).f2) + (((rd_T30 t237 (ji22)).f1).size : Int))) (wrap64 (1 + (Int.tmod (wrap64 (a1)) (t237.length : Int))))) else (none)) else (none)) = some r := by first | (rw [hji22] at H; exact H) | (simp only [hji22] at H ⊢; exact H)
                    have hji22w : (IntKind.i64.wrap ((wrap64 (1 + (Int.tmod (wrap64 (a1)) (t237.length : Int)))) - 1)) = ji22 := (i64_w _).trans hji22
                    by_cases c23 : 0 ≤ (ji22)
                    · rw [if_pos c23] at H
                      have c23b0 : decide (0 ≤ (ji22)) = true := decide_eq_true c23
                      clear c23
                      by_cases c24 : (ji22) < (t237.length : Int)
                      · rw [if_pos c24] at H
                        have c24b0 : decide ((ji22) < (t237.length : Int)) = true := decide_eq_true c24
                        clear c24
                        have H' := Aside0.mk H
                        clear H
                        obtain ⟨Ao25, co25, eo25⟩ := Kd.R_slice HO_7.out
                        subst eo25
                        try go_wp2
                        have n0_ := Aside0.mk (Kd.R_drew HO_7.out)
                        have n1_ := Aside0.mk (below_drew1 HB.out)
                        clear HO_7
                        clear HB
                        have HO_7 := n0_
                        have HB := n1_
                        clear n0_ n1_
                        have p242 : 0 ≤ ((ji22) : Int) := of_decide_eq_true (by first | (with_reducible assumption) | assumption)
                        have q242 : (ji22) < (t237.length : Int) := of_decide_eq_true (by first | (with_reducible assumption) | assumption)
                        obtain ⟨ad242, e242, hx242_0, hx242_1, hx242_2⟩ := at_T30 (Kd.R_reads' HO_7.out).2.2 (ji22) p242 q242
                        cases e242
                        replace p242 := eq_true p242
                        replace q242 := eq_true q242
                        have p243 : 0 ≤ ((ji22) : Int) := of_decide_eq_true (by first | (with_reducible assumption) | assumption)
                        have q243 : (ji22) < (t237.length : Int) := of_decide_eq_true (by first | (with_reducible assumption) | assumption)
                        obtain ⟨ad243, e243, hx243_0, hx243_1, hx243_2⟩ := at_T30 (Kd.R_reads' HO_7.out).2.2 (ji22) p243 q243
                        obtain rfl : ad242 = ad243 := (by injection e243)
                        replace p243 := eq_true p243
                        replace q243 := eq_true q243
                        refine start_ (n := 15) (S := fun w' => w'.cell? (ad242.add (((ji22)).toNat * 3)) = some (.int .i64 ((rd_T30 t237 (ji22)).f0)) ∧ w'.cell? ⟨(ad242.add (((ji22)).toNat * 3)).block, (ad242.add (((ji22)).toNat * 3)).off + 1, none⟩ = some (.string ((rd_T30 t237 (ji22)).f1)) ∧ w'.cell? ⟨(ad242.add (((ji22)).toNat * 3)).block, (ad242.add (((ji22)).toNat * 3)).off + 2, none⟩ = some (.int .i64 ((rd_T30 t237 (ji22)).f2)) ∧ w'.cell? (ad242.add (((ji22)).toNat * 3)) = some (.int .i64 ((rd_T30 t237 (ji22)).f0)) ∧ w'.cell? ⟨(ad242.add (((ji22)).toNat * 3)).block, (ad242.add (((ji22)).toNat * 3)).off + 1, none⟩ = some (.string ((rd_T30 t237 (ji22)).f1)) ∧ w'.cell? ⟨(ad242.add (((ji22)).toNat * 3)).block, (ad242.add (((ji22)).toNat * 3)).off + 2, none⟩ = some (.int .i64 ((rd_T30 t237 (ji22)).f2))) (ds := []) #[false, false, false, false, false, false, false, false, false, false, false, false, false, false, false] (by kernel_rfl) rfl rfl ⟨hx242_0, hx242_1, hx242_2, hx243_0, hx243_1, hx243_2⟩ (fun hHeld => ?_); refine with_tabW cylinderlaw35_LexerBlanks.tab10 cylinderlaw35_LexerBlanks.bits10 (fun HT_ HW_ => ?_)
                        generalize wc.drew = w26 at HO_7 HB hx242_0 hx242_1 hx242_2 hx243_0 hx243_1 hx243_2 hHeld ⊢
                        refine pure_ (i := 0) (N := some 47) (v := ?_) (a' := ?_) #[true, false, false, false, false, false, false, false, false, false, false, false, false, false, false] rfl rfl (any_of HT_.out (by kernel_rfl)) (fun _ _ _ h => h) (Or.inl ⟨by rfl, ?_⟩) ?_ ?_
                        rotate_left
                        · intro w'
                          go_simp
                          with_reducible rfl
                        rotate_left
                        · simp only [Act.put, List.setIfInBounds_toArray, List.set_cons_zero, List.set_cons_succ, i64_w, i32_w]
                          rfl
                        refine pure_ (i := 1) (N := some 48) (v := ?_) (a' := ?_) #[true, true, false, false, false, false, false, false, false, false, false, false, false, false, false] rfl rfl (any_of HT_.out (by kernel_rfl)) (fun _ _ _ h => h) (Or.inl ⟨by rfl, ?_⟩) ?_ ?_
                        rotate_left
                        · intro w'
                          go_simp
                          with_reducible rfl
                        rotate_left
                        · simp only [Act.put, List.setIfInBounds_toArray, List.set_cons_zero, List.set_cons_succ, i64_w, i32_w]
                          rfl
                        refine pure_ (i := 2) (N := some 49) (v := ?_) (a' := ?_) #[true, true, true, false, false, false, false, false, false, false, false, false, false, false, false] rfl rfl (any_of HT_.out (by kernel_rfl)) (fun _ _ _ h => h) (Or.inl ⟨by rfl, ?_⟩) ?_ ?_
                        rotate_left
                        · intro w'
                          go_simp
                          with_reducible rfl
                        rotate_left
                        · simp only [Act.put, List.setIfInBounds_toArray, List.set_cons_zero, List.set_cons_succ, i64_w, i32_w]
                          rfl
                        refine pure_ (i := 3) (N := some 50) (v := ?_) (a' := ?_) #[true, true, true, true, false, false, false, false, false, false, false, false, false, false, false] rfl rfl (any_of HT_.out (by kernel_rfl)) (fun _ _ _ h => h) (Or.inl ⟨by rfl, ?_⟩) ?_ ?_
                        rotate_left
                        · intro w'
                          go_simp
                          with_reducible rfl
                        rotate_left
                        · simp only [Act.put, List.setIfInBounds_toArray, List.set_cons_zero, List.set_cons_succ, i64_w, i32_w]
                          rfl
                        refine pure_ (i := 4) (N := some 51) (v := ?_) (a' := ?_) #[true, true, true, true, true, false, false, false, false, false, false, false, false, false, false] rfl rfl (any_of HT_.out (by kernel_rfl)) (fun _ _ _ h => h) (Or.inl ⟨by rfl, ?_⟩) ?_ ?_
                        rotate_left
                        · intro w'
                          go_simp
                          with_reducible rfl
                        rotate_left
                        · simp only [Act.put, List.setIfInBounds_toArray, List.set_cons_zero, List.set_cons_succ, i64_w, i32_w]
                          rfl
                        refine pure_ (i := 6) (N := some 53) (v := ?_) (a' := ?_) #[true, true, true, true, true, false, true, false, false, false, false, false, false, false, false] rfl rfl (any_of HT_.out (by kernel_rfl)) (fun _ _ _ h => h) (Or.inl ⟨by rfl, ?_⟩) ?_ ?_
                        rotate_left
                        · intro w'
                          go_simp
                          with_reducible rfl
                        rotate_left
                        · simp only [Act.put, List.setIfInBounds_toArray, List.set_cons_zero, List.set_cons_succ, i64_w, i32_w]
                          rfl
                        refine pure_ (i := 7) (N := some 54) (v := ?_) (a' := ?_) #[true, true, true, true, true, false, true, true, false, false, false, false, false, false, false] rfl rfl (any_of HT_.out (by kernel_rfl)) (fun _ _ _ h => h) (Or.inl ⟨by rfl, ?_⟩) ?_ ?_
                        rotate_left
                        · intro w'
                          go_simp
                          with_reducible rfl
                        rotate_left
                        · simp only [Act.put, List.setIfInBounds_toArray, List.set_cons_zero, List.set_cons_succ, i64_w, i32_w]
                          rfl
                        refine pure_ (i := 8) (N := some 55) (v := ?_) (a' := ?_) #[true, true, true, true, true, false, true, true, true, false, false, false, false, false, false] rfl rfl (any_of HT_.out (by kernel_rfl)) (fun _ _ _ h => h) (Or.inl ⟨by rfl, ?_⟩) ?_ ?_
                        rotate_left
                        · intro w'
                          go_simp
                          with_reducible rfl
                        rotate_left
                        · simp only [Act.put, List.setIfInBounds_toArray, List.set_cons_zero, List.set_cons_succ, i64_w, i32_w]
                          rfl
                        refine pure_ (i := 9) (N := some 56) (v := ?_) (a' := ?_) #[true, true, true, true, true, false, true, true, true, true, false, false, false, false, false] rfl rfl (any_of HT_.out (by kernel_rfl)) (fun _ _ _ h => h) (Or.inl ⟨by rfl, ?_⟩) ?_ ?_
                        rotate_left
                        · intro w'
                          go_simp
                          with_reducible rfl
                        rotate_left
                        · simp only [Act.put, List.setIfInBounds_toArray, List.set_cons_zero, List.set_cons_succ, i64_w, i32_w]
                          rfl
                        refine pure_ (i := 10) (N := some 57) (v := ?_) (a' := ?_) #[true, true, true, true, true, false, true, true, true, true, true, false, false, false, false] rfl rfl (any_of HT_.out (by kernel_rfl)) (fun _ _ _ h => h) (Or.inl ⟨by rfl, ?_⟩) ?_ ?_
                        rotate_left
                        · intro w'
                          go_simp
                          with_reducible rfl
                        rotate_left
                        · simp only [Act.put, List.setIfInBounds_toArray, List.set_cons_zero, List.set_cons_succ, i64_w, i32_w]
                          rfl
                        refine take_ (i := 5) (N := some 52) (v := ?_) (a' := ?_) #[true, true, true, true, true, true, true, true, true, true, true, false, false, false, false] rfl rfl (take_ofW HT_.out HW_.out (by kernel_rfl)) (fun _ _ _ h => h) (Or.inl ⟨by rfl, ?_⟩) hHeld ?_ ?_
                        rotate_left
                        · rintro w' ⟨s0, s1, s2, s3, s4, s5⟩
                          go_simp
                          with_reducible rfl
                        rotate_left
                        · simp only [Act.put, List.setIfInBounds_toArray, List.set_cons_zero, List.set_cons_succ, i64_w, i32_w]
                          rfl
                        refine take_ (i := 11) (N := some 58) (v := ?_) (a' := ?_) #[true, true, true, true, true, true, true, true, true, true, true, true, false, false, false] rfl rfl (take_ofW HT_.out HW_.out (by kernel_rfl)) (fun _ _ _ h => h) (Or.inl ⟨by rfl, ?_⟩) hHeld ?_ ?_
                        rotate_left
                        · rintro w' ⟨s0, s1, s2, s3, s4, s5⟩
                          go_simp
                          with_reducible rfl
                        rotate_left
                        · simp only [Act.put, List.setIfInBounds_toArray, List.set_cons_zero, List.set_cons_succ, i64_w, i32_w]
                          rfl
                        refine pure_ (i := 12) (N := some 59) (v := ?_) (a' := ?_) #[true, true, true, true, true, true, true, true, true, true, true, true, true, false, false] rfl rfl (any_of HT_.out (by kernel_rfl)) (fun _ _ _ h => h) (Or.inl ⟨by rfl, ?_⟩) ?_ ?_
                        rotate_left
                        · intro w'
                          go_simp
                          with_reducible rfl
                        rotate_left
                        · simp only [Act.put, List.setIfInBounds_toArray, List.set_cons_zero, List.set_cons_succ, i64_w, i32_w]
                          rfl
                        refine pure_ (i := 13) (N := some 60) (v := ?_) (a' := ?_) #[true, true, true, true, true, true, true, true, true, true, true, true, true, true, false] rfl rfl (any_of HT_.out (by kernel_rfl)) (fun _ _ _ h => h) (Or.inl ⟨by rfl, ?_⟩) ?_ ?_
                        rotate_left
                        · intro w'
                          go_simp
                          with_reducible rfl
                        rotate_left
                        · simp only [Act.put, List.setIfInBounds_toArray, List.set_cons_zero, List.set_cons_succ, i64_w, i32_w]
                          rfl
                        refine pure_ (i := 14) (N := some 10) (v := ?_) (a' := ?_) #[true, true, true, true, true, true, true, true, true, true, true, true, true, true, true] rfl rfl (any_of HT_.out (by kernel_rfl)) (fun _ _ _ h => h) (Or.inl ⟨by rfl, ?_⟩) ?_ ?_
                        rotate_left
                        · intro w'
                          go_simp
                          with_reducible rfl
                        rotate_left
                        · simp only [Act.put, List.setIfInBounds_toArray, List.set_cons_zero, List.set_cons_succ, i64_w, i32_w]
                          rfl
                        refine done_ (done_of HT_.out (by kernel_rfl)) ?_
                        try go_wp2
                        go_meet
                        case rel => exact ⟨_, (wrap64 (((rd_T30 t237 (ji22)).f2) + (((rd_T30 t237 (ji22)).f1).size : Int))), (wrap64 (1 + (Int.tmod (wrap64 (a1)) (t237.length : Int)))), (by first | rfl | (simp; done) | (simp only [← hji22] <;> (first | rfl | simp)) | (simp [*]; done)), (by first | rfl | (simp; done) | (simp [*]; done)), H', ⟨by have := HJ3.out; have := HJ13.out; first | omega | exact Nat.le_refl _⟩, ⟨by (with_reducible repeat (first | apply Kd.R_alloc | apply Kd.R_drewN | apply Kd.R_drew)); exact HO_7.out⟩, ⟨by repeat (first | (with_reducible first | exact HB.out | apply below_alloc | apply pw_below_drewN | apply below_drew1) | exact HB.out)⟩⟩
                      · rw [if_neg c24] at H
                        exact absurd H (by simp)
                    · rw [if_neg c23] at H
                      exact absurd H (by simp)
                · replace c20 := Bool.eq_false_iff.mpr c20
                  subst c20
                  have H1 : (cylinderlaw35_LexerBlanks.j2 kj13 a0 a2 t237 0 0) = some r := by rw [if_neg (show ¬ (false = true) by decide)] at H; exact H
                  clear H
                  have H := H1
                  clear H1
                  have H' := Aside0.mk H
                  clear H
                  go_wp2
                  go_meet
                  case rel => exact ⟨_, (0), (0), (by first | rfl | (simp; done) | (simp [*]; done)), (by first | rfl | (simp; done) | (simp [*]; done)), H', ⟨by have := HJ3.out; have := HJ13.out; first | omega | exact Nat.le_refl _⟩, ⟨by (with_reducible repeat (first | apply Kd.R_alloc | apply Kd.R_drewN | apply Kd.R_drew)); exact HO_7.out⟩, ⟨by repeat (first | (with_reducible first | exact HB.out | apply below_alloc | apply pw_below_drewN | apply below_drew1) | exact HB.out)⟩⟩
              case rest =>
                clear HC19
                try clear c1
                try clear c2
                try clear p2
                try clear q2
                try clear hx2
                try clear c5
                try clear c6
                try clear p6
                try clear c9
                try clear c12
                try clear c13
                try clear c13b0
                try clear c13b1
                try clear c16
                try clear c16b0
                try clear c16b1
                try clear c20
                try clear c21
                try clear c21b0
                try clear c21b1
                try clear c21b2
                try clear c23
                try clear c23b0
                try clear c24
                try clear c24b0
                try clear p24
                try clear q24
                try clear hx24
                try clear hx242_0
                try clear hx242_1
                try clear hx242_2
                try clear hx243_0
                try clear hx243_1
                try clear hx243_2
                try clear p2
                try clear p242
                try clear p243
                try clear q242
                try clear q243
                obtain ⟨kq, x10_18, x11_18, rfl, rfl, HA, HJ18, HO_7, HB⟩ := hcut
                cases kq with
                | zero => exact absurd HA.out (by simp [cylinderlaw35_LexerBlanks.j2])
                | succ kj18 =>
                  have H := HA.out
                  clear HA
                  simp only [cylinderlaw35_LexerBlanks.j2] at H
                  obtain ⟨y244, hy244⟩ : ∃ y_ : List Int, y_ = (([9, 10, 13, 32] : List Int)) := ⟨_, rfl⟩
                  replace H : (if 0 ≤ (Int.tmod a2 4) then (if (Int.tmod a2 4) < (y244.length : Int) then (if 0 ≤ x10_18 then (if x10_18 ≤ (a0.size : Int) then (if (a0.extract 0 (x10_18 : Int).toNat).size + (Utf8.encode (wrap32 (rd y244 (Int.tmod a2 4)))).size ≤ 9223372036854775807 then (if ((a0.extract 0 (x10_18 : Int).toNat) ++ (Utf8.encode (wrap32 (rd y244 (Int.tmod a2 4))))).size + (a0.extract (x10_18 : Int).toNat a0.size).size ≤ 9223372036854775807 then ((lexer_Lex.f (((a0.extract 0 (x10_18 : Int).toNat) ++ (Utf8.encode (wrap32 (rd y244 (Int.tmod a2 4))))) ++ (a0.extract (x10_18 : Int).toNat a0.size))).bind fun bt248 => (if bt248.2.2 = 0 then ((cylinderref35_Same.f kj18 t237 bt248.1 false).bind fun t253 => (cylinderlaw35_LexerBlanks.j3 kj18 t237 x11_18 bt248.1 (!t253))) else (cylinderlaw35_LexerBlanks.j3 kj18 t237 x11_18 bt248.1 true))) else (none)) else (none)) else (none)) else (none)) else (none)) else (none)) = some r := by first | (rw [hy244]; with_reducible exact H) | (have H2_ := (Option.bind_some _ _).symm.trans H; rw [hy244]; with_reducible exact H2_) | (have H2_ := (Option.bind_some _ _).symm.trans H; with_reducible exact H2_) | with_reducible exact H | (rw [hy244]; exact H) | exact H
                  have Ny244 := Aside0.mk hy244
                  clear hy244
                  obtain ⟨ji27, hji27⟩ : ∃ j_ : Int, (Int.tmod a2 4) = j_ := ⟨_, rfl⟩
                  replace H : (if 0 ≤ (ji27) then (if (ji27) < (y244.length : Int) then (if 0 ≤ x10_18 then (if x10_18 ≤ (a0.size : Int) then (if (a0.extract 0 (x10_18 : Int).toNat).size + (Utf8.encode (wrap32 (rd y244 (ji27)))).size ≤ 9223372036854775807 then (if ((a0.extract 0 (x10_18 : Int).toNat) ++ (Utf8.encode (wrap32 (rd y244 (ji27))))).size + (a0.extract (x10_18 : Int).toNat a0.size).size ≤ 9223372036854775807 then ((lexer_Lex.f (((a0.extract 0 (x10_18 : Int).toNat) ++ (Utf8.encode (wrap32 (rd y244 (ji27))))) ++ (a0.extract (x10_18 : Int).toNat a0.size))).bind fun bt248 => (if bt248.2.2 = 0 then ((cylinderref35_Same.f kj18 t237 bt248.1 false).bind fun t253 => (cylinderlaw35_LexerBlanks.j3 kj18 t237 x11_18 bt248.1 (!t253))) else (cylinderlaw35_LexerBlanks.j3 kj18 t237 x11_18 bt248.1 true))) else (none)) else (none)) else (none)) else (none)) else (none)) else (none)) = some r := by first | (rw [hji27] at H; exact H) | (simp only [hji27] at H ⊢; exact H)
                  by_cases c28 : 0 ≤ (ji27)
                  · rw [if_pos c28] at H
                    have c28b0 : decide (0 ≤ (ji27)) = true := decide_eq_true c28
                    clear c28
                    by_cases c29 : (ji27) < (y244.length : Int)
                    · rw [if_pos c29] at H
                      have c29b0 : decide ((ji27) < (y244.length : Int)) = true := decide_eq_true c29
                      clear c29
                      by_cases c30 : 0 ≤ x10_18
                      · rw [if_pos c30] at H
                        have c30b0 := eq_true c30
                        have c30b1 : decide (0 ≤ x10_18) = true := decide_eq_true c30
                        clear c30
                        by_cases c31 : x10_18 ≤ (a0.size : Int)
                        · rw [if_pos c31] at H
                          have c31b0 := eq_true c31
                          have c31b1 : decide (x10_18 ≤ (a0.size : Int)) = true := decide_eq_true c31
                          clear c31
                          by_cases c32 : (a0.extract 0 (x10_18 : Int).toNat).size + (Utf8.encode (wrap32 (rd y244 (ji27)))).size ≤ 9223372036854775807
                          · rw [if_pos c32] at H
                            have c32b0 := eq_true c32
                            have c32b1 : decide ((a0.extract 0 (x10_18 : Int).toNat).size + (Utf8.encode (wrap32 (rd y244 (ji27)))).size ≤ 9223372036854775807) = true := decide_eq_true c32
                            try have c32b2 : (9223372036854775807 < (a0.extract 0 (x10_18 : Int).toNat).size + (Utf8.encode (wrap32 (rd y244 (ji27)))).size) = False := eq_false (Nat.not_lt.2 c32)
                            have c32b3 : (9223372036854775807 < x10_18.toNat + (Utf8.encode (wrap32 (rd y244 (ji27)))).size) = False := by
                              have h_ : (a0.extract 0 (x10_18 : Int).toNat).size = x10_18.toNat := by
                                have := of_decide_eq_true (show decide (x10_18 ≤ (a0.size : Int)) = true by with_reducible assumption)
                                rw [ByteArray.size_extract]; omega
                              simpa only [h_] using c32b2
                            have c33b0 := eq_true (of_decide_eq_true (by first | (with_reducible assumption) | assumption) : 0 ≤ x10_18)
                            have c34b0 := eq_true (of_decide_eq_true (by first | (with_reducible assumption) | assumption) : x10_18 ≤ (a0.size : Int))
                            by_cases c35 : ((a0.extract 0 (x10_18 : Int).toNat) ++ (Utf8.encode (wrap32 (rd y244 (ji27))))).size + (a0.extract (x10_18 : Int).toNat a0.size).size ≤ 9223372036854775807
                            · rw [if_pos c35] at H
                              have c35b0 := eq_true c35
                              have c35b1 : decide (((a0.extract 0 (x10_18 : Int).toNat) ++ (Utf8.encode (wrap32 (rd y244 (ji27))))).size + (a0.extract (x10_18 : Int).toNat a0.size).size ≤ 9223372036854775807) = true := decide_eq_true c35
                              try have c35b2 : (9223372036854775807 < ((a0.extract 0 (x10_18 : Int).toNat) ++ (Utf8.encode (wrap32 (rd y244 (ji27))))).size + (a0.extract (x10_18 : Int).toNat a0.size).size) = False := eq_false (Nat.not_lt.2 c35)
                              have c35b3 : (9223372036854775807 < x10_18.toNat + (Utf8.encode (wrap32 (rd y244 (ji27)))).size + (a0.size - x10_18.toNat)) = False := by
                                have h_ : (a0.extract 0 (x10_18 : Int).toNat).size = x10_18.toNat := by
                                  have := of_decide_eq_true (show decide (x10_18 ≤ (a0.size : Int)) = true by with_reducible assumption)
                                  rw [ByteArray.size_extract]; omega
                                have g_ : (a0.extract (x10_18 : Int).toNat a0.size).size = a0.size - x10_18.toNat := by
                                  rw [ByteArray.size_extract]; omega
                                simpa only [ByteArray.size_append, h_, g_] using c35b2
                              replace H := Option.bind_eq_some_iff.mp H
                              obtain ⟨⟨t248, t249, t250⟩, A360, H⟩ := H
                              replace H : (if t250 = 0 then ((cylinderref35_Same.f kj18 t237 t248 false).bind fun t253 => (cylinderlaw35_LexerBlanks.j3 kj18 t237 x11_18 t248 (!t253))) else (cylinderlaw35_LexerBlanks.j3 kj18 t237 x11_18 t248 true)) = some r := H
                              have A36 := Aside0.mk A360
                              clear A360
                              have HC37 := Aside0.mk H
                              clear H
                              try go_wp2_with (first | ((with_reducible refine gate_dst (N := 61) rfl ?_); (try (refine gate_guard (by rfl) ?_; dsimp only)); refine Kd.R_lit (Kd.int .u8) _ 5 ?hg (N := 61) ?hd (xs := ([9, 10, 13, 32] : List Int)) (inner := [.int .u8 9, .int .u8 10, .int .u8 13, .int .u8 32]) (ok := fun _ => True) (okp := fun _ => True) ?hr ?hp (fun _ hk => hk) trivial (Below.refl _ _) (Nat.le_refl _) (by simp) ?_; (case hd => rfl); (case hg => rfl); (case hr => first | (go_simp; done) | (go_simp; rfl)); (case hp => exact (Reps.one (show Kd.M (Kd.int .u8) _ _ _ 9 [.int .u8 9] from rfl) (Reps.one (show Kd.M (Kd.int .u8) _ _ _ 10 [.int .u8 10] from rfl) (Reps.one (show Kd.M (Kd.int .u8) _ _ _ 13 [.int .u8 13] from rfl) (Reps.one (show Kd.M (Kd.int .u8) _ _ _ 32 [.int .u8 32] from rfl) (Reps.none _ _)))))); intro v245 w38 ho39 hb hg_ hnew_; clear hg_ hnew_; (first | rw [← Ny244.out] at ho39 | (simp only [Int.reduceToNat] at ho39; rw [← Ny244.out] at ho39)); have n0_ := Aside0.mk (Kd.R_below (by (with_reducible repeat (first | apply Kd.R_alloc | apply Kd.R_drewN | apply Kd.R_drew)); exact HO_7.out) hb); have n1_ := Aside0.mk (Kd.R_lower ho39 (below_size (by repeat (first | (with_reducible first | exact HB.out | apply below_alloc | apply pw_below_drewN | apply below_drew1) | exact HB.out)))); have n2_ := Aside0.mk (below_step (by repeat (first | (with_reducible first | exact HB.out | apply below_alloc | apply pw_below_drewN | apply below_drew1) | exact HB.out)) hb); clear HO_7; clear HB; have HO_7 := n0_; have HO246 := n1_; have HB := n2_; clear n0_ n1_ n2_; clear hb ho39; obtain ⟨Ao40, co40, eo40⟩ := Kd.R_slice HO246.out; subst eo40; have p247 : 0 ≤ ((ji27) : Int) := of_decide_eq_true (by first | (with_reducible assumption) | assumption); have q247 : (ji27) < (y244.length : Int) := of_decide_eq_true (by first | (with_reducible assumption) | assumption); obtain ⟨ad247, e247, hx247_0⟩ := Kd.at_int (Kd.R_reads' HO246.out).2.2 (ji27) p247 q247; cases e247; replace p247 := eq_true p247; replace q247 := eq_true q247))
                              have n0_ := Aside0.mk (Kd.R_drew HO_7.out)
                              have n1_ := Aside0.mk (Kd.R_drew HO246.out)
                              have n2_ := Aside0.mk (below_drew1 HB.out)
                              clear HO_7
                              clear HO246
                              clear HB
                              have HO_7 := n0_
                              have HO246 := n1_
                              have HB := n2_
                              clear n0_ n1_ n2_
                              refine start_ (n := 19) (S := fun w' => True) (ds := []) #[false, false, false, false, false, false, false, false, false, false, false, false, false, false, false, false, false, false, false] (by kernel_rfl) rfl rfl trivial (fun hHeld => ?_); refine with_tabW cylinderlaw35_LexerBlanks.tab12 cylinderlaw35_LexerBlanks.bits12 (fun HT_ HW_ => ?_)
                              generalize w38.drew = w41 at HO_7 HO246 HB hHeld ⊢
                              refine pure_ (i := 0) (N := some 67) (v := ?_) (a' := ?_) #[true, false, false, false, false, false, false, false, false, false, false, false, false, false, false, false, false, false, false] rfl rfl (any_of HT_.out (by kernel_rfl)) (fun _ _ _ h => h) (Or.inl ⟨by rfl, ?_⟩) ?_ ?_
                              rotate_left
                              · intro w'
                                go_simp
                                with_reducible rfl
                              rotate_left
                              · simp only [Act.put, List.setIfInBounds_toArray, List.set_cons_zero, List.set_cons_succ, i64_w, i32_w]
                                rfl
                              refine pure_ (i := 1) (N := some 68) (v := ?_) (a' := ?_) #[true, true, false, false, false, false, false, false, false, false, false, false, false, false, false, false, false, false, false] rfl rfl (any_of HT_.out (by kernel_rfl)) (fun _ _ _ h => h) (Or.inl ⟨by rfl, ?_⟩) ?_ ?_
                              rotate_left
                              · intro w'
                                go_simp
                                with_reducible rfl
                              rotate_left
                              · simp only [Act.put, List.setIfInBounds_toArray, List.set_cons_zero, List.set_cons_succ, i64_w, i32_w]
                                rfl
                              refine pure_ (i := 2) (N := some 69) (v := ?_) (a' := ?_) #[true, true, true, false, false, false, false, false, false, false, false, false, false, false, false, false, false, false, false] rfl rfl (any_of HT_.out (by kernel_rfl)) (fun _ _ _ h => h) (Or.inl ⟨by rfl, ?_⟩) ?_ ?_
                              rotate_left
                              · intro w'
                                go_simp
                                with_reducible rfl
                              rotate_left
                              · simp only [Act.put, List.setIfInBounds_toArray, List.set_cons_zero, List.set_cons_succ, i64_w, i32_w]
                                rfl
                              refine pure_ (i := 3) (N := some 70) (v := ?_) (a' := ?_) #[true, true, true, true, false, false, false, false, false, false, false, false, false, false, false, false, false, false, false] rfl rfl (any_of HT_.out (by kernel_rfl)) (fun _ _ _ h => h) (Or.inl ⟨by rfl, ?_⟩) ?_ ?_
                              rotate_left
                              · intro w'
                                go_simp
                                with_reducible rfl
                              rotate_left
                              · simp only [Act.put, List.setIfInBounds_toArray, List.set_cons_zero, List.set_cons_succ, i64_w, i32_w]
                                rfl
                              refine pure_ (i := 4) (N := some 71) (v := ?_) (a' := ?_) #[true, true, true, true, true, false, false, false, false, false, false, false, false, false, false, false, false, false, false] rfl rfl (any_of HT_.out (by kernel_rfl)) (fun _ _ _ h => h) (Or.inl ⟨by rfl, ?_⟩) ?_ ?_
                              rotate_left
                              · intro w'
                                go_simp
                                with_reducible rfl
                              rotate_left
                              · simp only [Act.put, List.setIfInBounds_toArray, List.set_cons_zero, List.set_cons_succ, i64_w, i32_w]
                                rfl
                              refine pure_ (i := 5) (N := some 72) (v := ?_) (a' := ?_) #[true, true, true, true, true, true, false, false, false, false, false, false, false, false, false, false, false, false, false] rfl rfl (any_of HT_.out (by kernel_rfl)) (fun _ _ _ h => h) (Or.inl ⟨by rfl, ?_⟩) ?_ ?_
                              rotate_left
                              · intro w'
                                go_simp
                                with_reducible rfl
                              rotate_left
                              · simp only [Act.put, List.setIfInBounds_toArray, List.set_cons_zero, List.set_cons_succ, i64_w, i32_w]
                                rfl
                              refine pure_ (i := 6) (N := some 73) (v := ?_) (a' := ?_) #[true, true, true, true, true, true, true, false, false, false, false, false, false, false, false, false, false, false, false] rfl rfl (any_of HT_.out (by kernel_rfl)) (fun _ _ _ h => h) (Or.inl ⟨by rfl, ?_⟩) ?_ ?_
                              rotate_left
                              · intro w'
                                go_simp
                                with_reducible rfl
                              rotate_left
                              · simp only [Act.put, List.setIfInBounds_toArray, List.set_cons_zero, List.set_cons_succ, i64_w, i32_w]
                                rfl
                              refine pure_ (i := 7) (N := some 74) (v := ?_) (a' := ?_) #[true, true, true, true, true, true, true, true, false, false, false, false, false, false, false, false, false, false, false] rfl rfl (any_of HT_.out (by kernel_rfl)) (fun _ _ _ h => h) (Or.inl ⟨by rfl, ?_⟩) ?_ ?_
                              rotate_left
                              · intro w'
                                go_simp
                                with_reducible rfl
                              rotate_left
                              · simp only [Act.put, List.setIfInBounds_toArray, List.set_cons_zero, List.set_cons_succ, i64_w, i32_w]
                                rfl
                              refine pure_ (i := 8) (N := some 75) (v := ?_) (a' := ?_) #[true, true, true, true, true, true, true, true, true, false, false, false, false, false, false, false, false, false, false] rfl rfl (any_of HT_.out (by kernel_rfl)) (fun _ _ _ h => h) (Or.inl ⟨by rfl, ?_⟩) ?_ ?_
                              rotate_left
                              · intro w'
                                go_simp
                                with_reducible rfl
                              rotate_left
                              · simp only [Act.put, List.setIfInBounds_toArray, List.set_cons_zero, List.set_cons_succ, i64_w, i32_w]
                                rfl
                              refine pure_ (i := 9) (N := some 76) (v := ?_) (a' := ?_) #[true, true, true, true, true, true, true, true, true, true, false, false, false, false, false, false, false, false, false] rfl rfl (any_of HT_.out (by kernel_rfl)) (fun _ _ _ h => h) (Or.inl ⟨by rfl, ?_⟩) ?_ ?_
                              rotate_left
                              · intro w'
                                go_simp
                                with_reducible rfl
                              rotate_left
                              · simp only [Act.put, List.setIfInBounds_toArray, List.set_cons_zero, List.set_cons_succ, i64_w, i32_w]
                                rfl
                              refine pure_ (i := 10) (N := some 77) (v := ?_) (a' := ?_) #[true, true, true, true, true, true, true, true, true, true, true, false, false, false, false, false, false, false, false] rfl rfl (any_of HT_.out (by kernel_rfl)) (fun _ _ _ h => h) (Or.inl ⟨by rfl, ?_⟩) ?_ ?_
                              rotate_left
                              · intro w'
                                go_simp
                                with_reducible rfl
                              rotate_left
                              · simp only [Act.put, List.setIfInBounds_toArray, List.set_cons_zero, List.set_cons_succ, i64_w, i32_w]
                                rfl
                              refine one_ (i := 11) (N := some 78) #[true, true, true, true, true, true, true, true, true, true, true, true, false, false, false, false, false, false, false] rfl rfl (one_of HT_.out (by kernel_rfl)) (by decide) (fun K hK => ?_)
                              refine goes_ Try.func13 (by kernel_rfl) rfl #[.string (((a0.extract 0 (x10_18 : Int).toNat) ++ (Utf8.encode (wrap32 (rd y244 (ji27))))) ++ (a0.extract (x10_18 : Int).toNat a0.size))] (by rfl) rfl rfl (by (try simp only [List.map_toArray, List.map_cons, List.map_nil]); first | done | (simp only [hji27]; rfl) | rfl | (simp only [List.length_drop, List.length_take]; rfl)) ?_
                              with_reducible refine (lexer_Lex.calls (((a0.extract 0 (x10_18 : Int).toNat) ++ (Utf8.encode (wrap32 (rd y244 (ji27))))) ++ (a0.extract (x10_18 : Int).toNat a0.size)) t248 t249 t250 _ A36.out).mono ?_
                              rintro e w42 ⟨v251, rfl, ho0, hb⟩
                              refine ⟨_, rfl, ?_⟩
                              have n0_ := Aside0.mk (Kd.R_elder' (by (with_reducible repeat (first | apply Kd.R_alloc | apply Kd.R_drewN | apply Kd.R_drew)); exact HO_7.out) (Kd.R_base ho0) hb)
                              have n1_ := Aside0.mk (Kd.R_below (by (with_reducible repeat (first | apply Kd.R_alloc | apply Kd.R_drewN | apply Kd.R_drew)); exact HO246.out) hb)
                              have n2_ := Aside0.mk (Kd.R_lower (Kd.R_new' ho0 (Kd.R_lt (by (with_reducible repeat (first | apply Kd.R_alloc | apply Kd.R_drewN | apply Kd.R_drew)); exact HO_7.out))) (below_size (by repeat (first | (with_reducible first | exact HB.out | apply below_alloc | apply pw_below_drewN | apply below_drew1) | exact HB.out))))
                              have n3_ := Aside0.mk (below_step (by repeat (first | (with_reducible first | exact HB.out | apply below_alloc | apply pw_below_drewN | apply below_drew1) | exact HB.out)) hb)
                              clear HO_7
                              clear HO246
                              clear HB
                              have HO_7 := n0_
                              have HO246 := n1_
                              have HO252 := n2_
                              have HB := n3_
                              clear n0_ n1_ n2_ n3_
                              (try clear hb)
                              (try clear hb2)
                              (try clear hk)
                              (try clear hi)
                              (try clear ho0)
                              refine hK.out _ _ trivial (fun hHeld => ?_)
                              clear hK K
                              refine norm_ (a' := ?_) ?_ ?_
                              rotate_left
                              · show Act.put _ (some 78) _ = _
                                simp only [Act.put, List.setIfInBounds_toArray, List.set_cons_zero, List.set_cons_succ, i64_w, i32_w]
                                rfl
                              refine pure_ (i := 12) (N := some 66) (v := ?_) (a' := ?_) #[true, true, true, true, true, true, true, true, true, true, true, true, true, false, false, false, false, false, false] rfl rfl (any_of HT_.out (by kernel_rfl)) (fun _ _ _ h => h) (Or.inl ⟨by rfl, ?_⟩) ?_ ?_
                              rotate_left
                              · intro w'
                                go_simp
                                with_reducible rfl
                              rotate_left
                              · simp only [Act.put, List.setIfInBounds_toArray, List.set_cons_zero, List.set_cons_succ, i64_w, i32_w]
                                rfl
                              refine pure_ (i := 13) (N := some 79) (v := ?_) (a' := ?_) #[true, true, true, true, true, true, true, true, true, true, true, true, true, true, false, false, false, false, false] rfl rfl (any_of HT_.out (by kernel_rfl)) (fun _ _ _ h => h) (Or.inl ⟨by rfl, ?_⟩) ?_ ?_
                              rotate_left
                              · intro w'
                                go_simp
                                with_reducible rfl
                              rotate_left
                              · simp only [Act.put, List.setIfInBounds_toArray, List.set_cons_zero, List.set_cons_succ, i64_w, i32_w]
                                rfl
                              refine pure_ (i := 14) (N := some 80) (v := ?_) (a' := ?_) #[true, true, true, true, true, true, true, true, true, true, true, true, true, true, true, false, false, false, false] rfl rfl (any_of HT_.out (by kernel_rfl)) (fun _ _ _ h => h) (Or.inl ⟨by rfl, ?_⟩) ?_ ?_
                              rotate_left
                              · intro w'
                                go_simp
                                with_reducible rfl
                              rotate_left
                              · simp only [Act.put, List.setIfInBounds_toArray, List.set_cons_zero, List.set_cons_succ, i64_w, i32_w]
                                rfl
                              refine pure_ (i := 15) (N := some 81) (v := ?_) (a' := ?_) #[true, true, true, true, true, true, true, true, true, true, true, true, true, true, true, true, false, false, false] rfl rfl (any_of HT_.out (by kernel_rfl)) (fun _ _ _ h => h) (Or.inl ⟨by rfl, ?_⟩) ?_ ?_
                              rotate_left
                              · intro w'
                                go_simp
                                with_reducible rfl
                              rotate_left
                              · simp only [Act.put, List.setIfInBounds_toArray, List.set_cons_zero, List.set_cons_succ, i64_w, i32_w]
                                rfl
                              refine pure_ (i := 16) (N := some 13) (v := ?_) (a' := ?_) #[true, true, true, true, true, true, true, true, true, true, true, true, true, true, true, true, true, false, false] rfl rfl (any_of HT_.out (by kernel_rfl)) (fun _ _ _ h => h) (Or.inl ⟨by rfl, ?_⟩) ?_ ?_
                              rotate_left
                              · intro w'
                                go_simp
                                with_reducible rfl
                              rotate_left
                              · simp only [Act.put, List.setIfInBounds_toArray, List.set_cons_zero, List.set_cons_succ, i64_w, i32_w]
                                rfl
                              refine pure_ (i := 17) (N := some 14) (v := ?_) (a' := ?_) #[true, true, true, true, true, true, true, true, true, true, true, true, true, true, true, true, true, true, false] rfl rfl (any_of HT_.out (by kernel_rfl)) (fun _ _ _ h => h) (Or.inl ⟨by rfl, ?_⟩) ?_ ?_
                              rotate_left
                              · intro w'
                                go_simp
                                with_reducible rfl
                              rotate_left
                              · simp only [Act.put, List.setIfInBounds_toArray, List.set_cons_zero, List.set_cons_succ, i64_w, i32_w]
                                rfl
                              refine pure_ (i := 18) (N := some 15) (v := ?_) (a' := ?_) #[true, true, true, true, true, true, true, true, true, true, true, true, true, true, true, true, true, true, true] rfl rfl (any_of HT_.out (by kernel_rfl)) (fun _ _ _ h => h) (Or.inl ⟨by rfl, ?_⟩) ?_ ?_
                              rotate_left
                              · intro w'
                                go_simp
                                with_reducible rfl
                              rotate_left
                              · simp only [Act.put, List.setIfInBounds_toArray, List.set_cons_zero, List.set_cons_succ, i64_w, i32_w]
                                rfl
                              refine done_ (done_of HT_.out (by kernel_rfl)) ?_
                              go_upto_region 13 with (fail)
                              go_cut [89] (fun v89 wc => ∃ (kq : Nat) (x89_36 : Bool), v89 = .bool x89_36 ∧ Aside0 (cylinderlaw35_LexerBlanks.j3 kq t237 x11_18 t248 x89_36 = some r) ∧ Aside0 (kq ≤ kj18) ∧ Aside0 (Kd.R k30 30 wc w.heap.size (fun k_ => some k_ ≠ (v251 : Value).ownBlock) v240 t237) ∧ Aside0 (Kd.R k30 30 wc w.heap.size (fun k_ => some k_ ≠ (v240 : Value).ownBlock) v251 t248) ∧ Aside0 (Below w.heap.size w wc))
                              case first =>
                                have H := HC37.out
                                clear HC37
                                by_cases c43 : t250 = 0
                                · rw [if_pos c43] at H
                                  have c43b0 : (t250 == 0) = true := beq_iff_eq.mpr c43
                                  have c43b1 : (t250 != 0) = false := bne_eq_false_iff_eq.mpr c43
                                  clear c43
                                  (first | rw [c43b0] | (simp only [i64_w, i32_w]; rw [c43b0]) | skip)
                                  replace H := Option.bind_eq_some_iff.mp H
                                  obtain ⟨t253, A440, H⟩ := H
                                  replace H : (cylinderlaw35_LexerBlanks.j3 kj18 t237 x11_18 t248 (!t253)) = some r := H
                                  have A44 := Aside0.mk A440
                                  clear A440
                                  have H' := Aside0.mk H
                                  clear H
                                  obtain ⟨Ao45, co45, eo45⟩ := Kd.R_slice HO_7.out
                                  subst eo45
                                  obtain ⟨Ao46, co46, eo46⟩ := Kd.R_slice HO252.out
                                  subst eo46
                                  go_wp2_with (first | (go_at_call 15; (with_reducible refine (cylinderref35_Same.calls kj18 _ _ t237 _ _ t248 false t253 _ ?side1 ?side2 ?side3 ?side4 A44.out).mono ?_); (case side1 => repeat (first | exact (Kd.R_reads' HO_7.out).2.2 | (with_reducible refine Kd.C_alloc ?_ _) | (with_reducible refine Kd.C_drewN ?_ _) | (with_reducible refine Kd.C_drew ?_))); (case side2 => exact (Kd.R_reads' HO_7.out).2.1); (case side3 => repeat (first | exact (Kd.R_reads' HO252.out).2.2 | (with_reducible refine Kd.C_alloc ?_ _) | (with_reducible refine Kd.C_drewN ?_ _) | (with_reducible refine Kd.C_drew ?_))); (case side4 => exact (Kd.R_reads' HO252.out).2.1); rintro e w' ⟨rfl, ⟨nd, rfl⟩⟩))
                                  go_meet
                                  case rel => exact ⟨_, (!t253), (by first | rfl | (simp; done) | (simp [*]; done)), H', ⟨by have := HJ3.out; have := HJ13.out; have := HJ18.out; first | omega | exact Nat.le_refl _⟩, ⟨by (with_reducible repeat (first | apply Kd.R_alloc | apply Kd.R_drewN | apply Kd.R_drew)); exact Kd.R_mono HO_7.out (fun _ hk => hk.2)⟩, ⟨by (with_reducible repeat (first | apply Kd.R_alloc | apply Kd.R_drewN | apply Kd.R_drew)); exact Kd.R_mono HO252.out (fun _ hk => hk.2)⟩, ⟨by repeat (first | (with_reducible first | exact HB.out | apply below_alloc | apply pw_below_drewN | apply below_drew1) | exact HB.out)⟩⟩
                                · rw [if_neg c43] at H
                                  have c43b0 : (t250 == 0) = false := beq_eq_false_iff_ne.mpr c43
                                  have c43b1 : (t250 != 0) = true := bne_iff_ne.mpr c43
                                  (first | rw [c43b0] | (simp only [i64_w, i32_w]; rw [c43b0]) | skip)
                                  have H' := Aside0.mk H
                                  clear H
                                  go_wp2
                                  go_meet
                                  case rel => exact ⟨_, (true), (by first | rfl | (simp; done) | (simp [*]; done)), H', ⟨by have := HJ3.out; have := HJ13.out; have := HJ18.out; first | omega | exact Nat.le_refl _⟩, ⟨by (with_reducible repeat (first | apply Kd.R_alloc | apply Kd.R_drewN | apply Kd.R_drew)); exact Kd.R_mono HO_7.out (fun _ hk => hk.2)⟩, ⟨by (with_reducible repeat (first | apply Kd.R_alloc | apply Kd.R_drewN | apply Kd.R_drew)); exact Kd.R_mono HO252.out (fun _ hk => hk.2)⟩, ⟨by repeat (first | (with_reducible first | exact HB.out | apply below_alloc | apply pw_below_drewN | apply below_drew1) | exact HB.out)⟩⟩
                              case rest =>
                                clear HC37
                                try clear c1
                                try clear c2
                                try clear p2
                                try clear q2
                                try clear hx2
                                try clear c3
                                try clear p3
                                try clear c4
                                try clear c5
                                try clear c6
                                try clear p6
                                try clear c9
                                try clear c12
                                try clear c13
                                try clear c13b0
                                try clear c13b1
                                try clear c16
                                try clear c16b0
                                try clear c16b1
                                try clear c20
                                try clear c21
                                try clear c21b0
                                try clear c21b1
                                try clear c21b2
                                try clear c23
                                try clear c23b0
                                try clear c24
                                try clear c24b0
                                try clear p24
                                try clear q24
                                try clear hx24
                                try clear c28
                                try clear c28b0
                                try clear c29
                                try clear c29b0
                                try clear c30
                                try clear c30b0
                                try clear c30b1
                                try clear c31
                                try clear c31b0
                                try clear c31b1
                                try clear c32
                                try clear c32b0
                                try clear c32b1
                                try clear c32b2
                                try clear p32
                                try clear c33
                                try clear c33b0
                                try clear c34
                                try clear c34b0
                                try clear c35
                                try clear c35b0
                                try clear c35b1
                                try clear c35b2
                                try clear c43
                                try clear c43b0
                                try clear c43b1
                                try clear hx242_0
                                try clear hx242_1
                                try clear hx242_2
                                try clear hx243_0
                                try clear hx243_1
                                try clear hx243_2
                                try clear hx247_0
                                try clear p2
                                try clear p24
                                try clear p242
                                try clear p243
                                try clear p247
                                try clear p6
                                try clear q2
                                try clear q24
                                try clear q242
                                try clear q243
                                try clear q247
                                obtain ⟨kq, x89_36, rfl, HA, HJ36, HO_7, HO_13, HB⟩ := hcut
                                cases kq with
                                | zero => exact absurd HA.out (by simp [cylinderlaw35_LexerBlanks.j3])
                                | succ kj36 =>
                                  have H := HA.out
                                  clear HA
                                  simp only [cylinderlaw35_LexerBlanks.j3] at H
                                  by_cases c47 : x89_36 = true
                                  · subst c47
                                    have H1 : (some false) = some r := by rw [if_pos rfl] at H; exact H
                                    clear H
                                    have H := H1
                                    clear H1
                                    obtain rfl := Option.some.inj H
                                    go_wp2
                                    go_ret
                                    exact ⟨by first | rfl | (simp [errW_none, errW_some] <;> rfl) | (simp only [← hji27]; first | rfl | (simp [errW_none, errW_some] <;> rfl)) | (simp [*, errW_none, errW_some] <;> rfl), by repeat (first | (with_reducible first | exact HB.out | apply below_alloc | apply pw_below_drewN | apply below_drew1) | exact HB.out)⟩
                                  · replace c47 := Bool.eq_false_iff.mpr c47
                                    subst c47
                                    have H1 : (cylinderlaw35_LexerBlanks.l0 kj36 t237 x11_18 t248 (t237.length : Int) 0) = some r := by rw [if_neg (show ¬ (false = true) by decide)] at H; exact H
                                    clear H
                                    have H := H1
                                    clear H1
                                    have H' := Aside0.mk H
                                    clear H
                                    obtain ⟨Ao48, co48, eo48⟩ := Kd.R_slice HO_7.out
                                    subst eo48
                                    go_wp2
                                    go_loopg [92] kj36 (fun kq v92 w' => ∃ (x92_5 : Int), v92 = .int .i64 x92_5 ∧ Aside0 (cylinderlaw35_LexerBlanks.l0 kq t237 x11_18 t248 (t237.length : Int) x92_5 = some r) ∧ Aside0 (kq ≤ kj36) ∧ Aside0 (Kd.R k30 30 w' w.heap.size (fun k_ => some k_ ≠ (v251 : Value).ownBlock) (.slice Ao48 t237.length co48) t237) ∧ Aside0 (Kd.R k30 30 w' w.heap.size (fun k_ => some k_ ≠ ((.slice Ao48 t237.length co48) : Value).ownBlock) v251 t248) ∧ Aside0 (Below w.heap.size w w'))
                                    case atStart => exact ⟨(0), (by first | rfl | (simp; done) | (simp [*]; done)), H', ⟨Nat.le_refl _⟩, ⟨by (with_reducible repeat (first | apply Kd.R_alloc | apply Kd.R_drewN | apply Kd.R_drew)); exact HO_7.out⟩, ⟨by (with_reducible repeat (first | apply Kd.R_alloc | apply Kd.R_drewN | apply Kd.R_drew)); exact HO_13.out⟩, ⟨by repeat (first | (with_reducible first | exact HB.out | apply below_alloc | apply pw_below_drewN | apply below_drew1) | exact HB.out)⟩⟩
                                    case round =>
                                      clear H'
                                      try clear c1
                                      try clear c2
                                      try clear p2
                                      try clear q2
                                      try clear hx2
                                      try clear c3
                                      try clear p3
                                      try clear c4
                                      try clear c5
                                      try clear c6
                                      try clear p6
                                      try clear c9
                                      try clear c12
                                      try clear c13
                                      try clear c13b0
                                      try clear c13b1
                                      try clear c16
                                      try clear c16b0
                                      try clear c16b1
                                      try clear c20
                                      try clear c21
                                      try clear c21b0
                                      try clear c21b1
                                      try clear c21b2
                                      try clear c23
                                      try clear c23b0
                                      try clear c24
                                      try clear c24b0
                                      try clear p24
                                      try clear q24
                                      try clear hx24
                                      try clear c28
                                      try clear c28b0
                                      try clear c29
                                      try clear c29b0
                                      try clear c30
                                      try clear c30b0
                                      try clear c30b1
                                      try clear c31
                                      try clear c31b0
                                      try clear c31b1
                                      try clear c32
                                      try clear c32b0
                                      try clear c32b1
                                      try clear c32b2
                                      try clear p32
                                      try clear c33
                                      try clear c33b0
                                      try clear c34
                                      try clear c34b0
                                      try clear c35
                                      try clear c35b0
                                      try clear c35b1
                                      try clear c35b2
                                      try clear c43
                                      try clear c43b0
                                      try clear c43b1
                                      try clear c47
                                      try clear hx242_0
                                      try clear hx242_1
                                      try clear hx242_2
                                      try clear hx243_0
                                      try clear hx243_1
                                      try clear hx243_2
                                      try clear hx247_0
                                      try clear p2
                                      try clear p24
                                      try clear p242
                                      try clear p243
                                      try clear p247
                                      try clear p3
                                      try clear p32
                                      try clear p6
                                      try clear q2
                                      try clear q24
                                      try clear q242
                                      try clear q243
                                      try clear q247
                                      obtain ⟨x92_5, rfl, HA, HK5, HO_7, HO_13, HB⟩ := hrel
                                      cases gk with
                                      | zero => exact absurd HA.out (by simp [cylinderlaw35_LexerBlanks.l0])
                                      | succ k5 =>
                                        have H := HA.out
                                        clear HA
                                        simp only [cylinderlaw35_LexerBlanks.l0] at H
                                        by_cases c49 : x92_5 < (t237.length : Int)
                                        · rw [if_pos c49] at H
                                          have c49b0 : decide (x92_5 < (t237.length : Int)) = true := decide_eq_true c49
                                          clear c49
                                          by_cases c50 : x92_5 ≥ x11_18
                                          · rw [if_pos c50] at H
                                            have c50b0 : decide (x11_18 ≤ x92_5) = true := decide_eq_true c50
                                            clear c50
                                            by_cases c51 : 0 ≤ x92_5
                                            · rw [if_pos c51] at H
                                              have c51b0 : decide (0 ≤ x92_5) = true := decide_eq_true c51
                                              clear c51
                                              by_cases c52 : x92_5 < (t248.length : Int)
                                              · rw [if_pos c52] at H
                                                have c52b0 : decide (x92_5 < (t248.length : Int)) = true := decide_eq_true c52
                                                clear c52
                                                by_cases c53 : x92_5 < (t237.length : Int)
                                                · rw [if_pos c53] at H
                                                  have c53b0 : decide (x92_5 < (t237.length : Int)) = true := decide_eq_true c53
                                                  clear c53
                                                  by_cases c54 : ((rd_T30 t248 x92_5).f2) = (wrap64 (((rd_T30 t237 x92_5).f2) + 1))
                                                  · rw [if_pos c54] at H
                                                    have c54b0 : (((rd_T30 t248 x92_5).f2) == (wrap64 (((rd_T30 t237 x92_5).f2) + 1))) = true := beq_iff_eq.mpr c54
                                                    have c54b1 : (((rd_T30 t248 x92_5).f2) != (wrap64 (((rd_T30 t237 x92_5).f2) + 1))) = false := bne_eq_false_iff_eq.mpr c54
                                                    clear c54
                                                    have H' := Aside0.mk H
                                                    clear H
                                                    try go_wp2
                                                    have n0_ := Aside0.mk (Kd.R_drew HO_7.out)
                                                    have n1_ := Aside0.mk (Kd.R_drew HO_13.out)
                                                    have n2_ := Aside0.mk (below_drew1 HB.out)
                                                    clear HO_7
                                                    clear HO_13
                                                    clear HB
                                                    have HO_7 := n0_
                                                    have HO_13 := n1_
                                                    have HB := n2_
                                                    clear n0_ n1_ n2_
                                                    obtain ⟨Ao56, co56, eo56⟩ := Kd.R_slice HO_13.out
                                                    (first | subst eo56 | (injection eo56 with f1_ f2_ f3_; have f4_ := f1_.symm; have f5_ := f3_.symm; clear f1_ f2_ f3_; subst f4_; subst f5_))
                                                    have p254 : 0 ≤ (x92_5 : Int) := of_decide_eq_true (by first | (with_reducible assumption) | assumption)
                                                    have q254 : x92_5 < (t248.length : Int) := of_decide_eq_true (by first | (with_reducible assumption) | assumption)
                                                    obtain ⟨ad254, e254, hx254_0, hx254_1, hx254_2⟩ := at_T30 (Kd.R_reads' HO_13.out).2.2 x92_5 p254 q254
                                                    cases e254
                                                    replace p254 := eq_true p254
                                                    replace q254 := eq_true q254
                                                    have p255 : 0 ≤ (x92_5 : Int) := of_decide_eq_true (by first | (with_reducible assumption) | assumption)
                                                    have q255 : x92_5 < (t237.length : Int) := of_decide_eq_true (by first | (with_reducible assumption) | assumption)
                                                    obtain ⟨ad255, e255, hx255_0, hx255_1, hx255_2⟩ := at_T30 (Kd.R_reads' HO_7.out).2.2 x92_5 p255 q255
                                                    cases e255
                                                    replace p255 := eq_true p255
                                                    replace q255 := eq_true q255
                                                    refine start_ (n := 13) (S := fun w' => w'.cell? (ad254.add ((x92_5).toNat * 3)) = some (.int .i64 ((rd_T30 t248 x92_5).f0)) ∧ w'.cell? ⟨(ad254.add ((x92_5).toNat * 3)).block, (ad254.add ((x92_5).toNat * 3)).off + 1, none⟩ = some (.string ((rd_T30 t248 x92_5).f1)) ∧ w'.cell? ⟨(ad254.add ((x92_5).toNat * 3)).block, (ad254.add ((x92_5).toNat * 3)).off + 2, none⟩ = some (.int .i64 ((rd_T30 t248 x92_5).f2)) ∧ w'.cell? (ad255.add ((x92_5).toNat * 3)) = some (.int .i64 ((rd_T30 t237 x92_5).f0)) ∧ w'.cell? ⟨(ad255.add ((x92_5).toNat * 3)).block, (ad255.add ((x92_5).toNat * 3)).off + 1, none⟩ = some (.string ((rd_T30 t237 x92_5).f1)) ∧ w'.cell? ⟨(ad255.add ((x92_5).toNat * 3)).block, (ad255.add ((x92_5).toNat * 3)).off + 2, none⟩ = some (.int .i64 ((rd_T30 t237 x92_5).f2))) (ds := []) #[false, false, false, false, false, false, false, false, false, false, false, false, false] (by kernel_rfl) rfl rfl ⟨hx254_0, hx254_1, hx254_2, hx255_0, hx255_1, hx255_2⟩ (fun hHeld => ?_); refine with_tabW cylinderlaw35_LexerBlanks.tab21 cylinderlaw35_LexerBlanks.bits21 (fun HT_ HW_ => ?_)
                                                    generalize wr.drew = w55 at HO_7 HO_13 HB hx254_0 hx254_1 hx254_2 hx255_0 hx255_1 hx255_2 hHeld ⊢
                                                    refine pure_ (i := 0) (N := some 98) (v := ?_) (a' := ?_) #[true, false, false, false, false, false, false, false, false, false, false, false, false] rfl rfl (any_of HT_.out (by kernel_rfl)) (fun _ _ _ h => h) (Or.inl ⟨by rfl, ?_⟩) ?_ ?_
                                                    rotate_left
                                                    · intro w'
                                                      go_simp
                                                      with_reducible rfl
                                                    rotate_left
                                                    · simp only [Act.put, List.setIfInBounds_toArray, List.set_cons_zero, List.set_cons_succ, i64_w, i32_w]
                                                      rfl
                                                    refine pure_ (i := 1) (N := some 99) (v := ?_) (a' := ?_) #[true, true, false, false, false, false, false, false, false, false, false, false, false] rfl rfl (any_of HT_.out (by kernel_rfl)) (fun _ _ _ h => h) (Or.inl ⟨by rfl, ?_⟩) ?_ ?_
                                                    rotate_left
                                                    · intro w'
                                                      go_simp
                                                      with_reducible rfl
                                                    rotate_left
                                                    · simp only [Act.put, List.setIfInBounds_toArray, List.set_cons_zero, List.set_cons_succ, i64_w, i32_w]
                                                      rfl
                                                    refine pure_ (i := 2) (N := some 100) (v := ?_) (a' := ?_) #[true, true, true, false, false, false, false, false, false, false, false, false, false] rfl rfl (any_of HT_.out (by kernel_rfl)) (fun _ _ _ h => h) (Or.inl ⟨by rfl, ?_⟩) ?_ ?_
                                                    rotate_left
                                                    · intro w'
                                                      go_simp
                                                      with_reducible rfl
                                                    rotate_left
                                                    · simp only [Act.put, List.setIfInBounds_toArray, List.set_cons_zero, List.set_cons_succ, i64_w, i32_w]
                                                      rfl
                                                    refine pure_ (i := 3) (N := some 101) (v := ?_) (a' := ?_) #[true, true, true, true, false, false, false, false, false, false, false, false, false] rfl rfl (any_of HT_.out (by kernel_rfl)) (fun _ _ _ h => h) (Or.inl ⟨by rfl, ?_⟩) ?_ ?_
                                                    rotate_left
                                                    · intro w'
                                                      go_simp
                                                      with_reducible rfl
                                                    rotate_left
                                                    · simp only [Act.put, List.setIfInBounds_toArray, List.set_cons_zero, List.set_cons_succ, i64_w, i32_w]
                                                      rfl
                                                    refine pure_ (i := 5) (N := some 103) (v := ?_) (a' := ?_) #[true, true, true, true, false, true, false, false, false, false, false, false, false] rfl rfl (any_of HT_.out (by kernel_rfl)) (fun _ _ _ h => h) (Or.inl ⟨by rfl, ?_⟩) ?_ ?_
                                                    rotate_left
                                                    · intro w'
                                                      go_simp
                                                      with_reducible rfl
                                                    rotate_left
                                                    · simp only [Act.put, List.setIfInBounds_toArray, List.set_cons_zero, List.set_cons_succ, i64_w, i32_w]
                                                      rfl
                                                    refine pure_ (i := 6) (N := some 104) (v := ?_) (a' := ?_) #[true, true, true, true, false, true, true, false, false, false, false, false, false] rfl rfl (any_of HT_.out (by kernel_rfl)) (fun _ _ _ h => h) (Or.inl ⟨by rfl, ?_⟩) ?_ ?_
                                                    rotate_left
                                                    · intro w'
                                                      go_simp
                                                      with_reducible rfl
                                                    rotate_left
                                                    · simp only [Act.put, List.setIfInBounds_toArray, List.set_cons_zero, List.set_cons_succ, i64_w, i32_w]
                                                      rfl
                                                    refine pure_ (i := 7) (N := some 105) (v := ?_) (a' := ?_) #[true, true, true, true, false, true, true, true, false, false, false, false, false] rfl rfl (any_of HT_.out (by kernel_rfl)) (fun _ _ _ h => h) (Or.inl ⟨by rfl, ?_⟩) ?_ ?_
                                                    rotate_left
                                                    · intro w'
                                                      go_simp
                                                      with_reducible rfl
                                                    rotate_left
                                                    · simp only [Act.put, List.setIfInBounds_toArray, List.set_cons_zero, List.set_cons_succ, i64_w, i32_w]
                                                      rfl
                                                    refine pure_ (i := 8) (N := some 106) (v := ?_) (a' := ?_) #[true, true, true, true, false, true, true, true, true, false, false, false, false] rfl rfl (any_of HT_.out (by kernel_rfl)) (fun _ _ _ h => h) (Or.inl ⟨by rfl, ?_⟩) ?_ ?_
                                                    rotate_left
                                                    · intro w'
                                                      go_simp
                                                      with_reducible rfl
                                                    rotate_left
                                                    · simp only [Act.put, List.setIfInBounds_toArray, List.set_cons_zero, List.set_cons_succ, i64_w, i32_w]
                                                      rfl
                                                    refine pure_ (i := 10) (N := some 108) (v := ?_) (a' := ?_) #[true, true, true, true, false, true, true, true, true, false, true, false, false] rfl rfl (any_of HT_.out (by kernel_rfl)) (fun _ _ _ h => h) (Or.inl ⟨by rfl, ?_⟩) ?_ ?_
                                                    rotate_left
                                                    · intro w'
                                                      go_simp
                                                      with_reducible rfl
                                                    rotate_left
                                                    · simp only [Act.put, List.setIfInBounds_toArray, List.set_cons_zero, List.set_cons_succ, i64_w, i32_w]
                                                      rfl
                                                    refine take_ (i := 4) (N := some 102) (v := ?_) (a' := ?_) #[true, true, true, true, true, true, true, true, true, false, true, false, false] rfl rfl (take_ofW HT_.out HW_.out (by kernel_rfl)) (fun _ _ _ h => h) (Or.inl ⟨by rfl, ?_⟩) hHeld ?_ ?_
                                                    rotate_left
                                                    · rintro w' ⟨s0, s1, s2, s3, s4, s5⟩
                                                      go_simp
                                                      with_reducible rfl
                                                    rotate_left
                                                    · simp only [Act.put, List.setIfInBounds_toArray, List.set_cons_zero, List.set_cons_succ, i64_w, i32_w]
                                                      rfl
                                                    refine take_ (i := 9) (N := some 107) (v := ?_) (a' := ?_) #[true, true, true, true, true, true, true, true, true, true, true, false, false] rfl rfl (take_ofW HT_.out HW_.out (by kernel_rfl)) (fun _ _ _ h => h) (Or.inl ⟨by rfl, ?_⟩) hHeld ?_ ?_
                                                    rotate_left
                                                    · rintro w' ⟨s0, s1, s2, s3, s4, s5⟩
                                                      go_simp
                                                      with_reducible rfl
                                                    rotate_left
                                                    · simp only [Act.put, List.setIfInBounds_toArray, List.set_cons_zero, List.set_cons_succ, i64_w, i32_w]
                                                      rfl
                                                    refine pure_ (i := 11) (N := some 109) (v := ?_) (a' := ?_) #[true, true, true, true, true, true, true, true, true, true, true, true, false] rfl rfl (any_of HT_.out (by kernel_rfl)) (fun _ _ _ h => h) (Or.inl ⟨by rfl, ?_⟩) ?_ ?_
                                                    rotate_left
                                                    · intro w'
                                                      go_simp
                                                      with_reducible rfl
                                                    rotate_left
                                                    · simp only [Act.put, List.setIfInBounds_toArray, List.set_cons_zero, List.set_cons_succ, i64_w, i32_w]
                                                      rfl
                                                    refine pure_ (i := 12) (N := some 110) (v := ?_) (a' := ?_) #[true, true, true, true, true, true, true, true, true, true, true, true, true] rfl rfl (any_of HT_.out (by kernel_rfl)) (fun _ _ _ h => h) (Or.inl ⟨by rfl, ?_⟩) ?_ ?_
                                                    rotate_left
                                                    · intro w'
                                                      go_simp
                                                      with_reducible rfl
                                                    rotate_left
                                                    · simp only [Act.put, List.setIfInBounds_toArray, List.set_cons_zero, List.set_cons_succ, i64_w, i32_w]
                                                      rfl
                                                    refine done_ (done_of HT_.out (by kernel_rfl)) ?_
                                                    try go_wp2
                                                    go_roundg k5
                                                    case measure => have := HJ3.out; have := HJ13.out; have := HJ18.out; have := HJ36.out; have := HK5.out; omega
                                                    case rel => exact ⟨(wrap64 (x92_5 + 1)), (by first | rfl | (simp; done) | (simp [*]; done)), H', ⟨by have := HJ3.out; have := HJ13.out; have := HJ18.out; have := HJ36.out; have := HK5.out; omega⟩, ⟨by (with_reducible repeat (first | apply Kd.R_alloc | apply Kd.R_drewN | apply Kd.R_drew)); exact HO_7.out⟩, ⟨by (with_reducible repeat (first | apply Kd.R_alloc | apply Kd.R_drewN | apply Kd.R_drew)); exact HO_13.out⟩, ⟨by repeat (first | (with_reducible first | exact HB.out | apply below_alloc | apply pw_below_drewN | apply below_drew1) | exact HB.out)⟩⟩
                                                  · rw [if_neg c54] at H
                                                    have c54b0 : (((rd_T30 t248 x92_5).f2) == (wrap64 (((rd_T30 t237 x92_5).f2) + 1))) = false := beq_eq_false_iff_ne.mpr c54
                                                    have c54b1 : (((rd_T30 t248 x92_5).f2) != (wrap64 (((rd_T30 t237 x92_5).f2) + 1))) = true := bne_iff_ne.mpr c54
                                                    obtain rfl := Option.some.inj H
                                                    try go_wp2
                                                    have n0_ := Aside0.mk (Kd.R_drew HO_7.out)
                                                    have n1_ := Aside0.mk (Kd.R_drew HO_13.out)
                                                    have n2_ := Aside0.mk (below_drew1 HB.out)
                                                    clear HO_7
                                                    clear HO_13
                                                    clear HB
                                                    have HO_7 := n0_
                                                    have HO_13 := n1_
                                                    have HB := n2_
                                                    clear n0_ n1_ n2_
                                                    obtain ⟨Ao58, co58, eo58⟩ := Kd.R_slice HO_13.out
                                                    (first | subst eo58 | (injection eo58 with f1_ f2_ f3_; have f4_ := f1_.symm; have f5_ := f3_.symm; clear f1_ f2_ f3_; subst f4_; subst f5_))
                                                    have p254 : 0 ≤ (x92_5 : Int) := of_decide_eq_true (by first | (with_reducible assumption) | assumption)
                                                    have q254 : x92_5 < (t248.length : Int) := of_decide_eq_true (by first | (with_reducible assumption) | assumption)
                                                    obtain ⟨ad254, e254, hx254_0, hx254_1, hx254_2⟩ := at_T30 (Kd.R_reads' HO_13.out).2.2 x92_5 p254 q254
                                                    cases e254
                                                    replace p254 := eq_true p254
                                                    replace q254 := eq_true q254
                                                    have p255 : 0 ≤ (x92_5 : Int) := of_decide_eq_true (by first | (with_reducible assumption) | assumption)
                                                    have q255 : x92_5 < (t237.length : Int) := of_decide_eq_true (by first | (with_reducible assumption) | assumption)
                                                    obtain ⟨ad255, e255, hx255_0, hx255_1, hx255_2⟩ := at_T30 (Kd.R_reads' HO_7.out).2.2 x92_5 p255 q255
                                                    cases e255
                                                    replace p255 := eq_true p255
                                                    replace q255 := eq_true q255
                                                    refine start_ (n := 13) (S := fun w' => w'.cell? (ad254.add ((x92_5).toNat * 3)) = some (.int .i64 ((rd_T30 t248 x92_5).f0)) ∧ w'.cell? ⟨(ad254.add ((x92_5).toNat * 3)).block, (ad254.add ((x92_5).toNat * 3)).off + 1, none⟩ = some (.string ((rd_T30 t248 x92_5).f1)) ∧ w'.cell? ⟨(ad254.add ((x92_5).toNat * 3)).block, (ad254.add ((x92_5).toNat * 3)).off + 2, none⟩ = some (.int .i64 ((rd_T30 t248 x92_5).f2)) ∧ w'.cell? (ad255.add ((x92_5).toNat * 3)) = some (.int .i64 ((rd_T30 t237 x92_5).f0)) ∧ w'.cell? ⟨(ad255.add ((x92_5).toNat * 3)).block, (ad255.add ((x92_5).toNat * 3)).off + 1, none⟩ = some (.string ((rd_T30 t237 x92_5).f1)) ∧ w'.cell? ⟨(ad255.add ((x92_5).toNat * 3)).block, (ad255.add ((x92_5).toNat * 3)).off + 2, none⟩ = some (.int .i64 ((rd_T30 t237 x92_5).f2))) (ds := []) #[false, false, false, false, false, false, false, false, false, false, false, false, false] (by kernel_rfl) rfl rfl ⟨hx254_0, hx254_1, hx254_2, hx255_0, hx255_1, hx255_2⟩ (fun hHeld => ?_); refine with_tabW cylinderlaw35_LexerBlanks.tab21 cylinderlaw35_LexerBlanks.bits21 (fun HT_ HW_ => ?_)
                                                    generalize wr.drew = w57 at HO_7 HO_13 HB hx254_0 hx254_1 hx254_2 hx255_0 hx255_1 hx255_2 hHeld ⊢
                                                    refine pure_ (i := 0) (N := some 98) (v := ?_) (a' := ?_) #[true, false, false, false, false, false, false, false, false, false, false, false, false] rfl rfl (any_of HT_.out (by kernel_rfl)) (fun _ _ _ h => h) (Or.inl ⟨by rfl, ?_⟩) ?_ ?_
                                                    rotate_left
                                                    · intro w'
                                                      go_simp
                                                      with_reducible rfl
                                                    rotate_left
                                                    · simp only [Act.put, List.setIfInBounds_toArray, List.set_cons_zero, List.set_cons_succ, i64_w, i32_w]
                                                      rfl
                                                    refine pure_ (i := 1) (N := some 99) (v := ?_) (a' := ?_) #[true, true, false, false, false, false, false, false, false, false, false, false, false] rfl rfl (any_of HT_.out (by kernel_rfl)) (fun _ _ _ h => h) (Or.inl ⟨by rfl, ?_⟩) ?_ ?_
                                                    rotate_left
                                                    · intro w'
                                                      go_simp
                                                      with_reducible rfl
                                                    rotate_left
                                                    · simp only [Act.put, List.setIfInBounds_toArray, List.set_cons_zero, List.set_cons_succ, i64_w, i32_w]
                                                      rfl
                                                    refine pure_ (i := 2) (N := some 100) (v := ?_) (a' := ?_) #[true, true, true, false, false, false, false, false, false, false, false, false, false] rfl rfl (any_of HT_.out (by kernel_rfl)) (fun _ _ _ h => h) (Or.inl ⟨by rfl, ?_⟩) ?_ ?_
                                                    rotate_left
                                                    · intro w'
                                                      go_simp
                                                      with_reducible rfl
                                                    rotate_left
                                                    · simp only [Act.put, List.setIfInBounds_toArray, List.set_cons_zero, List.set_cons_succ, i64_w, i32_w]
                                                      rfl
                                                    refine pure_ (i := 3) (N := some 101) (v := ?_) (a' := ?_) #[true, true, true, true, false, false, false, false, false, false, false, false, false] rfl rfl (any_of HT_.out (by kernel_rfl)) (fun _ _ _ h => h) (Or.inl ⟨by rfl, ?_⟩) ?_ ?_
                                                    rotate_left
                                                    · intro w'
                                                      go_simp
                                                      with_reducible rfl
                                                    rotate_left
                                                    · simp only [Act.put, List.setIfInBounds_toArray, List.set_cons_zero, List.set_cons_succ, i64_w, i32_w]
                                                      rfl
                                                    refine pure_ (i := 5) (N := some 103) (v := ?_) (a' := ?_) #[true, true, true, true, false, true, false, false, false, false, false, false, false] rfl rfl (any_of HT_.out (by kernel_rfl)) (fun _ _ _ h => h) (Or.inl ⟨by rfl, ?_⟩) ?_ ?_
                                                    rotate_left
                                                    · intro w'
                                                      go_simp
                                                      with_reducible rfl
                                                    rotate_left
                                                    · simp only [Act.put, List.setIfInBounds_toArray, List.set_cons_zero, List.set_cons_succ, i64_w, i32_w]
                                                      rfl
                                                    refine pure_ (i := 6) (N := some 104) (v := ?_) (a' := ?_) #[true, true, true, true, false, true, true, false, false, false, false, false, false] rfl rfl (any_of HT_.out (by kernel_rfl)) (fun _ _ _ h => h) (Or.inl ⟨by rfl, ?_⟩) ?_ ?_
                                                    rotate_left
                                                    · intro w'
                                                      go_simp
                                                      with_reducible rfl
                                                    rotate_left
                                                    · simp only [Act.put, List.setIfInBounds_toArray, List.set_cons_zero, List.set_cons_succ, i64_w, i32_w]
                                                      rfl
                                                    refine pure_ (i := 7) (N := some 105) (v := ?_) (a' := ?_) #[true, true, true, true, false, true, true, true, false, false, false, false, false] rfl rfl (any_of HT_.out (by kernel_rfl)) (fun _ _ _ h => h) (Or.inl ⟨by rfl, ?_⟩) ?_ ?_
                                                    rotate_left
                                                    · intro w'
                                                      go_simp
                                                      with_reducible rfl
                                                    rotate_left
                                                    · simp only [Act.put, List.setIfInBounds_toArray, List.set_cons_zero, List.set_cons_succ, i64_w, i32_w]
                                                      rfl
                                                    refine pure_ (i := 8) (N := some 106) (v := ?_) (a' := ?_) #[true, true, true, true, false, true, true, true, true, false, false, false, false] rfl rfl (any_of HT_.out (by kernel_rfl)) (fun _ _ _ h => h) (Or.inl ⟨by rfl, ?_⟩) ?_ ?_
                                                    rotate_left
                                                    · intro w'
                                                      go_simp
                                                      with_reducible rfl
                                                    rotate_left
                                                    · simp only [Act.put, List.setIfInBounds_toArray, List.set_cons_zero, List.set_cons_succ, i64_w, i32_w]
                                                      rfl
                                                    refine pure_ (i := 10) (N := some 108) (v := ?_) (a' := ?_) #[true, true, true, true, false, true, true, true, true, false, true, false, false] rfl rfl (any_of HT_.out (by kernel_rfl)) (fun _ _ _ h => h) (Or.inl ⟨by rfl, ?_⟩) ?_ ?_
                                                    rotate_left
                                                    · intro w'
                                                      go_simp
                                                      with_reducible rfl
                                                    rotate_left
                                                    · simp only [Act.put, List.setIfInBounds_toArray, List.set_cons_zero, List.set_cons_succ, i64_w, i32_w]
                                                      rfl
                                                    refine take_ (i := 4) (N := some 102) (v := ?_) (a' := ?_) #[true, true, true, true, true, true, true, true, true, false, true, false, false] rfl rfl (take_ofW HT_.out HW_.out (by kernel_rfl)) (fun _ _ _ h => h) (Or.inl ⟨by rfl, ?_⟩) hHeld ?_ ?_
                                                    rotate_left
                                                    · rintro w' ⟨s0, s1, s2, s3, s4, s5⟩
                                                      go_simp
                                                      with_reducible rfl
                                                    rotate_left
                                                    · simp only [Act.put, List.setIfInBounds_toArray, List.set_cons_zero, List.set_cons_succ, i64_w, i32_w]
                                                      rfl
                                                    refine take_ (i := 9) (N := some 107) (v := ?_) (a' := ?_) #[true, true, true, true, true, true, true, true, true, true, true, false, false] rfl rfl (take_ofW HT_.out HW_.out (by kernel_rfl)) (fun _ _ _ h => h) (Or.inl ⟨by rfl, ?_⟩) hHeld ?_ ?_
                                                    rotate_left
                                                    · rintro w' ⟨s0, s1, s2, s3, s4, s5⟩
                                                      go_simp
                                                      with_reducible rfl
                                                    rotate_left
                                                    · simp only [Act.put, List.setIfInBounds_toArray, List.set_cons_zero, List.set_cons_succ, i64_w, i32_w]
                                                      rfl
                                                    refine pure_ (i := 11) (N := some 109) (v := ?_) (a' := ?_) #[true, true, true, true, true, true, true, true, true, true, true, true, false] rfl rfl (any_of HT_.out (by kernel_rfl)) (fun _ _ _ h => h) (Or.inl ⟨by rfl, ?_⟩) ?_ ?_
                                                    rotate_left
                                                    · intro w'
                                                      go_simp
                                                      with_reducible rfl
                                                    rotate_left
                                                    · simp only [Act.put, List.setIfInBounds_toArray, List.set_cons_zero, List.set_cons_succ, i64_w, i32_w]
                                                      rfl
                                                    refine pure_ (i := 12) (N := some 110) (v := ?_) (a' := ?_) #[true, true, true, true, true, true, true, true, true, true, true, true, true] rfl rfl (any_of HT_.out (by kernel_rfl)) (fun _ _ _ h => h) (Or.inl ⟨by rfl, ?_⟩) ?_ ?_
                                                    rotate_left
                                                    · intro w'
                                                      go_simp
                                                      with_reducible rfl
                                                    rotate_left
                                                    · simp only [Act.put, List.setIfInBounds_toArray, List.set_cons_zero, List.set_cons_succ, i64_w, i32_w]
                                                      rfl
                                                    refine done_ (done_of HT_.out (by kernel_rfl)) ?_
                                                    try go_wp2
                                                    go_ret
                                                    exact ⟨by first | rfl | (simp [errW_none, errW_some] <;> rfl) | (simp only [← hji27]; first | rfl | (simp [errW_none, errW_some] <;> rfl)) | (simp [*, errW_none, errW_some] <;> rfl), by repeat (first | (with_reducible first | exact HB.out | apply below_alloc | apply pw_below_drewN | apply below_drew1) | exact HB.out)⟩
                                                · rw [if_neg c53] at H
                                                  exact absurd H (by simp)
                                              · rw [if_neg c52] at H
                                                exact absurd H (by simp)
                                            · rw [if_neg c51] at H
                                              exact absurd H (by simp)
                                          · rw [if_neg c50] at H
                                            have c50b0 : decide (x11_18 ≤ x92_5) = false := decide_eq_false c50
                                            clear c50
                                            by_cases c59 : 0 ≤ x92_5
                                            · rw [if_pos c59] at H
                                              have c59b0 : decide (0 ≤ x92_5) = true := decide_eq_true c59
                                              clear c59
                                              by_cases c60 : x92_5 < (t248.length : Int)
                                              · rw [if_pos c60] at H
                                                have c60b0 : decide (x92_5 < (t248.length : Int)) = true := decide_eq_true c60
                                                clear c60
                                                by_cases c61 : x92_5 < (t237.length : Int)
                                                · rw [if_pos c61] at H
                                                  have c61b0 : decide (x92_5 < (t237.length : Int)) = true := decide_eq_true c61
                                                  clear c61
                                                  by_cases c62 : ((rd_T30 t248 x92_5).f2) = (wrap64 (((rd_T30 t237 x92_5).f2) + 0))
                                                  · rw [if_pos c62] at H
                                                    have c62b0 : (((rd_T30 t248 x92_5).f2) == (wrap64 (((rd_T30 t237 x92_5).f2) + 0))) = true := beq_iff_eq.mpr c62
                                                    have c62b0z := c62b0
                                                    simp only [Int.add_zero] at c62b0z
                                                    have c62b1 : (((rd_T30 t248 x92_5).f2) != (wrap64 (((rd_T30 t237 x92_5).f2) + 0))) = false := bne_eq_false_iff_eq.mpr c62
                                                    have c62b1z := c62b1
                                                    simp only [Int.add_zero] at c62b1z
                                                    clear c62
                                                    have H' := Aside0.mk H
                                                    clear H
                                                    try go_wp2
                                                    have n0_ := Aside0.mk (Kd.R_drew HO_7.out)
                                                    have n1_ := Aside0.mk (Kd.R_drew HO_13.out)
                                                    have n2_ := Aside0.mk (below_drew1 HB.out)
                                                    clear HO_7
                                                    clear HO_13
                                                    clear HB
                                                    have HO_7 := n0_
                                                    have HO_13 := n1_
                                                    have HB := n2_
                                                    clear n0_ n1_ n2_
                                                    obtain ⟨Ao64, co64, eo64⟩ := Kd.R_slice HO_13.out
                                                    (first | subst eo64 | (injection eo64 with f1_ f2_ f3_; have f4_ := f1_.symm; have f5_ := f3_.symm; clear f1_ f2_ f3_; subst f4_; subst f5_))
                                                    have p256 : 0 ≤ (x92_5 : Int) := of_decide_eq_true (by first | (with_reducible assumption) | assumption)
                                                    have q256 : x92_5 < (t248.length : Int) := of_decide_eq_true (by first | (with_reducible assumption) | assumption)
                                                    obtain ⟨ad256, e256, hx256_0, hx256_1, hx256_2⟩ := at_T30 (Kd.R_reads' HO_13.out).2.2 x92_5 p256 q256
                                                    cases e256
                                                    replace p256 := eq_true p256
                                                    replace q256 := eq_true q256
                                                    have p257 : 0 ≤ (x92_5 : Int) := of_decide_eq_true (by first | (with_reducible assumption) | assumption)
                                                    have q257 : x92_5 < (t237.length : Int) := of_decide_eq_true (by first | (with_reducible assumption) | assumption)
                                                    obtain ⟨ad257, e257, hx257_0, hx257_1, hx257_2⟩ := at_T30 (Kd.R_reads' HO_7.out).2.2 x92_5 p257 q257
                                                    cases e257
                                                    replace p257 := eq_true p257
                                                    replace q257 := eq_true q257
                                                    refine start_ (n := 13) (S := fun w' => w'.cell? (ad256.add ((x92_5).toNat * 3)) = some (.int .i64 ((rd_T30 t248 x92_5).f0)) ∧ w'.cell? ⟨(ad256.add ((x92_5).toNat * 3)).block, (ad256.add ((x92_5).toNat * 3)).off + 1, none⟩ = some (.string ((rd_T30 t248 x92_5).f1)) ∧ w'.cell? ⟨(ad256.add ((x92_5).toNat * 3)).block, (ad256.add ((x92_5).toNat * 3)).off + 2, none⟩ = some (.int .i64 ((rd_T30 t248 x92_5).f2)) ∧ w'.cell? (ad257.add ((x92_5).toNat * 3)) = some (.int .i64 ((rd_T30 t237 x92_5).f0)) ∧ w'.cell? ⟨(ad257.add ((x92_5).toNat * 3)).block, (ad257.add ((x92_5).toNat * 3)).off + 1, none⟩ = some (.string ((rd_T30 t237 x92_5).f1)) ∧ w'.cell? ⟨(ad257.add ((x92_5).toNat * 3)).block, (ad257.add ((x92_5).toNat * 3)).off + 2, none⟩ = some (.int .i64 ((rd_T30 t237 x92_5).f2))) (ds := []) #[false, false, false, false, false, false, false, false, false, false, false, false, false] (by kernel_rfl) rfl rfl ⟨hx256_0, hx256_1, hx256_2, hx257_0, hx257_1, hx257_2⟩ (fun hHeld => ?_); refine with_tabW cylinderlaw35_LexerBlanks.tab21 cylinderlaw35_LexerBlanks.bits21 (fun HT_ HW_ => ?_)
                                                    generalize wr.drew = w63 at HO_7 HO_13 HB hx256_0 hx256_1 hx256_2 hx257_0 hx257_1 hx257_2 hHeld ⊢
                                                    refine pure_ (i := 0) (N := some 98) (v := ?_) (a' := ?_) #[true, false, false, false, false, false, false, false, false, false, false, false, false] rfl rfl (any_of HT_.out (by kernel_rfl)) (fun _ _ _ h => h) (Or.inl ⟨by rfl, ?_⟩) ?_ ?_
                                                    rotate_left
                                                    · intro w'
                                                      go_simp
                                                      with_reducible rfl
                                                    rotate_left
                                                    · simp only [Act.put, List.setIfInBounds_toArray, List.set_cons_zero, List.set_cons_succ, i64_w, i32_w]
                                                      rfl
                                                    refine pure_ (i := 1) (N := some 99) (v := ?_) (a' := ?_) #[true, true, false, false, false, false, false, false, false, false, false, false, false] rfl rfl (any_of HT_.out (by kernel_rfl)) (fun _ _ _ h => h) (Or.inl ⟨by rfl, ?_⟩) ?_ ?_
                                                    rotate_left
                                                    · intro w'
                                                      go_simp
                                                      with_reducible rfl
                                                    rotate_left
                                                    · simp only [Act.put, List.setIfInBounds_toArray, List.set_cons_zero, List.set_cons_succ, i64_w, i32_w]
                                                      rfl
                                                    refine pure_ (i := 2) (N := some 100) (v := ?_) (a' := ?_) #[true, true, true, false, false, false, false, false, false, false, false, false, false] rfl rfl (any_of HT_.out (by kernel_rfl)) (fun _ _ _ h => h) (Or.inl ⟨by rfl, ?_⟩) ?_ ?_
                                                    rotate_left
                                                    · intro w'
                                                      go_simp
                                                      with_reducible rfl
                                                    rotate_left
                                                    · simp only [Act.put, List.setIfInBounds_toArray, List.set_cons_zero, List.set_cons_succ, i64_w, i32_w]
                                                      rfl
                                                    refine pure_ (i := 3) (N := some 101) (v := ?_) (a' := ?_) #[true, true, true, true, false, false, false, false, false, false, false, false, false] rfl rfl (any_of HT_.out (by kernel_rfl)) (fun _ _ _ h => h) (Or.inl ⟨by rfl, ?_⟩) ?_ ?_
                                                    rotate_left
                                                    · intro w'
                                                      go_simp
                                                      with_reducible rfl
                                                    rotate_left
                                                    · simp only [Act.put, List.setIfInBounds_toArray, List.set_cons_zero, List.set_cons_succ, i64_w, i32_w]
                                                      rfl
                                                    refine pure_ (i := 5) (N := some 103) (v := ?_) (a' := ?_) #[true, true, true, true, false, true, false, false, false, false, false, false, false] rfl rfl (any_of HT_.out (by kernel_rfl)) (fun _ _ _ h => h) (Or.inl ⟨by rfl, ?_⟩) ?_ ?_
                                                    rotate_left
                                                    · intro w'
                                                      go_simp
                                                      with_reducible rfl
                                                    rotate_left
                                                    · simp only [Act.put, List.setIfInBounds_toArray, List.set_cons_zero, List.set_cons_succ, i64_w, i32_w]
                                                      rfl
                                                    refine pure_ (i := 6) (N := some 104) (v := ?_) (a' := ?_) #[true, true, true, true, false, true, true, false, false, false, false, false, false] rfl rfl (any_of HT_.out (by kernel_rfl)) (fun _ _ _ h => h) (Or.inl ⟨by rfl, ?_⟩) ?_ ?_
                                                    rotate_left
                                                    · intro w'
                                                      go_simp
                                                      with_reducible rfl
                                                    rotate_left
                                                    · simp only [Act.put, List.setIfInBounds_toArray, List.set_cons_zero, List.set_cons_succ, i64_w, i32_w]
                                                      rfl
                                                    refine pure_ (i := 7) (N := some 105) (v := ?_) (a' := ?_) #[true, true, true, true, false, true, true, true, false, false, false, false, false] rfl rfl (any_of HT_.out (by kernel_rfl)) (fun _ _ _ h => h) (Or.inl ⟨by rfl, ?_⟩) ?_ ?_
                                                    rotate_left
                                                    · intro w'
                                                      go_simp
                                                      with_reducible rfl
                                                    rotate_left
                                                    · simp only [Act.put, List.setIfInBounds_toArray, List.set_cons_zero, List.set_cons_succ, i64_w, i32_w]
                                                      rfl
                                                    refine pure_ (i := 8) (N := some 106) (v := ?_) (a' := ?_) #[true, true, true, true, false, true, true, true, true, false, false, false, false] rfl rfl (any_of HT_.out (by kernel_rfl)) (fun _ _ _ h => h) (Or.inl ⟨by rfl, ?_⟩) ?_ ?_
                                                    rotate_left
                                                    · intro w'
                                                      go_simp
                                                      with_reducible rfl
                                                    rotate_left
                                                    · simp only [Act.put, List.setIfInBounds_toArray, List.set_cons_zero, List.set_cons_succ, i64_w, i32_w]
                                                      rfl
                                                    refine pure_ (i := 10) (N := some 108) (v := ?_) (a' := ?_) #[true, true, true, true, false, true, true, true, true, false, true, false, false] rfl rfl (any_of HT_.out (by kernel_rfl)) (fun _ _ _ h => h) (Or.inl ⟨by rfl, ?_⟩) ?_ ?_
                                                    rotate_left
                                                    · intro w'
                                                      go_simp
                                                      with_reducible rfl
                                                    rotate_left
                                                    · simp only [Act.put, List.setIfInBounds_toArray, List.set_cons_zero, List.set_cons_succ, i64_w, i32_w]
                                                      rfl
                                                    refine take_ (i := 4) (N := some 102) (v := ?_) (a' := ?_) #[true, true, true, true, true, true, true, true, true, false, true, false, false] rfl rfl (take_ofW HT_.out HW_.out (by kernel_rfl)) (fun _ _ _ h => h) (Or.inl ⟨by rfl, ?_⟩) hHeld ?_ ?_
                                                    rotate_left
                                                    · rintro w' ⟨s0, s1, s2, s3, s4, s5⟩
                                                      go_simp
                                                      with_reducible rfl
                                                    rotate_left
                                                    · simp only [Act.put, List.setIfInBounds_toArray, List.set_cons_zero, List.set_cons_succ, i64_w, i32_w]
                                                      rfl
                                                    refine take_ (i := 9) (N := some 107) (v := ?_) (a' := ?_) #[true, true, true, true, true, true, true, true, true, true, true, false, false] rfl rfl (take_ofW HT_.out HW_.out (by kernel_rfl)) (fun _ _ _ h => h) (Or.inl ⟨by rfl, ?_⟩) hHeld ?_ ?_
                                                    rotate_left
                                                    · rintro w' ⟨s0, s1, s2, s3, s4, s5⟩
                                                      go_simp
                                                      with_reducible rfl
                                                    rotate_left
                                                    · simp only [Act.put, List.setIfInBounds_toArray, List.set_cons_zero, List.set_cons_succ, i64_w, i32_w]
                                                      rfl
                                                    refine pure_ (i := 11) (N := some 109) (v := ?_) (a' := ?_) #[true, true, true, true, true, true, true, true, true, true, true, true, false] rfl rfl (any_of HT_.out (by kernel_rfl)) (fun _ _ _ h => h) (Or.inl ⟨by rfl, ?_⟩) ?_ ?_
                                                    rotate_left
                                                    · intro w'
                                                      go_simp
                                                      with_reducible rfl
                                                    rotate_left
                                                    · simp only [Act.put, List.setIfInBounds_toArray, List.set_cons_zero, List.set_cons_succ, i64_w, i32_w]
                                                      rfl
                                                    refine pure_ (i := 12) (N := some 110) (v := ?_) (a' := ?_) #[true, true, true, true, true, true, true, true, true, true, true, true, true] rfl rfl (any_of HT_.out (by kernel_rfl)) (fun _ _ _ h => h) (Or.inl ⟨by rfl, ?_⟩) ?_ ?_
                                                    rotate_left
                                                    · intro w'
                                                      go_simp
                                                      with_reducible rfl
                                                    rotate_left
                                                    · simp only [Act.put, List.setIfInBounds_toArray, List.set_cons_zero, List.set_cons_succ, i64_w, i32_w]
                                                      rfl
                                                    refine done_ (done_of HT_.out (by kernel_rfl)) ?_
                                                    try go_wp2
                                                    go_roundg k5
                                                    case measure => have := HJ3.out; have := HJ13.out; have := HJ18.out; have := HJ36.out; have := HK5.out; omega
                                                    case rel => exact ⟨(wrap64 (x92_5 + 1)), (by first | rfl | (simp; done) | (simp [*]; done)), H', ⟨by have := HJ3.out; have := HJ13.out; have := HJ18.out; have := HJ36.out; have := HK5.out; omega⟩, ⟨by (with_reducible repeat (first | apply Kd.R_alloc | apply Kd.R_drewN | apply Kd.R_drew)); exact HO_7.out⟩, ⟨by (with_reducible repeat (first | apply Kd.R_alloc | apply Kd.R_drewN | apply Kd.R_drew)); exact HO_13.out⟩, ⟨by repeat (first | (with_reducible first | exact HB.out | apply below_alloc | apply pw_below_drewN | apply below_drew1) | exact HB.out)⟩⟩
                                                  · rw [if_neg c62] at H
                                                    have c62b0 : (((rd_T30 t248 x92_5).f2) == (wrap64 (((rd_T30 t237 x92_5).f2) + 0))) = false := beq_eq_false_iff_ne.mpr c62
                                                    have c62b0z := c62b0
                                                    simp only [Int.add_zero] at c62b0z
                                                    have c62b1 : (((rd_T30 t248 x92_5).f2) != (wrap64 (((rd_T30 t237 x92_5).f2) + 0))) = true := bne_iff_ne.mpr c62
                                                    have c62b1z := c62b1
                                                    simp only [Int.add_zero] at c62b1z
                                                    obtain rfl := Option.some.inj H
                                                    try go_wp2
                                                    have n0_ := Aside0.mk (Kd.R_drew HO_7.out)
                                                    have n1_ := Aside0.mk (Kd.R_drew HO_13.out)
                                                    have n2_ := Aside0.mk (below_drew1 HB.out)
                                                    clear HO_7
                                                    clear HO_13
                                                    clear HB
                                                    have HO_7 := n0_
                                                    have HO_13 := n1_
                                                    have HB := n2_
                                                    clear n0_ n1_ n2_
                                                    obtain ⟨Ao66, co66, eo66⟩ := Kd.R_slice HO_13.out
                                                    (first | subst eo66 | (injection eo66 with f1_ f2_ f3_; have f4_ := f1_.symm; have f5_ := f3_.symm; clear f1_ f2_ f3_; subst f4_; subst f5_))
                                                    have p256 : 0 ≤ (x92_5 : Int) := of_decide_eq_true (by first | (with_reducible assumption) | assumption)
                                                    have q256 : x92_5 < (t248.length : Int) := of_decide_eq_true (by first | (with_reducible assumption) | assumption)
                                                    obtain ⟨ad256, e256, hx256_0, hx256_1, hx256_2⟩ := at_T30 (Kd.R_reads' HO_13.out).2.2 x92_5 p256 q256
                                                    cases e256
                                                    replace p256 := eq_true p256
                                                    replace q256 := eq_true q256
                                                    have p257 : 0 ≤ (x92_5 : Int) := of_decide_eq_true (by first | (with_reducible assumption) | assumption)
                                                    have q257 : x92_5 < (t237.length : Int) := of_decide_eq_true (by first | (with_reducible assumption) | assumption)
                                                    obtain ⟨ad257, e257, hx257_0, hx257_1, hx257_2⟩ := at_T30 (Kd.R_reads' HO_7.out).2.2 x92_5 p257 q257
                                                    cases e257
                                                    replace p257 := eq_true p257
                                                    replace q257 := eq_true q257
                                                    refine start_ (n := 13) (S := fun w' => w'.cell? (ad256.add ((x92_5).toNat * 3)) = some (.int .i64 ((rd_T30 t248 x92_5).f0)) ∧ w'.cell? ⟨(ad256.add ((x92_5).toNat * 3)).block, (ad256.add ((x92_5).toNat * 3)).off + 1, none⟩ = some (.string ((rd_T30 t248 x92_5).f1)) ∧ w'.cell? ⟨(ad256.add ((x92_5).toNat * 3)).block, (ad256.add ((x92_5).toNat * 3)).off + 2, none⟩ = some (.int .i64 ((rd_T30 t248 x92_5).f2)) ∧ w'.cell? (ad257.add ((x92_5).toNat * 3)) = some (.int .i64 ((rd_T30 t237 x92_5).f0)) ∧ w'.cell? ⟨(ad257.add ((x92_5).toNat * 3)).block, (ad257.add ((x92_5).toNat * 3)).off + 1, none⟩ = some (.string ((rd_T30 t237 x92_5).f1)) ∧ w'.cell? ⟨(ad257.add ((x92_5).toNat * 3)).block, (ad257.add ((x92_5).toNat * 3)).off + 2, none⟩ = some (.int .i64 ((rd_T30 t237 x92_5).f2))) (ds := []) #[false, false, false, false, false, false, false, false, false, false, false, false, false] (by kernel_rfl) rfl rfl ⟨hx256_0, hx256_1, hx256_2, hx257_0, hx257_1, hx257_2⟩ (fun hHeld => ?_); refine with_tabW cylinderlaw35_LexerBlanks.tab21 cylinderlaw35_LexerBlanks.bits21 (fun HT_ HW_ => ?_)
                                                    generalize wr.drew = w65 at HO_7 HO_13 HB hx256_0 hx256_1 hx256_2 hx257_0 hx257_1 hx257_2 hHeld ⊢
                                                    refine pure_ (i := 0) (N := some 98) (v := ?_) (a' := ?_) #[true, false, false, false, false, false, false, false, false, false, false, false, false] rfl rfl (any_of HT_.out (by kernel_rfl)) (fun _ _ _ h => h) (Or.inl ⟨by rfl, ?_⟩) ?_ ?_
                                                    rotate_left
                                                    · intro w'
                                                      go_simp
                                                      with_reducible rfl
                                                    rotate_left
                                                    · simp only [Act.put, List.setIfInBounds_toArray, List.set_cons_zero, List.set_cons_succ, i64_w, i32_w]
                                                      rfl
                                                    refine pure_ (i := 1) (N := some 99) (v := ?_) (a' := ?_) #[true, true, false, false, false, false, false, false, false, false, false, false, false] rfl rfl (any_of HT_.out (by kernel_rfl)) (fun _ _ _ h => h) (Or.inl ⟨by rfl, ?_⟩) ?_ ?_
                                                    rotate_left
                                                    · intro w'
                                                      go_simp
                                                      with_reducible rfl
                                                    rotate_left
                                                    · simp only [Act.put, List.setIfInBounds_toArray, List.set_cons_zero, List.set_cons_succ, i64_w, i32_w]
                                                      rfl
                                                    refine pure_ (i := 2) (N := some 100) (v := ?_) (a' := ?_) #[true, true, true, false, false, false, false, false, false, false, false, false, false] rfl rfl (any_of HT_.out (by kernel_rfl)) (fun _ _ _ h => h) (Or.inl ⟨by rfl, ?_⟩) ?_ ?_
                                                    rotate_left
                                                    · intro w'
                                                      go_simp
                                                      with_reducible rfl
                                                    rotate_left
                                                    · simp only [Act.put, List.setIfInBounds_toArray, List.set_cons_zero, List.set_cons_succ, i64_w, i32_w]
                                                      rfl
                                                    refine pure_ (i := 3) (N := some 101) (v := ?_) (a' := ?_) #[true, true, true, true, false, false, false, false, false, false, false, false, false] rfl rfl (any_of HT_.out (by kernel_rfl)) (fun _ _ _ h => h) (Or.inl ⟨by rfl, ?_⟩) ?_ ?_
                                                    rotate_left
                                                    · intro w'
                                                      go_simp
                                                      with_reducible rfl
                                                    rotate_left
                                                    · simp only [Act.put, List.setIfInBounds_toArray, List.set_cons_zero, List.set_cons_succ, i64_w, i32_w]
                                                      rfl
                                                    refine pure_ (i := 5) (N := some 103) (v := ?_) (a' := ?_) #[true, true, true, true, false, true, false, false, false, false, false, false, false] rfl rfl (any_of HT_.out (by kernel_rfl)) (fun _ _ _ h => h) (Or.inl ⟨by rfl, ?_⟩) ?_ ?_
                                                    rotate_left
                                                    · intro w'
                                                      go_simp
                                                      with_reducible rfl
                                                    rotate_left
                                                    · simp only [Act.put, List.setIfInBounds_toArray, List.set_cons_zero, List.set_cons_succ, i64_w, i32_w]
                                                      rfl
                                                    refine pure_ (i := 6) (N := some 104) (v := ?_) (a' := ?_) #[true, true, true, true, false, true, true, false, false, false, false, false, false] rfl rfl (any_of HT_.out (by kernel_rfl)) (fun _ _ _ h => h) (Or.inl ⟨by rfl, ?_⟩) ?_ ?_
                                                    rotate_left
                                                    · intro w'
                                                      go_simp
                                                      with_reducible rfl
                                                    rotate_left
                                                    · simp only [Act.put, List.setIfInBounds_toArray, List.set_cons_zero, List.set_cons_succ, i64_w, i32_w]
                                                      rfl
                                                    refine pure_ (i := 7) (N := some 105) (v := ?_) (a' := ?_) #[true, true, true, true, false, true, true, true, false, false, false, false, false] rfl rfl (any_of HT_.out (by kernel_rfl)) (fun _ _ _ h => h) (Or.inl ⟨by rfl, ?_⟩) ?_ ?_
                                                    rotate_left
                                                    · intro w'
                                                      go_simp
                                                      with_reducible rfl
                                                    rotate_left
                                                    · simp only [Act.put, List.setIfInBounds_toArray, List.set_cons_zero, List.set_cons_succ, i64_w, i32_w]
                                                      rfl
                                                    refine pure_ (i := 8) (N := some 106) (v := ?_) (a' := ?_) #[true, true, true, true, false, true, true, true, true, false, false, false, false] rfl rfl (any_of HT_.out (by kernel_rfl)) (fun _ _ _ h => h) (Or.inl ⟨by rfl, ?_⟩) ?_ ?_
                                                    rotate_left
                                                    · intro w'
                                                      go_simp
                                                      with_reducible rfl
                                                    rotate_left
                                                    · simp only [Act.put, List.setIfInBounds_toArray, List.set_cons_zero, List.set_cons_succ, i64_w, i32_w]
                                                      rfl
                                                    refine pure_ (i := 10) (N := some 108) (v := ?_) (a' := ?_) #[true, true, true, true, false, true, true, true, true, false, true, false, false] rfl rfl (any_of HT_.out (by kernel_rfl)) (fun _ _ _ h => h) (Or.inl ⟨by rfl, ?_⟩) ?_ ?_
                                                    rotate_left
                                                    · intro w'
                                                      go_simp
                                                      with_reducible rfl
                                                    rotate_left
                                                    · simp only [Act.put, List.setIfInBounds_toArray, List.set_cons_zero, List.set_cons_succ, i64_w, i32_w]
                                                      rfl
                                                    refine take_ (i := 4) (N := some 102) (v := ?_) (a' := ?_) #[true, true, true, true, true, true, true, true, true, false, true, false, false] rfl rfl (take_ofW HT_.out HW_.out (by kernel_rfl)) (fun _ _ _ h => h) (Or.inl ⟨by rfl, ?_⟩) hHeld ?_ ?_
                                                    rotate_left
                                                    · rintro w' ⟨s0, s1, s2, s3, s4, s5⟩
                                                      go_simp
                                                      with_reducible rfl
                                                    rotate_left
                                                    · simp only [Act.put, List.setIfInBounds_toArray, List.set_cons_zero, List.set_cons_succ, i64_w, i32_w]
                                                      rfl
                                                    refine take_ (i := 9) (N := some 107) (v := ?_) (a' := ?_) #[true, true, true, true, true, true, true, true, true, true, true, false, false] rfl rfl (take_ofW HT_.out HW_.out (by kernel_rfl)) (fun _ _ _ h => h) (Or.inl ⟨by rfl, ?_⟩) hHeld ?_ ?_
                                                    rotate_left
                                                    · rintro w' ⟨s0, s1, s2, s3, s4, s5⟩
                                                      go_simp
                                                      with_reducible rfl
                                                    rotate_left
                                                    · simp only [Act.put, List.setIfInBounds_toArray, List.set_cons_zero, List.set_cons_succ, i64_w, i32_w]
                                                      rfl
                                                    refine pure_ (i := 11) (N := some 109) (v := ?_) (a' := ?_) #[true, true, true, true, true, true, true, true, true, true, true, true, false] rfl rfl (any_of HT_.out (by kernel_rfl)) (fun _ _ _ h => h) (Or.inl ⟨by rfl, ?_⟩) ?_ ?_
                                                    rotate_left
                                                    · intro w'
                                                      go_simp
                                                      with_reducible rfl
                                                    rotate_left
                                                    · simp only [Act.put, List.setIfInBounds_toArray, List.set_cons_zero, List.set_cons_succ, i64_w, i32_w]
                                                      rfl
                                                    refine pure_ (i := 12) (N := some 110) (v := ?_) (a' := ?_) #[true, true, true, true, true, true, true, true, true, true, true, true, true] rfl rfl (any_of HT_.out (by kernel_rfl)) (fun _ _ _ h => h) (Or.inl ⟨by rfl, ?_⟩) ?_ ?_
                                                    rotate_left
                                                    · intro w'
                                                      go_simp
                                                      with_reducible rfl
                                                    rotate_left
                                                    · simp only [Act.put, List.setIfInBounds_toArray, List.set_cons_zero, List.set_cons_succ, i64_w, i32_w]
                                                      rfl
                                                    refine done_ (done_of HT_.out (by kernel_rfl)) ?_
                                                    try go_wp2
                                                    go_ret
                                                    exact ⟨by first | rfl | (simp [errW_none, errW_some] <;> rfl) | (simp only [← hji27]; first | rfl | (simp [errW_none, errW_some] <;> rfl)) | (simp [*, errW_none, errW_some] <;> rfl), by repeat (first | (with_reducible first | exact HB.out | apply below_alloc | apply pw_below_drewN | apply below_drew1) | exact HB.out)⟩
                                                · rw [if_neg c61] at H
                                                  exact absurd H (by simp)
                                              · rw [if_neg c60] at H
                                                exact absurd H (by simp)
                                            · rw [if_neg c59] at H
                                              exact absurd H (by simp)
                                        · rw [if_neg c49] at H
                                          have c49b0 : decide (x92_5 < (t237.length : Int)) = false := decide_eq_false c49
                                          clear c49
                                          obtain rfl := Option.some.inj H
                                          go_wp2
                                          go_ret
                                          exact ⟨by first | rfl | (simp [errW_none, errW_some] <;> rfl) | (simp only [← hji27]; first | rfl | (simp [errW_none, errW_some] <;> rfl)) | (simp [*, errW_none, errW_some] <;> rfl), by repeat (first | (with_reducible first | exact HB.out | apply below_alloc | apply pw_below_drewN | apply below_drew1) | exact HB.out)⟩
                            · rw [if_neg c35] at H
                              exact absurd H (by simp)
                          · rw [if_neg c32] at H
                            exact absurd H (by simp)
                        · rw [if_neg c31] at H
                          exact absurd H (by simp)
                      · rw [if_neg c30] at H
                        exact absurd H (by simp)
                    · rw [if_neg c29] at H
                      exact absurd H (by simp)
                  · rw [if_neg c28] at H
                    exact absurd H (by simp)
        · rw [if_neg c13] at H
          have c13b0 : (t239 == 0) = false := beq_eq_false_iff_ne.mpr c13
          have c13b1 : (t239 != 0) = true := bne_iff_ne.mpr c13
          obtain rfl := Option.some.inj H
          go_wp2_with (first | ((with_reducible refine gate_callee (f := 13) rfl ?_); refine goesL_ (some 28) rfl rfl Try.func13 (by kernel_rfl) rfl #[.string a0] rfl (by (try simp only [List.map_toArray, List.map_cons, List.map_nil]); first | done | rfl | (simp only [List.length_drop, List.length_take]; rfl)) ?_; (with_reducible refine (lexer_Lex.calls a0 t237 t238 t239 _ A12.out).mono ?_); rintro e w67 ⟨v240, rfl, ho0, hb⟩; refine ⟨_, rfl, ?_⟩; have n0_ := Aside0.mk (Kd.R_lower ho0 (below_size (by repeat (first | (with_reducible first | exact HB.out | apply below_alloc | apply pw_below_drewN | apply below_drew1) | exact HB.out)))); have n1_ := Aside0.mk (below_step (by repeat (first | (with_reducible first | exact HB.out | apply below_alloc | apply pw_below_drewN | apply below_drew1) | exact HB.out)) hb); clear HB; have HO241 := n0_; have HB := n1_; clear n0_ n1_; (try clear hb); (try clear hb2); (try clear hk); (try clear hi); (try clear ho0)))
          go_ret
          exact ⟨by first | rfl | (simp [errW_none, errW_some] <;> rfl) | (simp [*, errW_none, errW_some] <;> rfl) | (rw [wrap64_wrap_add]; rfl) | (have e_ := Option.some.inj (A28.out.symm.trans A30.out); subst e_; rfl), by repeat (first | (with_reducible first | exact HB.out | apply below_alloc | apply pw_below_drewN | apply below_drew1) | exact HB.out)⟩

/-- THE ONE PURE STATEMENT of cylinderlaw35_LexerBlanks: yours. -/
def cylinderlaw35_LexerBlanks.Pure : Prop := ∀ (a0 : ByteArray) (a1 : Int) (a2 : Int), a0.size ≤ 140737488351232 → (Lit.int .u8 a1).wf = true → (Lit.int .u8 a2).wf = true → ∃ k, cylinderlaw35_LexerBlanks.f k a0 a1 a2 = some true
theorem cylinderlaw35_LexerBlanks.walk (P : cylinderlaw35_LexerBlanks.Pure) (a0 : ByteArray) (a1 : Int) (a2 : Int) (w : World) (w0 : a0.size ≤ 140737488351232) (w1 : (Lit.int .u8 a1).wf = true) (w2 : (Lit.int .u8 a2).wf = true) :
    Calls Try.prog 5 #[.string a0, .int .u8 a1, .int .u8 a2] w fun e w' => e = .returned (.bool true) ∧ Below w.heap.size w w' := by
  obtain ⟨k, h⟩ := P a0 a1 a2 w0 w1 w2
  refine (cylinderlaw35_LexerBlanks.calls k a0 a1 a2 true w h).mono ?_
  rintro e w' ⟨rfl, hd⟩
  exact ⟨rfl, hd⟩

end Go.Proofs.Ytkomgnaleocleaa.PAll
