/- natural.trim, natural.Normal, integer.made, From, Normal: the canonical form of a number. -/
import Derived.Test.YtddpojinlapmfaaFmA
namespace Go.Proofs.Ytddpojinlapmfaa.PRef
set_option linter.unusedVariables false
set_option linter.unusedSimpArgs false
open Go.RowKit Go.Proofs.YtddpojinlapmfaaW.PrintWords Go.Proofs.YtddpojinlapmfaaW.PrintLast Go.Proofs.YtddpojinlapmfaaW.PrintMore

theorem trimL_zero (ys : List Int) : trimL (ys ++ [0]) = trimL ys := by simp [trimL]
theorem trimL_stop (ys : List Int) {x : Int} (h : x ≠ 0) : trimL (ys ++ [x]) = ys ++ [x] := by simp [trimL, h]
theorem trimL_nil : trimL [] = [] := rfl
theorem trimL_take (xs : List Int) : trimL xs = xs.take (trimL xs).length := by
  induction h : xs.length generalizing xs with
  | zero => have : xs = [] := List.eq_nil_of_length_eq_zero h; subst this; rfl
  | succ n ih =>
    rcases List.eq_nil_or_concat xs with rfl | ⟨ys, x, rfl⟩
    · rfl
    · rw [List.concat_eq_append] at h ⊢
      have hl : ys.length = n := by simpa using h
      by_cases hx : x = 0
      · subst hx
        rw [trimL_zero]
        have := ih ys hl
        have hle : (trimL ys).length ≤ ys.length := by rw [this]; simp; omega
        rw [List.take_append_of_le_length hle]
        exact this
      · rw [trimL_stop ys hx, List.take_length]
theorem trimL_le (xs : List Int) : (trimL xs).length ≤ xs.length := by
  have := congrArg List.length (trimL_take xs)
  rw [List.length_take] at this
  omega

set_option maxRecDepth 100000 in
set_option maxHeartbeats 800000 in
theorem trim_any (A : Option Addr) (c : Nat) (xs : List Int) (w : World) (hc : xs.length ≤ c) (hC : (Kd.int .u32).C w A xs.length xs) :
    Calls Try.prog 103 #[.slice A xs.length c] w fun e w' => (∃ A' c', e = .returned (.slice A' (trimL xs).length c') ∧ (trimL xs).length ≤ c' ∧ (Kd.int .u32).C w A' (trimL xs).length (trimL xs)) ∧ w = w' := by
  have hmax : xs.length ≤ 9223372036854775807 := hC.2.1
  obtain ⟨R, hR⟩ : ∃ R, trimL xs = R := ⟨_, rfl⟩
  have HR := Lib.hid hR
  rw [hR]
  clear hR
  go_enter Try.func103, Try.ntmps103
  go_wp2_with fail
  go_loop [3] (fun v => ∃ n : Nat, n ≤ xs.length ∧ v = .int .i64 n ∧ Hid (trimL (xs.take n) = R)) (fun v => (intOf v).toNat)
  case atStart => exact ⟨xs.length, Nat.le_refl _, rfl, Lib.hid (by rw [List.take_length, HR.out])⟩
  case round =>
    obtain ⟨n, hn, rfl, H⟩ := hrel
    cases n with
    | zero =>
      go_wp2_with fail
      go_ret
      have h := H.out
      rw [List.take_zero, trimL_nil] at h
      clear H HR
      subst h
      exact ⟨⟨none, 0, rfl, Nat.le_refl _, rfl, by simp, fun h => absurd h (Nat.lt_irrefl _)⟩, rfl⟩
    | succ m =>
      obtain ⟨ad, rfl, hcell⟩ := Kd.at_int hC (m : Int) (by omega) (by omega)
      have hx : rd xs (m : Int) = xs[m] := by have hm : m < xs.length := by omega
                                              simp [rd, List.getElem?_eq_getElem hm]
      rw [hx] at hcell
      simp only [Int.toNat_natCast] at hcell
      by_cases h0 : xs[m] = 0
      · have H2 := H.out
        rw [← List.take_append_getElem (by omega : m < xs.length), h0, trimL_zero] at H2
        have H3 := Lib.hid H2
        clear H2 H
        have hc0 : (xs[m] == 0) = true := beq_iff_eq.2 h0
        go_wp2_with fail
        go_round
        case rel => exact ⟨m, by omega, by go_num, H3⟩
        case measure => simp [intOf]
      · have hc0 : (xs[m] == 0) = false := beq_eq_false_iff_ne.2 h0
        have hm1 : ((m : Int) + 1 == 0) = false := beq_eq_false_iff_ne.2 (by omega)
        have hlc : ((m : Int) + 1) ≤ (c : Int) := by omega
        go_wp2_with fail
        go_ret
        have H2 := H.out
        rw [← List.take_append_getElem (by omega : m < xs.length), trimL_stop _ h0, List.take_append_getElem] at H2
        clear H HR
        subst H2
        have hl : (xs.take (m + 1)).length = m + 1 := by rw [List.length_take]; omega
        have hT := Kd.C_take (m := m + 1) hC hn
        rw [hl] at hT ⊢
        exact ⟨⟨some ad, c, rfl, by omega, hT⟩, rfl⟩

set_option maxRecDepth 100000 in
set_option maxHeartbeats 800000 in
theorem normalN_any (A : Option Addr) (c : Nat) (xs : List Int) (w : World) (hx : xs.length ≤ 1000) (hc : xs.length ≤ c) (hC : (Kd.int .u32).C w A xs.length xs) :
    Calls Try.prog 100 #[.slice A xs.length c] w fun e w' => ∃ v, e = .returned v ∧ (Kd.int .u32).R 103 w' w.heap.size (fun _ => True) v (trimL xs) ∧ Below w.heap.size w w' := by
  have hle := trimL_le xs
  go_enter Try.func100, Try.ntmps100
  go_wp2_with (first | (go_at_call 103; refine (trim_any A c xs _ hc hC).mono ?_; rintro e w1 ⟨⟨A1, c1, rfl, hc1, hC1⟩, rfl⟩) | (at_builtin; refine Kd.R_append_rows (Kd.int .u32) (w0 := w) w.heap.size rfl (.const (.slice none 0 0)) (.tmp 4) 23 103 (.int .u32 0) 4 rfl Try.underlying23 info103 rfl (by decide) (by omega) (.slice none 0 0) [] (trimL xs) _ _ _ (fun _ => True) (fun _ => False) rfl rfl (Kd.R_nil _ _ _ _ _) hC1 (fun _ _ h => h) (fun _ h => h.elim) (fun _ _ => trivial) (Below.refl _ _) (Nat.le_refl _) (by simp; omega) ?_; intro v1 w2 ho hb hg hat))
  rw [List.nil_append] at ho
  go_ret
  exact ⟨v1, rfl, ho, hb⟩

/-- What an own row reads as: a slice of its length. -/
theorem own_slice {w : World} {base : Nat} {ok : Nat → Prop} {v : Value} {xs : List Int} (h : (Kd.int .u32).R 103 w base ok v xs) : ∃ A c, v = .slice A xs.length c := by
  obtain ⟨A, c, e, _⟩ := Kd.R_reads h
  exact ⟨A, c, e⟩

set_option maxRecDepth 100000 in
set_option maxHeartbeats 800000 in
theorem made_any (n : Bool) (A : Option Addr) (m c : Nat) (w : World) :
    Calls Try.prog 99 #[.bool n, .slice A m c] w fun e w' => e = .returned (.agg #[.bool (n && decide (0 < m)), .slice A m c]) ∧ Below w.heap.size w w' := by
  have hu25 := Try.underlying25
  cases n with
  | false =>
    go_enter Try.func99, Try.ntmps99
    go_wp2_with fail
    exact bodyPost_ret (v := .agg #[.bool false, .slice A m c]) (by simp [results, Try.results99, go_sem]) rfl ⟨rfl, (Below.refl _ w).alloc (Nat.le_refl _) _⟩
  | true =>
    go_enter Try.func99, Try.ntmps99
    go_wp2_with fail
    exact bodyPost_ret (v := .agg #[.bool (decide (0 < m)), .slice A m c]) (by simp [results, Try.results99, go_sem]) rfl ⟨by rw [Bool.true_and], (Below.refl _ w).alloc (Nat.le_refl _) _⟩

theorem isEmpty_pos (xs : List Int) : decide (0 < xs.length) = !xs.isEmpty := by cases xs <;> simp

/-- What a block of two cells gives a walk. -/
theorem two_cells {w : World} {g t : Nat} {u v : Value} (h : w.heap[g]? = some (.cells #[u, v] t (0, 0))) :
    w.cell? ⟨g, 0, none⟩ = some u ∧ w.cell? ⟨g, 1, none⟩ = some v ∧ w.frozen? ⟨g, 0, none⟩ = false ∧ w.frozen? ⟨g, 1, none⟩ = false :=
  ⟨(blk_cell h 0).trans rfl, (blk_cell h 1).trans rfl, blk_frozen h 0, blk_frozen h 1⟩
theorem two_put {w : World} {g t : Nat} {u v : Value} (h : w.heap[g]? = some (.cells #[u, v] t (0, 0))) (u' v' : Value) :
    ((w.setCell ⟨g, 0, none⟩ u').setCell ⟨g, 1, none⟩ v').heap[g]? = some (.cells #[u', v'] t (0, 0)) := blk_put (blk_put h 0 u' rfl) 1 v' rfl

set_option maxRecDepth 100000 in
set_option maxHeartbeats 800000 in
theorem from_any (n : Bool) (A : Option Addr) (c : Nat) (xs : List Int) (w : World) (hx : xs.length ≤ 1000) (hc : xs.length ≤ c) (hC : (Kd.int .u32).C w A xs.length xs) :
    Calls Try.prog 84 #[.bool n, .slice A xs.length c] w fun e w' => ∃ v, e = .returned (.agg #[.bool (normI n xs).f0, v]) ∧ (Kd.int .u32).R 103 w' w.heap.size (fun _ => True) v (normI n xs).f1 ∧ Below w.heap.size w w' := by
  have hu25 := Try.underlying25
  have hC0 := Kd.C_alloc hC (.cells #[.bool false, .slice none 0 0] 25)
  go_enter Try.func84, Try.ntmps84
  go_wp2_with (first | (go_at_call 100; refine (normalN_any A c xs _ hx hc hC0).mono ?_; rintro e w1 ⟨v1, rfl, hR1, hB1⟩; obtain ⟨A1, c1, rfl⟩ := own_slice hR1) | (go_at_call 99; refine (made_any n A1 _ c1 _).mono ?_; rintro e w2 ⟨rfl, hB2⟩; have hb := blk_below (blk_below (blk_new w (.cells #[.bool false, .slice none 0 0] 25)) hB1) hB2; obtain ⟨p0, p1, p2, p3⟩ := two_cells hb))
  have hp := two_put hb (.bool (n && decide (0 < (trimL xs).length))) (.slice A1 (trimL xs).length c1)
  obtain ⟨q0, q1, _, _⟩ := two_cells hp
  refine bodyPost_ret (v := .agg #[.bool (n && decide (0 < (trimL xs).length)), .slice A1 (trimL xs).length c1]) (by simp [results, Try.results84, go_sem, q0, q1]) rfl ⟨_, by rw [isEmpty_pos]; rfl, ?_, ?_⟩
  · have h1 := Kd.R_below hR1 hB2
    have h2 := Kd.R_mono (Kd.R_bound h1) (ok' := fun k => k ≠ w.heap.size) (fun k hk => by have := hk.2.1; rw [World.size_alloc] at this; omega)
    refine Kd.R_mono (Kd.R_lower (Kd.R_far (p := ⟨w.heap.size, 1, none⟩) (Kd.R_far (p := ⟨w.heap.size, 0, none⟩) h2 (fun k hk => hk) _) (fun k hk => hk) _) (by rw [World.size_alloc]; omega)) (fun _ _ => trivial)
  · have hz : w.heap.size ≤ w1.heap.size := by have := hB1.size; rw [World.size_alloc] at this; omega
    exact (((((Below.refl _ w).alloc (Nat.le_refl _) _).trans (hB1.mono (by rw [World.size_alloc]; omega))).trans (hB2.mono hz)).setCell (p := ⟨w.heap.size, 0, none⟩) (Nat.le_refl _) _).setCell (p := ⟨w.heap.size, 1, none⟩) (Nat.le_refl _) _

set_option maxRecDepth 100000 in
set_option maxHeartbeats 800000 in
theorem normal_any (n : Bool) (A : Option Addr) (c : Nat) (xs : List Int) (w : World) (hx : xs.length ≤ 1000) (hc : xs.length ≤ c) (hC : (Kd.int .u32).C w A xs.length xs) :
    Calls Try.prog 59 #[.agg #[.bool n, .slice A xs.length c]] w fun e w' => ∃ v, e = .returned (.agg #[.bool (normI n xs).f0, v]) ∧ (Kd.int .u32).R 103 w' w.heap.size (fun _ => True) v (normI n xs).f1 ∧ Below w.heap.size w w' := by
  have hu25 := Try.underlying25
  have hC0 := Kd.C_alloc (Kd.C_alloc hC (.cells #[.bool n, .slice A xs.length c] 25)) (.cells #[.bool false, .slice none 0 0] 25)
  go_enter Try.func59, Try.ntmps59
  go_wp2_with (go_at_call 84; refine (from_any n A c xs _ hx hc hC0).mono ?_; rintro e w1 ⟨v1, rfl, hR1, hB1⟩; obtain ⟨A1, c1, rfl⟩ := own_slice hR1; have hb := blk_below (blk_new (w.alloc (.cells #[.bool n, .slice A xs.length c] 25)) (.cells #[.bool false, .slice none 0 0] 25)) hB1; rw [World.size_alloc] at hb; obtain ⟨p0, p1, p2, p3⟩ := two_cells hb)
  have hp := two_put hb (.bool (normI n xs).f0) (.slice A1 (normI n xs).f1.length c1)
  obtain ⟨q0, q1, _, _⟩ := two_cells hp
  have hz : w.heap.size + 2 ≤ w1.heap.size := by have := hB1.size; simp only [World.size_alloc] at this; omega
  refine bodyPost_ret (v := .agg #[.bool (normI n xs).f0, .slice A1 (normI n xs).f1.length c1]) (by simp [results, Try.results59, go_sem, q0, q1]) rfl ⟨_, rfl, ?_, ?_⟩
  · have h2 := Kd.R_mono (Kd.R_bound hR1) (ok' := fun k => k ≠ w.heap.size + 1) (fun k hk => by have := hk.2.1; simp only [World.size_alloc] at this; omega)
    refine Kd.R_mono (Kd.R_lower (Kd.R_far (p := ⟨w.heap.size + 1, 1, none⟩) (Kd.R_far (p := ⟨w.heap.size + 1, 0, none⟩) h2 (fun k hk => hk) _) (fun k hk => hk) _) (by simp only [World.size_alloc]; omega)) (fun _ _ => trivial)
  · exact ((((((Below.refl _ w).alloc (Nat.le_refl _) _).alloc (by rw [World.size_alloc]; omega) _).trans (hB1.mono (by simp only [World.size_alloc]; omega))).setCell (p := ⟨w.heap.size + 1, 0, none⟩) (by simp) _)).setCell (p := ⟨w.heap.size + 1, 1, none⟩) (by simp) _
end Go.Proofs.Ytddpojinlapmfaa.PRef
