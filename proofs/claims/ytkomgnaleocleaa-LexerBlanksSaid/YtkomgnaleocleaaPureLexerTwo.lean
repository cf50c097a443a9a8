/- LexerTwo: two texts with a blank between have the tokens of both, or the first one's error, or the second one's. -/
import Derived.Test.YtkomgnaleocleaaPAllx6
import Derived.Test.YtkomgnaleocleaaLexQ
namespace Go.Proofs.Ytkomgnaleocleaa.Pure
open Go.RowKit Go.Proofs.Ytkomgnaleocleaa.PAll Go.Proofs.YtkomgnaleocleaaW.PrintWords Go.Proofs.YtkomgnaleocleaaW.PrintLast

theorem rd_left (xs ys : List S30) {j : Nat} (h : j < xs.length) : rd_T30 (xs ++ ys) (j : Int) = rd_T30 xs (j : Int) := by
  simp only [rd_T30, Int.toNat_natCast, List.getD_eq_getElem?_getD]
  rw [List.getElem?_append_left h]
theorem rd_right (xs ys : List S30) {j : Nat} (h : xs.length ≤ j) : rd_T30 (xs ++ ys) (j : Int) = rd_T30 ys ((j - xs.length : Nat) : Int) := by
  simp only [rd_T30, Int.toNat_natCast, List.getD_eq_getElem?_getD]
  rw [List.getElem?_append_right h]
theorem rd_shift (d : Nat) (ys : List S30) {j : Nat} (h : j < ys.length) : rd_T30 (ys.map (shiftT d)) (j : Int) = shiftT d (rd_T30 ys (j : Int)) := by
  simp only [rd_T30, Int.toNat_natCast, List.getD_eq_getElem?_getD]
  rw [List.getElem?_map, List.getElem?_eq_getElem h]
  rfl

/-- Every token of a short text stands within it. -/
theorem sc_at : ∀ (n : Nat) (l : List UInt8) (a : Nat), l.length ≤ n → ∀ t ∈ (sc l a).1, (a : Int) ≤ t.f2 ∧ t.f2 < (a : Int) + l.length := by
  intro n
  induction n with
  | zero =>
    intro l a h t ht
    cases l with
    | nil => rw [sc_nil] at ht; cases ht
    | cons => simp at h
  | succ n ih =>
    intro l a h t ht
    rcases sc_step l a with ⟨_, h2⟩ | ⟨b, r, _, _, _, _, _, h6⟩ | ⟨b, m, k, h1, h2, _, _, _, h6⟩
    · rw [h2] at ht; cases ht
    · rw [h6] at ht; cases ht
    · rw [h6] at ht
      rcases List.mem_cons.1 ht with rfl | ht
      · simp only [tk]; omega
      · have := ih (l.drop (b + m)) (a + b + m) (by rw [List.length_drop]; omega) t ht
        rw [List.length_drop] at this
        omega

theorem two_loop (a : ByteArray) (xs ys : List S30) (ha : a.size < 2000) (hx : xs.length ≤ 2000) (hy : ys.length ≤ 2000) (hp : ∀ t ∈ ys, 0 ≤ t.f2 ∧ t.f2 < 2000) :
    ∀ (d j : Nat), j + d = xs.length + ys.length → Ev (fun k => cylinderlaw35_LexerTwo.l0 k a xs ys (xs ++ ys.map (shiftT (a.size + 1))) (((xs ++ ys.map (shiftT (a.size + 1))).length : Nat) : Int) (j : Int)) true := by
  have hl : (xs ++ ys.map (shiftT (a.size + 1))).length = xs.length + ys.length := by simp
  rw [hl]
  intro d
  induction d with
  | zero =>
    intro j hj
    refine Ev.step (fun k => by rw [cylinderlaw35_LexerTwo.l0]) ?_
    exact Ev.ifn (by omega) (Ev.val rfl)
  | succ d ih =>
    intro j hj
    refine Ev.step (fun k => by rw [cylinderlaw35_LexerTwo.l0]) ?_
    refine Ev.ifp (by omega) ?_
    have hih := ih (j + 1) (by omega)
    rw [show ((j + 1 : Nat) : Int) = (j : Int) + 1 by omega] at hih
    by_cases h : j < xs.length
    · refine Ev.ifp (by omega) (Ev.ifp (by omega) (Ev.ifp (by rw [hl]; omega) ?_))
      refine Ev.step (fun k => by rw [cylinderlaw35_LexerTwo.j3]) ?_
      rw [rd_left xs _ h]
      refine Ev.ifn (by simp) (Ev.ifn (by omega) ?_)
      rw [wrap_ok (by omega) (by omega)]
      exact hih
    · refine Ev.ifn (by omega) ?_
      refine Ev.step (fun k => by rw [cylinderlaw35_LexerTwo.j3]) ?_
      have hj' : j - xs.length < ys.length := by omega
      have e : wrap64 ((j : Int) - (xs.length : Int)) = ((j - xs.length : Nat) : Int) := by rw [wrap_ok (by omega) (by omega)]; omega
      rw [rd_right xs _ (by omega), rd_shift _ _ hj', e]
      have hm : rd_T30 ys ((j - xs.length : Nat) : Int) ∈ ys := by
        simp only [rd_T30, Int.toNat_natCast, List.getD_eq_getElem?_getD]
        rw [List.getElem?_eq_getElem hj']
        exact List.getElem_mem _
      have hq := hp _ hm
      refine Ev.ifn (by simp) (Ev.ifp (by omega) (Ev.ifp (by omega) (Ev.ifp (by rw [hl]; omega) (Ev.ifp (by omega) (Ev.ifp (by omega) (Ev.ifp rfl (Ev.ifp ?_ ?_)))))))
      · simp only [shiftT]
        rw [wrap_ok (show -9223372036854775808 ≤ (rd_T30 ys ((j - xs.length : Nat) : Int)).f2 + (a.size : Int) by omega) (by omega), wrap_ok (by omega) (by omega)]
        omega
      · rw [wrap_ok (by omega) (by omega)]
        exact hih

theorem app_list (a b : ByteArray) : ((a ++ (⟨#[32]⟩ : ByteArray)) ++ b).toList = a.toList ++ 32 :: b.toList := by
  simp [ByteArray.toList_eq]
theorem app_size (a b : ByteArray) : ((a ++ (⟨#[32]⟩ : ByteArray)) ++ b).size = a.size + 1 + b.size := by
  rw [← len_list, app_list, List.length_append, List.length_cons, len_list, len_list]; omega
theorem app_size1 (a : ByteArray) : (a ++ (⟨#[32]⟩ : ByteArray)).size = a.size + 1 := by
  have e : (a ++ (⟨#[32]⟩ : ByteArray)).toList = a.toList ++ [32] := by simp [ByteArray.toList_eq]
  rw [← len_list, e, List.length_append, len_list]; rfl
theorem room1 {n : Nat} (h : n < 2000) : n + 1 ≤ 9223372036854775807 := by omega
theorem room2 {z n m : Nat} (hz : z = n + 1) (h : n < 2000) (h' : m < 2000) : z + m ≤ 9223372036854775807 := by omega

theorem LexerTwo : cylinderlaw35_LexerTwo.Pure := by
  intro a b _ _
  refine Ev.rounds (g := fun k => cylinderlaw35_LexerTwo.f k a b) ?_
  unfold cylinderlaw35_LexerTwo.f
  refine Ev.bc awake_true (Ev.ifp rfl ?_)
  by_cases ha : a.size < 2000
  · refine Ev.ifn (by omega) ?_
    refine Ev.step (fun k => by rw [cylinderlaw35_LexerTwo.j0]) ?_
    by_cases hb : b.size < 2000
    · refine Ev.ifn (by simp; omega) ?_
      have hz := app_size a b
      have hz1 := app_size1 a
      obtain ⟨t1, t2⟩ := sc_two (c := 32) rfl b.toList a.toList.length a.toList 0 (Nat.le_refl _)
      obtain ⟨q1, q2, q3, q4⟩ := sc_shift b.toList.length b.toList 0 (a.size + 1) (Nat.le_refl _)
      rw [len_list, Nat.zero_add] at t1
      rw [Nat.zero_add] at q1 q2 q3
      have hla := sc_len' a
      have hlb := sc_len' b
      by_cases h0 : (sc a.toList 0).2.2 = 0
      · have t1 := t1 h0
        rw [← app_list] at t1
        refine Ev.bc (lex_ok (show a.size ≤ 4000 by omega) h0) ?_
        by_cases h1 : (sc b.toList 0).2.2 = 0
        · refine Ev.bc (lex_ok (show b.size ≤ 4000 by omega) h1) ?_
          refine Ev.ifp (room1 ha) (Ev.ifp (room2 hz1 ha hb) ?_)
          have hc : (sc ((a ++ (⟨#[32]⟩ : ByteArray)) ++ b).toList 0).2.2 = 0 := by rw [t1, q2]; exact h1
          refine Ev.bc (lex_ok (show ((a ++ (⟨#[32]⟩ : ByteArray)) ++ b).size ≤ 4000 by omega) hc) ?_
          refine Ev.ifp rfl (Ev.ifp rfl (Ev.ifp rfl ?_))
          refine Ev.step (fun k => by rw [cylinderlaw35_LexerTwo.j1]) ?_
          rw [t1, q1]
          refine Ev.ifn ?_ ?_
          · simp only [List.length_append, List.length_map, Bool.not_eq_true, bne_eq_false_iff_eq]
            rw [wrap_ok (by omega) (by omega)]
            omega
          · refine two_loop a (sc a.toList 0).1 (sc b.toList 0).1 ha (by omega) (by omega) (fun t ht => ?_) _ 0 (Nat.zero_add _)
            have := sc_at _ b.toList 0 (Nat.le_refl _) t ht
            rw [len_list] at this
            omega
        · refine Ev.bc (lex_bad (show b.size ≤ 4000 by omega) h1) ?_
          refine Ev.ifp (room1 ha) (Ev.ifp (room2 hz1 ha hb) ?_)
          have hc : (sc ((a ++ (⟨#[32]⟩ : ByteArray)) ++ b).toList 0).2.2 ≠ 0 := by rw [t1]; simp only; rw [q2]; exact h1
          refine Ev.bc (lex_bad (show ((a ++ (⟨#[32]⟩ : ByteArray)) ++ b).size ≤ 4000 by omega) hc) ?_
          have e2 : (sc ((a ++ (⟨#[32]⟩ : ByteArray)) ++ b).toList 0).2 = (sc b.toList (a.size + 1)).2 := by rw [t1]
          refine Ev.ifp rfl (Ev.ifn h1 (Ev.ifp (by rw [e2, q2]) (Ev.val ?_)))
          rw [e2, q3 h1, wrap_ok (show -9223372036854775808 ≤ (a.size : Int) + 1 by omega) (by omega)]
          have hbd : 0 ≤ (sc b.toList 0).2.1 ∧ (sc b.toList 0).2.1 ≤ b.size := by
            rcases sc_err_at b.toList.length b.toList 0 (Nat.le_refl _) h1 with ⟨g1, g2⟩
            rw [len_list] at g2
            omega
          dsimp only
          rw [wrap_ok (by omega) (by omega)]
          rw [beq_iff_eq]; omega
      · have t2 := t2 h0
        rw [← app_list] at t2
        refine Ev.bc (lex_bad (show a.size ≤ 4000 by omega) h0) ?_
        have hc : (sc ((a ++ (⟨#[32]⟩ : ByteArray)) ++ b).toList 0).2.2 ≠ 0 := by rw [t2]; exact h0
        have hlex : lexer_Lex.f ((a ++ (⟨#[32]⟩ : ByteArray)) ++ b) = some ([], (sc a.toList 0).2) := by
          rw [lex_bad (by omega) hc, t2]
        obtain ⟨bt, hbt⟩ : ∃ bt, lexer_Lex.f b = some bt := ⟨_, rfl⟩
        refine Ev.bc hbt (Ev.ifp (room1 ha) (Ev.ifp (room2 hz1 ha hb) (Ev.bc hlex (Ev.ifn h0 (Ev.ifp rfl (Ev.val (by simp)))))))
    · exact Ev.ifp (by simp; omega) (Ev.bc awake_true (Ev.val rfl))
  · refine Ev.ifp (by omega) ?_
    refine Ev.step (fun k => by rw [cylinderlaw35_LexerTwo.j0]) ?_
    exact Ev.ifp rfl (Ev.bc awake_true (Ev.val rfl))

end Go.Proofs.Ytkomgnaleocleaa.Pure
