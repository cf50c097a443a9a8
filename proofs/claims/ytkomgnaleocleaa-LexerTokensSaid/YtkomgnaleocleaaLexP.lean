/- Plain laws on the tokens of a text: what the first token is, how a text with a blank in it is cut, how a beginning of a text is cut. No program in sight. -/
import Derived.Test.YtkomgnaleocleaaLexB
namespace Go.Proofs.Ytkomgnaleocleaa.PAll
open Go.RowKit Go.Proofs.YtkomgnaleocleaaW.PrintWords Go.Proofs.YtkomgnaleocleaaW.PrintLast Go.Proofs.YtkomgnaleocleaaW.PrintMore

theorem Ev.ifp {α : Type} {c : Prop} [Decidable c] {a b : Nat → Option α} {r : α} (h : c) (e : Ev a r) : Ev (fun k => if c then a k else b k) r := by
  simp only [if_pos h]; exact e
theorem Ev.ifn {α : Type} {c : Prop} [Decidable c] {a b : Nat → Option α} {r : α} (h : ¬ c) (e : Ev b r) : Ev (fun k => if c then a k else b k) r := by
  simp only [if_neg h]; exact e
theorem Ev.val {α : Type} {a r : α} (h : a = r) : Ev (fun _ => some a) r := by rw [h]; exact Ev.now r

theorem Ev.bc {α β : Type} {g : Option α} {a : α} {f : Nat → α → Option β} {r : β} (h : g = some a) (e : Ev (fun k => f k a) r) : Ev (fun k => g.bind (f k)) r := by
  rw [h]; exact e
theorem Ev.to {α : Type} {g : Nat → Option α} {r r' : α} (h : r = r') (e : Ev g r') : Ev g r := by rw [h]; exact e
/-- A token as its parts. -/
def tk (k : Int) (l : List UInt8) (a : Nat) : S30 := ⟨k, ⟨l.toArray⟩, (a : Int)⟩
/-- What the next step of the cutting is: blanks alone, an error behind b blanks, a token behind b blanks. -/
theorem sc_step : ∀ (l : List UInt8) (a : Nat),
    ((∀ c ∈ l, blankB c = true) ∧ sc l a = ([], 0, 0)) ∨
    (∃ b r, b < l.length ∧ (∀ c ∈ l.take b, blankB c = true) ∧ r ≠ 0 ∧ (nxt (l.drop b)).2.2 = r ∧ (∃ c cs, l.drop b = c :: cs ∧ blankB c = false) ∧ sc l a = ([], ((a + b : Nat) : Int), r)) ∨
    (∃ b n k, b + n ≤ l.length ∧ 1 ≤ n ∧ (∀ c ∈ l.take b, blankB c = true) ∧ nxt (l.drop b) = (k, n, 0) ∧ (∃ c cs, l.drop b = c :: cs ∧ blankB c = false) ∧
      sc l a = (tk k ((l.drop b).take n) (a + b) :: (sc (l.drop (b + n)) (a + b + n)).1, (sc (l.drop (b + n)) (a + b + n)).2))
  | [], a => .inl ⟨by simp, sc_nil a⟩
  | c :: cs, a => by
    by_cases hb : blankB c = true
    · rw [sc_blank hb]
      rcases sc_step cs (a + 1) with ⟨h1, h2⟩ | ⟨b, r, h1, h2, h3, h4, h5, h6⟩ | ⟨b, n, k, h1, h2, h3, h4, h5, h6⟩
      · exact .inl ⟨by simpa [hb] using h1, h2⟩
      · refine .inr (.inl ⟨b + 1, r, by simp; omega, by simpa [hb] using h2, h3, by simpa using h4, by simpa using h5, ?_⟩)
        rw [h6, show a + 1 + b = a + (b + 1) by omega]
      · refine .inr (.inr ⟨b + 1, n, k, by simp; omega, h2, by simpa [hb] using h3, by simpa using h4, by simpa using h5, ?_⟩)
        rw [h6, show a + 1 + b = a + (b + 1) by omega, show b + 1 + n = b + n + 1 by omega]
        simp
    · rw [Bool.not_eq_true] at hb
      by_cases he : (nxt (c :: cs)).2.2 = 0
      · obtain ⟨k, n, r, hn⟩ : ∃ k n r, nxt (c :: cs) = (k, n, r) := ⟨_, _, _, rfl⟩
        have hp := nxt_pos he (by simp)
        have hs := sc_tok (a := a) hb he
        rw [hn] at hp he hs
        simp only at hp he hs
        subst he
        refine .inr (.inr ⟨0, n, k, by omega, hp.1, by simp, by simpa using hn, ⟨c, cs, rfl, hb⟩, ?_⟩)
        rw [hs]
        simp [tk]
      · exact .inr (.inl ⟨0, _, by simp, by simp, he, rfl, ⟨c, cs, rfl, hb⟩, by rw [sc_err hb he]; simp⟩)

/-- Offsets move along. -/
def shiftT (d : Nat) (t : S30) : S30 := ⟨t.f0, t.f1, t.f2 + (d : Int)⟩
theorem sc_shift : ∀ (n : Nat) (l : List UInt8) (a d : Nat), l.length ≤ n →
    (sc l (a + d)).1 = (sc l a).1.map (shiftT d) ∧ (sc l (a + d)).2.2 = (sc l a).2.2 ∧ ((sc l a).2.2 ≠ 0 → (sc l (a + d)).2.1 = (sc l a).2.1 + (d : Int)) ∧ ((sc l a).2.2 = 0 → (sc l a).2.1 = 0) := by
  intro n
  induction n with
  | zero =>
    intro l a d h
    cases l with
    | nil => rw [sc_nil, sc_nil]; simp
    | cons => simp at h
  | succ n ih =>
    intro l a d h
    cases l with
    | nil => rw [sc_nil, sc_nil]; simp
    | cons c cs =>
      simp only [List.length_cons] at h
      by_cases hb : blankB c = true
      · rw [sc_blank hb, sc_blank hb, show a + d + 1 = a + 1 + d by omega]
        exact ih cs (a + 1) d (by omega)
      · rw [Bool.not_eq_true] at hb
        by_cases he : (nxt (c :: cs)).2.2 = 0
        · have hp := nxt_pos he (by simp)
          rw [sc_tok hb he, sc_tok hb he, show a + d + (nxt (c :: cs)).2.1 = a + (nxt (c :: cs)).2.1 + d by omega]
          obtain ⟨h1, h2, h3, h4⟩ := ih ((c :: cs).drop (nxt (c :: cs)).2.1) (a + (nxt (c :: cs)).2.1) d (by rw [List.length_drop]; simp; omega)
          refine ⟨?_, h2, h3, h4⟩
          simp only [List.map_cons, h1, shiftT]
          simp
        · rw [sc_err hb he, sc_err hb he]
          refine ⟨rfl, rfl, fun _ => by simp, fun h => absurd h he⟩

/-- The first error stands in the text. -/
theorem sc_err_at : ∀ (n : Nat) (l : List UInt8) (a : Nat), l.length ≤ n → (sc l a).2.2 ≠ 0 → (a : Int) ≤ (sc l a).2.1 ∧ (sc l a).2.1 < (a : Int) + l.length := by
  intro n
  induction n with
  | zero =>
    intro l a h h0
    cases l with
    | nil => rw [sc_nil] at h0; exact absurd rfl h0
    | cons => simp at h
  | succ n ih =>
    intro l a h h0
    rcases sc_step l a with ⟨_, h2⟩ | ⟨b, r, h1, _, _, _, _, h6⟩ | ⟨b, m, k, h1, h2, _, _, _, h6⟩
    · rw [h2] at h0; exact absurd rfl h0
    · rw [h6]; simp only; omega
    · rw [h6] at h0 ⊢
      have := ih (l.drop (b + m)) (a + b + m) (by rw [List.length_drop]; omega) h0
      rw [List.length_drop] at this
      simp only
      omega

/-! ### A blank ends a token -/
theorem blank_no {c : UInt8} (h : blankB c = true) : digB c = false ∧ alnB c = false ∧ c ≠ 60 ∧ c ≠ 61 ∧ c ≠ 62 := by
  unfold blankB at h
  simp only [Bool.or_eq_true, beq_iff_eq] at h
  rcases h with ((h | h) | h) | h <;> subst h <;> exact ⟨by decide, by decide, by decide, by decide, by decide⟩
theorem run_blank {p : UInt8 → Bool} {c : UInt8} (hp : p c = false) (v : List UInt8) : ∀ u : List UInt8, runL p (u ++ c :: v) = runL p u
  | [] => by simp [runL, hp]
  | x :: u => by simp only [List.cons_append, runL, run_blank hp v u]
theorem nxt_blank {c : UInt8} (hc : blankB c = true) (x : UInt8) (u v : List UInt8) : nxt (x :: u ++ c :: v) = nxt (x :: u) := by
  obtain ⟨h1, h2, h3, h4, h5⟩ := blank_no hc
  have r1 := run_blank h1 v (x :: u)
  have r2 := run_blank h2 v (x :: u)
  have ht : (x :: u ++ c :: v).take (runL alnB (x :: u)) = (x :: u).take (runL alnB (x :: u)) := List.take_append_of_le_length (runL_le _ _)
  have h2t : ∀ a b : UInt8, b ≠ c → ((x :: (u ++ c :: v)).take 2 = [a, b] ↔ (x :: u).take 2 = [a, b]) := by
    intro a b hb
    cases u with
    | nil => simp; intro _ h; exact absurd h.symm hb
    | cons y u => simp
  simp only [List.cons_append] at r1 r2 ht ⊢
  simp only [nxt, r1, r2, ht]
  simp only [h2t _ _ h5.symm, h2t _ _ h4.symm]

/-- Two texts with a blank between. -/
theorem sc_two {c : UInt8} (hc : blankB c = true) (v : List UInt8) : ∀ (n : Nat) (u : List UInt8) (a : Nat), u.length ≤ n →
    ((sc u a).2.2 = 0 → sc (u ++ c :: v) a = ((sc u a).1 ++ (sc v (a + u.length + 1)).1, (sc v (a + u.length + 1)).2)) ∧ ((sc u a).2.2 ≠ 0 → sc (u ++ c :: v) a = sc u a) := by
  intro n
  induction n with
  | zero =>
    intro u a h
    cases u with
    | nil => refine ⟨fun _ => ?_, fun h => absurd rfl h⟩; rw [List.nil_append, sc_blank hc, sc_nil]; rfl
    | cons => simp at h
  | succ n ih =>
    intro u a h
    cases u with
    | nil => refine ⟨fun _ => ?_, fun h => absurd rfl h⟩; rw [List.nil_append, sc_blank hc, sc_nil]; rfl
    | cons x u =>
      simp only [List.length_cons] at h
      by_cases hb : blankB x = true
      · have := ih u (a + 1) (by omega)
        rw [List.cons_append, sc_blank hb, sc_blank hb, List.length_cons, show a + (u.length + 1) + 1 = a + 1 + u.length + 1 by omega]
        exact this
      · rw [Bool.not_eq_true] at hb
        have hn := nxt_blank hc x u v
        by_cases he : (nxt (x :: u)).2.2 = 0
        · have hp := nxt_pos he (by simp)
          have h1 := ih ((x :: u).drop (nxt (x :: u)).2.1) (a + (nxt (x :: u)).2.1) (by rw [List.length_drop]; simp; omega)
          have hd : (x :: u ++ c :: v).drop (nxt (x :: u)).2.1 = (x :: u).drop (nxt (x :: u)).2.1 ++ c :: v := List.drop_append_of_le_length hp.2
          have ht : (x :: u ++ c :: v).take (nxt (x :: u)).2.1 = (x :: u).take (nxt (x :: u)).2.1 := List.take_append_of_le_length hp.2
          have e : sc (x :: u ++ c :: v) a = (⟨(nxt (x :: u)).1, ⟨((x :: u).take (nxt (x :: u)).2.1).toArray⟩, a⟩ :: (sc ((x :: u).drop (nxt (x :: u)).2.1 ++ c :: v) (a + (nxt (x :: u)).2.1)).1, (sc ((x :: u).drop (nxt (x :: u)).2.1 ++ c :: v) (a + (nxt (x :: u)).2.1)).2) := by
            have := sc_tok (c := x) (cs := u ++ c :: v) (a := a) hb (by rw [← List.cons_append, hn]; exact he)
            rw [← List.cons_append, hn, hd, ht] at this
            exact this
          have el : a + (nxt (x :: u)).2.1 + ((x :: u).drop (nxt (x :: u)).2.1).length + 1 = a + (x :: u).length + 1 := by rw [List.length_drop]; omega
          rw [el] at h1
          rw [e, sc_tok hb he]
          refine ⟨fun h => ?_, fun h => ?_⟩
          · rw [h1.1 h]; rfl
          · rw [h1.2 h]
        · rw [sc_err hb he]
          refine ⟨fun h => absurd h he, fun _ => ?_⟩
          have := sc_err (c := x) (cs := u ++ c :: v) (a := a) hb (by rw [← List.cons_append, hn]; exact he)
          rw [← List.cons_append, hn] at this
          exact this
end Go.Proofs.Ytkomgnaleocleaa.PAll
