/- The tokens of a text, told plainly: 'sc l a': the tokens of l, which stands at offset a, then the offset and the number of the first error (0, 0 if there is none). -/
import Derived.Test.YtkomgnaleocleaaLexA
namespace Go.Proofs.Ytkomgnaleocleaa.PAll
open Go.RowKit Go.Proofs.YtkomgnaleocleaaW.PrintWords Go.Proofs.YtkomgnaleocleaaW.PrintLast Go.Proofs.YtkomgnaleocleaaW.PrintMore

def blankB (c : UInt8) : Bool := c == 9 || c == 10 || c == 13 || c == 32

theorem runL_pos {p : UInt8 → Bool} {c : UInt8} {cs : List UInt8} (h : p c = true) : 1 ≤ runL p (c :: cs) := by
  simp only [runL, h, if_true]; omega

theorem nxt_pos {l : List UInt8} (h : (nxt l).2.2 = 0) (hne : l ≠ []) : 1 ≤ (nxt l).2.1 ∧ (nxt l).2.1 ≤ l.length := by
  cases l with
  | nil => exact absurd rfl hne
  | cons c cs =>
    simp only [nxt] at h ⊢
    by_cases h1 : digB c = true
    · rw [if_pos h1] at h ⊢
      by_cases h2 : c = 48 ∧ 1 < runL digB (c :: cs)
      · rw [if_pos h2] at h; simp at h
      · rw [if_neg h2] at h ⊢
        by_cases h3 : 40 < runL digB (c :: cs)
        · rw [if_pos h3] at h; simp at h
        · rw [if_neg h3]; exact ⟨runL_pos h1, runL_le _ _⟩
    · rw [if_neg h1] at h ⊢
      by_cases h2 : letterI c.toNat = true
      · rw [if_pos h2] at h ⊢
        have h4 : 1 ≤ runL alnB (c :: cs) := runL_pos (by unfold alnB; rw [h2]; rfl)
        by_cases h3 : 16 < runL alnB (c :: cs)
        · rw [if_pos h3] at h; simp at h
        · rw [if_neg h3]
          split <;> exact ⟨h4, runL_le _ _⟩
      · rw [if_neg h2] at h ⊢
        by_cases h3 : (c :: cs).take 2 = [60, 62] ∨ (c :: cs).take 2 = [60, 61] ∨ (c :: cs).take 2 = [62, 61]
        · rw [if_pos h3]
          have : ((c :: cs).take 2).length = 2 := by rcases h3 with h3 | h3 | h3 <;> rw [h3] <;> rfl
          rw [List.length_take] at this
          exact ⟨by simp, by simp only; omega⟩
        · rw [if_neg h3] at h ⊢
          by_cases h4 : c ∈ ([43, 45, 42, 94, 40, 41, 61, 60, 62, 44, 46] : List UInt8)
          · rw [if_pos h4]; exact ⟨by simp, by simp⟩
          · rw [if_neg h4] at h; simp at h

theorem nxt_err (l : List UInt8) : (nxt l).2.2 = 0 ∨ (nxt l).2.2 = 6 ∨ (nxt l).2.2 = 8 := by
  unfold nxt
  split
  · simp
  · (repeat' split) <;> simp

def scF : Nat → List UInt8 → Nat → List S30 × Int × Int
  | 0, _, _ => ([], 0, 0)
  | _ + 1, [], _ => ([], 0, 0)
  | f + 1, c :: cs, a =>
    if blankB c = true then scF f cs (a + 1)
    else if (nxt (c :: cs)).2.2 = 0 then
      (⟨(nxt (c :: cs)).1, ⟨((c :: cs).take (nxt (c :: cs)).2.1).toArray⟩, a⟩ :: (scF f ((c :: cs).drop (nxt (c :: cs)).2.1) (a + (nxt (c :: cs)).2.1)).1, (scF f ((c :: cs).drop (nxt (c :: cs)).2.1) (a + (nxt (c :: cs)).2.1)).2)
    else ([], a, (nxt (c :: cs)).2.2)

theorem scF_enough : ∀ (f g : Nat) (l : List UInt8) (a : Nat), l.length ≤ f → l.length ≤ g → scF f l a = scF g l a
  | 0, 0, _, _, _, _ => rfl
  | 0, _ + 1, [], _, _, _ => rfl
  | _ + 1, 0, [], _, _, _ => rfl
  | 0, _ + 1, _ :: _, _, h, _ => by simp at h
  | _ + 1, 0, _ :: _, _, _, h => by simp at h
  | f + 1, g + 1, [], _, _, _ => rfl
  | f + 1, g + 1, c :: cs, a, hf, hg => by
    simp only [List.length_cons] at hf hg
    simp only [scF]
    rw [scF_enough f g cs (a + 1) (by omega) (by omega)]
    by_cases h : (nxt (c :: cs)).2.2 = 0
    · have hp := nxt_pos h (by simp)
      rw [scF_enough f g ((c :: cs).drop (nxt (c :: cs)).2.1) _ (by rw [List.length_drop]; simp; omega) (by rw [List.length_drop]; simp; omega)]
    · rw [if_neg h, if_neg h]

def sc (l : List UInt8) (a : Nat) : List S30 × Int × Int := scF l.length l a

theorem sc_nil (a : Nat) : sc [] a = ([], 0, 0) := rfl
theorem sc_blank {c : UInt8} {cs : List UInt8} {a : Nat} (h : blankB c = true) : sc (c :: cs) a = sc cs (a + 1) := by
  simp only [sc, List.length_cons, scF, h, if_true]
theorem sc_err {c : UInt8} {cs : List UInt8} {a : Nat} (h : blankB c = false) (he : ¬ (nxt (c :: cs)).2.2 = 0) : sc (c :: cs) a = ([], (a : Int), (nxt (c :: cs)).2.2) := by
  simp only [sc, List.length_cons, scF, h, he, if_false, Bool.false_eq_true]
theorem sc_tok {c : UInt8} {cs : List UInt8} {a : Nat} (h : blankB c = false) (he : (nxt (c :: cs)).2.2 = 0) :
    sc (c :: cs) a = (⟨(nxt (c :: cs)).1, ⟨((c :: cs).take (nxt (c :: cs)).2.1).toArray⟩, a⟩ :: (sc ((c :: cs).drop (nxt (c :: cs)).2.1) (a + (nxt (c :: cs)).2.1)).1,
      (sc ((c :: cs).drop (nxt (c :: cs)).2.1) (a + (nxt (c :: cs)).2.1)).2) := by
  have hp := nxt_pos he (by simp)
  have e : scF cs.length ((c :: cs).drop (nxt (c :: cs)).2.1) (a + (nxt (c :: cs)).2.1) = sc ((c :: cs).drop (nxt (c :: cs)).2.1) (a + (nxt (c :: cs)).2.1) :=
    scF_enough _ _ _ _ (by rw [List.length_drop]; simp; omega) (Nat.le_refl _)
  conv => lhs; unfold sc
  simp only [List.length_cons, scF, h, he, if_false, if_true, Bool.false_eq_true, e]

/-- The number of tokens is at most the number of bytes. -/
theorem sc_len : ∀ (n : Nat) (l : List UInt8) (a : Nat), l.length ≤ n → (sc l a).1.length ≤ l.length := by
  intro n
  induction n with
  | zero => intro l a h; cases l with | nil => simp [sc_nil] | cons => simp at h
  | succ n ih =>
    intro l a h
    cases l with
    | nil => simp [sc_nil]
    | cons c cs =>
      by_cases hb : blankB c = true
      · rw [sc_blank hb]
        have := ih cs (a + 1) (by simpa using h)
        simp; omega
      · rw [Bool.not_eq_true] at hb
        by_cases he : (nxt (c :: cs)).2.2 = 0
        · rw [sc_tok hb he]
          have hp := nxt_pos he (by simp)
          have := ih ((c :: cs).drop (nxt (c :: cs)).2.1) (a + (nxt (c :: cs)).2.1) (by rw [List.length_drop]; simp at h ⊢; omega)
          rw [List.length_drop] at this
          simp only [List.length_cons] at this hp ⊢
          omega
        · rw [sc_err hb he]; simp

/-- What lexer.Lex answers: the tokens, the offset, the error. -/
def lexOf (s : ByteArray) : List S30 × Int × Int :=
  if 4000 < s.size then ([], 4000, 8) else if (sc s.toList 0).2.2 = 0 then ((sc s.toList 0).1, 0, 0) else ([], (sc s.toList 0).2)

end Go.Proofs.Ytkomgnaleocleaa.PAll
