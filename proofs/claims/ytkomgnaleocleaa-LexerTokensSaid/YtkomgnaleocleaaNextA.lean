/- What lexer.digit, lexer.letter and lexer.IsWord answer, for every byte and every text; the world stays as it was. -/
import Derived.Test.YtkomgnaleocleaaPLexx0
import Derived.Test.YtkomgnaleocleaaShelf
import Derived.Lib.Hide
namespace Go.Proofs.Ytkomgnaleocleaa
open Go.RowKit Go.Proofs.YtkomgnaleocleaaW.PrintWords

def digI (c : Int) : Bool := decide (48 ≤ c) && decide (c ≤ 57)
def letterI (c : Int) : Bool := (decide (97 ≤ c) && decide (c ≤ 122)) || (decide (65 ≤ c) && decide (c ≤ 90)) || (c == 95)
def wordL (l : List UInt8) : Bool :=
  l == [116, 114, 117, 101] || l == [102, 97, 108, 115, 101] || l == [97, 110, 100] || l == [111, 114] || l == [110, 111, 116] ||
  l == [105, 109, 112, 108, 105, 101, 115] || l == [105, 102, 102] || l == [102, 111, 114, 97, 108, 108] || l == [101, 120, 105, 115, 116, 115]

theorem ret_bool {a b : Bool} (h : a = b) : Ending.returned (.bool a) = .returned (.bool b) := by rw [h]

set_option maxHeartbeats 400000 in
theorem digit_any (c : Int) (w : World) : Calls Try.prog 43 #[.int .u8 c] w fun e w' => e = .returned (.bool (digI c)) ∧ w = w' := by
  by_cases h : 48 ≤ c
  · have h1 : decide (48 ≤ c) = true := decide_eq_true h
    have e : digI c = decide (c ≤ 57) := by unfold digI; rw [h1]; rfl
    have E := Lib.hid e
    clear e h
    go_enter Try.func43, Try.ntmps43
    go_wp2
    go_ret
    exact ⟨ret_bool E.out.symm, rfl⟩
  · have h1 : decide (48 ≤ c) = false := decide_eq_false h
    have e : digI c = false := by unfold digI; rw [h1]; rfl
    have E := Lib.hid e
    clear e h
    go_enter Try.func43, Try.ntmps43
    go_wp2
    go_ret
    exact ⟨ret_bool E.out.symm, rfl⟩

set_option maxHeartbeats 400000 in
theorem letter_any (c : Int) (w : World) : Calls Try.prog 44 #[.int .u8 c] w fun e w' => e = .returned (.bool (letterI c)) ∧ w = w' := by
  rcases (show (97 ≤ c ∧ c ≤ 122) ∨ (122 < c) ∨ (65 ≤ c ∧ c ≤ 90) ∨ (90 < c ∧ c < 97) ∨ c < 65 by omega) with h | h | h | h | h
  · have e : letterI c = true := by unfold letterI; rw [decide_eq_true h.1, decide_eq_true h.2]; rfl
    have E := Lib.hid e
    have h1 : decide (97 ≤ c) = true := decide_eq_true h.1
    have h2 : decide (c ≤ 122) = true := decide_eq_true h.2
    clear e h
    go_enter Try.func44, Try.ntmps44
    go_wp2
    go_ret
    exact ⟨ret_bool E.out.symm, rfl⟩
  · have e : letterI c = false := by unfold letterI; simp only [Bool.or_eq_false_iff, Bool.and_eq_false_iff, decide_eq_false_iff_not, beq_eq_false_iff_ne]; omega
    have E := Lib.hid e
    have h1 : decide (97 ≤ c) = true := decide_eq_true (by omega)
    have h2 : decide (c ≤ 122) = false := decide_eq_false (by omega)
    have h3 : decide (65 ≤ c) = true := decide_eq_true (by omega)
    have h4 : decide (c ≤ 90) = false := decide_eq_false (by omega)
    have h5 : (c == 95) = false := beq_eq_false_iff_ne.2 (by omega)
    clear e h
    go_enter Try.func44, Try.ntmps44
    go_wp2
    go_ret
    exact ⟨ret_bool E.out.symm, rfl⟩
  · have e : letterI c = true := by unfold letterI; simp only [Bool.or_eq_true, Bool.and_eq_true, decide_eq_true_eq]; omega
    have E := Lib.hid e
    have h1 : decide (97 ≤ c) = false := decide_eq_false (by omega)
    have h3 : decide (65 ≤ c) = true := decide_eq_true (by omega)
    have h4 : decide (c ≤ 90) = true := decide_eq_true (by omega)
    clear e h
    go_enter Try.func44, Try.ntmps44
    go_wp2
    go_ret
    exact ⟨ret_bool E.out.symm, rfl⟩
  · have e : letterI c = (c == 95) := by
      unfold letterI
      rw [decide_eq_false (show ¬ 97 ≤ c by omega), decide_eq_false (show ¬ c ≤ 90 by omega)]
      cases decide (65 ≤ c) <;> rfl
    have E := Lib.hid e
    have h1 : decide (97 ≤ c) = false := decide_eq_false (by omega)
    have h3 : decide (65 ≤ c) = true := decide_eq_true (by omega)
    have h4 : decide (c ≤ 90) = false := decide_eq_false (by omega)
    clear e h
    go_enter Try.func44, Try.ntmps44
    go_wp2
    go_ret
    exact ⟨ret_bool E.out.symm, rfl⟩
  · have e : letterI c = (c == 95) := by
      unfold letterI
      rw [decide_eq_false (show ¬ 97 ≤ c by omega), decide_eq_false (show ¬ 65 ≤ c by omega)]
      rfl
    have E := Lib.hid e
    have h1 : decide (97 ≤ c) = false := decide_eq_false (by omega)
    have h3 : decide (65 ≤ c) = false := decide_eq_false (by omega)
    clear e h
    go_enter Try.func44, Try.ntmps44
    go_wp2
    go_ret
    exact ⟨ret_bool E.out.symm, rfl⟩

theorem wordL_true {l : List UInt8} (h : l = [116, 114, 117, 101] ∨ l = [102, 97, 108, 115, 101] ∨ l = [97, 110, 100] ∨ l = [111, 114] ∨ l = [110, 111, 116] ∨
  l = [105, 109, 112, 108, 105, 101, 115] ∨ l = [105, 102, 102] ∨ l = [102, 111, 114, 97, 108, 108] ∨ l = [101, 120, 105, 115, 116, 115]) : wordL l = true := by
  rcases h with h | h | h | h | h | h | h | h | h <;> subst h <;> decide

set_option maxHeartbeats 1600000 in
theorem isWord_any (s : ByteArray) (w : World) : Calls Try.prog 20 #[.string s] w fun e w' => e = .returned (.bool (wordL s.toList)) ∧ w = w' := by
  cases H : wordL s.toList with
  | true =>
    simp only [wordL, Bool.or_eq_true, beq_iff_eq] at H
    rcases H with (((((((h | h) | h) | h) | h) | h) | h) | h) | h <;>
    · have hs : s = ⟨s.toList.toArray⟩ := by simp [ByteArray.toList_eq]
      rw [h] at hs
      subst hs
      clear h
      go_enter Try.func20, Try.ntmps20
      go_wp2
      go_ret
      exact ⟨rfl, rfl⟩
  | false =>
    simp only [wordL, Bool.or_eq_false_iff] at H
    obtain ⟨⟨⟨⟨⟨⟨⟨⟨h1, h2⟩, h3⟩, h4⟩, h5⟩, h6⟩, h7⟩, h8⟩, h9⟩ := H
    go_enter Try.func20, Try.ntmps20
    go_wp2
    go_ret
    exact ⟨rfl, rfl⟩

end Go.Proofs.Ytkomgnaleocleaa
