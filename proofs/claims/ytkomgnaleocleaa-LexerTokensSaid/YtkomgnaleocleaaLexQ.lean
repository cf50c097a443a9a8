/- The law's own check is met; small words on texts, lists and numbers that the laws of layer 35 share. -/
import Derived.Test.YtkomgnaleocleaaLexP
import Derived.Test.YtkomgnaleocleaaPAllx2
namespace Go.Proofs.Ytkomgnaleocleaa.PAll
open Go.RowKit Go.Proofs.YtkomgnaleocleaaW.PrintWords Go.Proofs.YtkomgnaleocleaaW.PrintLast Go.Proofs.YtkomgnaleocleaaW.PrintMore

theorem lit_list (a : Array UInt8) : (⟨a⟩ : ByteArray).toList = a.toList := ByteArray.toList_eq ⟨a⟩
theorem awake_sc : sc [120, 60, 61, 51] 0 = ([tk 2 [120] 0, tk 4 [60, 61] 1, tk 1 [51] 3], 0, 0) := by
  rfl
theorem awake_lex : lexOf ⟨#[120, 60, 61, 51]⟩ = ([tk 2 [120] 0, tk 4 [60, 61] 1, tk 1 [51] 3], 0, 0) := by
  unfold lexOf
  rw [lit_list, awake_sc]
  rfl
theorem awake_true : cylinderlaw35_awake.f = some true := by
  unfold cylinderlaw35_awake.f lexer_Lex.f
  rw [awake_lex]
  simp [rd_T30, tk, lit_list]

theorem wrap_ok {x : Int} (h0 : -9223372036854775808 ≤ x) (h1 : x ≤ 9223372036854775807) : wrap64 x = x := by unfold wrap64; omega
theorem bt_list (s : ByteArray) {k : Nat} (h : k < s.size) : bt s (k : Int) = ((s.toList[k]'(by rw [len_list]; exact h)).toNat : Int) := by
  have := bt_at s (k : Int) (by simpa using h)
  rw [get_list s k h]
  rw [← this]
  simp
theorem rd_drop {xs ys : List S30} {t : S30} {i : Nat} (h : xs.drop i = t :: ys) : rd_T30 xs (i : Int) = t ∧ i < xs.length ∧ xs.drop (i + 1) = ys := by
  have hl : i < xs.length := by
    rcases Nat.lt_or_ge i xs.length with h1 | h1
    · exact h1
    · rw [List.drop_of_length_le h1] at h; cases h
  rw [List.drop_eq_getElem_cons hl] at h
  injection h with h1 h2
  refine ⟨?_, hl, h2⟩
  simp only [rd_T30, Int.toNat_natCast]
  rw [List.getD_eq_getElem?_getD, List.getElem?_eq_getElem hl, Option.getD_some, h1]
theorem tk_list (k : Int) (l : List UInt8) (a : Nat) : (tk k l a).f1.toList = l := by simp [tk, lit_list]
theorem tk_size (k : Int) (l : List UInt8) (a : Nat) : (tk k l a).f1.size = l.length := by rw [← len_list, tk_list]
theorem mid_list (s : ByteArray) (i j : Nat) : (s.extract i j).toList = (s.toList.take j).drop i := by
  simp [ByteArray.toList_eq, ByteArray.data_extract, List.extract_eq_take_drop, List.drop_take]
theorem blank_f (c : UInt8) : cylinderref35_Blank.f (c.toNat : Int) = some (blankB c) := by
  unfold cylinderref35_Blank.f
  rcases blank_ways c with ⟨h, hb⟩ | ⟨h, hb⟩ | ⟨h, hb⟩ | ⟨h, hb⟩ | ⟨hb, h1, h2, h3, h4⟩
  · rw [if_pos h, hb]
  · rw [if_neg (by omega), if_pos h, hb]
  · rw [if_neg (by omega), if_neg (by omega), if_pos h, hb]
  · rw [if_neg (by omega), if_neg (by omega), if_neg (by omega), hb, h]; rfl
  · rw [if_neg (by simpa using h1), if_neg (by simpa using h2), if_neg (by simpa using h3), hb, h4]
/-- What Lex answers, where the text is short. -/
theorem lex_ok {s : ByteArray} (hs : s.size ≤ 4000) (h : (sc s.toList 0).2.2 = 0) : lexer_Lex.f s = some ((sc s.toList 0).1, 0, 0) := by
  unfold lexer_Lex.f lexOf
  rw [if_neg (by omega), if_pos h]
theorem lex_bad {s : ByteArray} (hs : s.size ≤ 4000) (h : (sc s.toList 0).2.2 ≠ 0) : lexer_Lex.f s = some ([], (sc s.toList 0).2) := by
  unfold lexer_Lex.f lexOf
  rw [if_neg (by omega), if_neg h]
theorem sc_len' (s : ByteArray) : (sc s.toList 0).1.length ≤ s.size := by
  rw [← len_list]; exact sc_len _ _ _ (Nat.le_refl _)
end Go.Proofs.Ytkomgnaleocleaa.PAll
