/- lexer.next: the token at the beginning of a text that is not empty and begins with no blank, or the error. -/
import Derived.Test.YtkomgnaleocleaaNextA
namespace Go.Proofs.Ytkomgnaleocleaa
open Go.RowKit Go.Proofs.YtkomgnaleocleaaW.PrintWords

/-- How many bytes at the beginning pass p. -/
def runL (p : UInt8 → Bool) : List UInt8 → Nat
  | [] => 0
  | c :: cs => if p c then runL p cs + 1 else 0
theorem runL_le (p : UInt8 → Bool) (l : List UInt8) : runL p l ≤ l.length := by
  induction l with
  | nil => simp [runL]
  | cons c cs ih => simp only [runL]; split <;> simp <;> omega
theorem runL_at (p : UInt8 → Bool) : ∀ (l : List UInt8) (k : Nat) (hk : k < l.length), k ≤ runL p l → p l[k] = decide (k < runL p l)
  | [], k, hk, _ => by simp at hk
  | c :: cs, 0, _, _ => by
    simp only [runL, List.getElem_cons_zero]
    split <;> simp_all
  | c :: cs, k + 1, hk, h => by
    simp only [runL] at h ⊢
    split at h
    · rename_i hc
      simp only [hc, if_true, List.getElem_cons_succ]
      rw [runL_at p cs k (by simpa using hk) (by omega)]
      simp
    · omega

def digB (c : UInt8) : Bool := digI c.toNat
def alnB (c : UInt8) : Bool := letterI c.toNat || digI c.toNat

/-- Kind, length and error of the token at the beginning. -/
def nxt : List UInt8 → Int × Nat × Int
  | [] => (0, 0, 6)
  | c :: cs =>
    if digB c = true then
      if c = 48 ∧ 1 < runL digB (c :: cs) then (0, 0, 6) else if 40 < runL digB (c :: cs) then (0, 0, 8) else (1, runL digB (c :: cs), 0)
    else if letterI c.toNat = true then
      if 16 < runL alnB (c :: cs) then (0, 0, 8) else if wordL ((c :: cs).take (runL alnB (c :: cs))) = true then (3, runL alnB (c :: cs), 0) else (2, runL alnB (c :: cs), 0)
    else if (c :: cs).take 2 = [60, 62] ∨ (c :: cs).take 2 = [60, 61] ∨ (c :: cs).take 2 = [62, 61] then (4, 2, 0)
    else if c ∈ ([43, 45, 42, 94, 40, 41, 61, 60, 62, 44, 46] : List UInt8) then (4, 1, 0)
    else (0, 0, 6)

def tokV (k : Int) (t : ByteArray) (a : Int) : Value := .agg #[.int .i64 k, .string t, .int .i64 a]

/-- What next answers. -/
def NextSays (s : ByteArray) (w : World) (e : Ending) (w' : World) : Prop :=
  e = .returned (.tuple #[tokV (nxt s.toList).1 (s.extract 0 (nxt s.toList).2.1) 0, .int .i64 (nxt s.toList).2.2]) ∧ Below w.heap.size w w'

theorem get_list (s : ByteArray) (k : Nat) (h : k < s.size) : s.toList[k]'(by simpa [ByteArray.toList_eq] using h) = s[k] := by
  simp [ByteArray.toList_eq]; rfl
theorem len_list (s : ByteArray) : s.toList.length = s.size := by simp [ByteArray.toList_eq]
theorem run_le_size (p : UInt8 → Bool) (s : ByteArray) : runL p s.toList ≤ s.size := by rw [← len_list]; exact runL_le _ _
theorem run_at (p : UInt8 → Bool) (s : ByteArray) (k : Nat) (h : k < s.size) (hk : k ≤ runL p s.toList) : p s[k] = decide (k < runL p s.toList) := by
  rw [← get_list s k h]; exact runL_at p _ k _ hk
theorem nxt_cons {s : ByteArray} (h0 : 0 < s.size) : ∃ cs, s.toList = s[0] :: cs := by
  have e := get_list s 0 h0
  cases hl : s.toList with
  | nil => have := len_list s; rw [hl] at this; simp at this; omega
  | cons c cs => simp only [hl, List.getElem_cons_zero] at e; exact ⟨cs, by rw [e]⟩

theorem eq48 {c : UInt8} (h : (c.toNat : Int) = 48) : c = 48 := by
  apply UInt8.toNat_inj.1; simp; omega
theorem ne48 {c : UInt8} (h : ¬ (c.toNat : Int) = 48) : ¬ c = 48 := fun e => h (by rw [e]; rfl)
theorem nxt_num0 {s : ByteArray} (h0 : 0 < s.size) (hd : digI (s[0].toNat : Int) = true) (h48 : (s[0].toNat : Int) = 48) (h1 : 1 < ((runL digB s.toList : Nat) : Int)) : nxt s.toList = (0, 0, 6) := by
  obtain ⟨cs, e⟩ := nxt_cons h0
  rw [e] at h1 ⊢
  simp only [nxt]
  rw [if_pos (show digB s[0] = true from hd), if_pos ⟨eq48 h48, by omega⟩]
theorem nxt_num1 {s : ByteArray} (h0 : 0 < s.size) (hd : digI (s[0].toNat : Int) = true) (h48 : ¬ (s[0].toNat : Int) = 48) (h1 : 40 < ((runL digB s.toList : Nat) : Int)) : nxt s.toList = (0, 0, 8) := by
  obtain ⟨cs, e⟩ := nxt_cons h0
  rw [e] at h1 ⊢
  simp only [nxt]
  rw [if_pos (show digB s[0] = true from hd), if_neg (fun h => ne48 h48 h.1), if_pos (by omega)]
theorem nxt_num2 {s : ByteArray} (h0 : 0 < s.size) (hd : digI (s[0].toNat : Int) = true) (h48 : ¬ (s[0].toNat : Int) = 48) (h1 : ((runL digB s.toList : Nat) : Int) ≤ 40) : nxt s.toList = (1, runL digB s.toList, 0) := by
  obtain ⟨cs, e⟩ := nxt_cons h0
  rw [e] at h1 ⊢
  simp only [nxt]
  rw [if_pos (show digB s[0] = true from hd), if_neg (fun h => ne48 h48 h.1), if_neg (by omega)]
theorem nxt_num3 {s : ByteArray} (h0 : 0 < s.size) (hd : digI (s[0].toNat : Int) = true) (h1 : ((runL digB s.toList : Nat) : Int) ≤ 1) : nxt s.toList = (1, runL digB s.toList, 0) := by
  obtain ⟨cs, e⟩ := nxt_cons h0
  rw [e] at h1 ⊢
  simp only [nxt]
  rw [if_pos (show digB s[0] = true from hd), if_neg (fun h => by omega), if_neg (by omega)]

theorem says_of {s : ByteArray} {w w' : World} {e : Ending} {k : Int} {n : Nat} {r : Int} (h : nxt s.toList = (k, n, r))
    (he : e = .returned (.tuple #[tokV k (s.extract 0 n) 0, .int .i64 r])) (hb : Below w.heap.size w w') : NextSays s w e w' := by
  unfold NextSays
  rw [h]
  exact ⟨he, hb⟩
theorem ext0 (s : ByteArray) : s.extract 0 0 = ⟨#[]⟩ := by
  apply ByteArray.ext; simp

set_option maxRecDepth 100000 in
set_option maxHeartbeats 1600000 in
theorem next_num (s : ByteArray) (w : World) (hs : s.size ≤ 140737488351232) (h0 : 0 < s.size) (hd : digI (s[0].toNat : Int) = true) : Calls Try.prog 38 #[.string s] w (NextSays s w) := by
  have hle := run_le_size digB s
  have HA := Lib.hid (run_at digB s)
  have HN0 := Lib.hid (nxt_num0 h0 hd)
  have HN1 := Lib.hid (nxt_num1 h0 hd)
  have HN2 := Lib.hid (nxt_num2 h0 hd)
  have HN3 := Lib.hid (nxt_num3 h0 hd)
  go_enter Try.func38, Try.ntmps38
  go_wp2_with (go_at_call 43; refine (digit_any _ _).mono ?_; rintro e w' ⟨rfl, rfl⟩)
  go_loop [4] (fun v => ∃ k : Nat, k ≤ runL digB s.toList ∧ v = .int .i64 k) (fun v => s.size - (intOf v).toNat)
  case atStart => exact ⟨0, Nat.zero_le _, rfl⟩
  case round =>
    obtain ⟨k, hk, rfl⟩ := hrel
    by_cases hlt : k < runL digB s.toList
    · have hks : k < s.size := by omega
      have hp : digI (s[k].toNat : Int) = true := (HA.out k hks hk).trans (decide_eq_true hlt)
      go_wp2_with (go_at_call 43; refine (digit_any _ _).mono ?_; rintro e w' ⟨rfl, rfl⟩)
      go_round
      case rel => exact ⟨k + 1, by omega, by go_num⟩
      case measure => simp [intOf]; omega
    · have hke : k = runL digB s.toList := by omega
      subst hke
      by_cases hks : runL digB s.toList < s.size
      · have hp : digI (s[runL digB s.toList].toNat : Int) = false := (HA.out _ hks hk).trans (decide_eq_false hlt)
        have HP := Lib.hid hp
        clear hp
        go_wp2_with (go_at_call 43; refine (digit_any _ _).mono ?_; rw [HP.out]; rintro e w' ⟨rfl, rfl⟩)
        all_goals first
          | exact bodyPost_ret (v := .tuple #[.agg #[.int .i64 0, .string ⟨#[]⟩, .int .i64 0], .int .i64 6]) (by simp [results, Try.results38, go_sem]) rfl (says_of (HN0.out ‹_› ‹_›) (by rw [ext0]; rfl) ((Below.refl _ _).alloc (Nat.le_refl _) _))
          | exact bodyPost_ret (v := .tuple #[.agg #[.int .i64 0, .string ⟨#[]⟩, .int .i64 0], .int .i64 8]) (by simp [results, Try.results38, go_sem]) rfl (says_of (HN1.out ‹_› ‹_›) (by rw [ext0]; rfl) ((Below.refl _ _).alloc (Nat.le_refl _) _))
          | exact bodyPost_ret (v := .tuple #[.agg #[.int .i64 1, .string (s.extract 0 (runL digB s.toList)), .int .i64 0], .int .i64 0]) (by simp [results, Try.results38, go_sem]) rfl (says_of (HN2.out ‹_› ‹_›) rfl ((Below.refl _ _).alloc (Nat.le_refl _) _))
          | exact bodyPost_ret (v := .tuple #[.agg #[.int .i64 1, .string (s.extract 0 (runL digB s.toList)), .int .i64 0], .int .i64 0]) (by simp [results, Try.results38, go_sem]) rfl (says_of (HN3.out ‹_›) rfl ((Below.refl _ _).alloc (Nat.le_refl _) _))
      · go_wp2_with fail
        all_goals first
          | exact bodyPost_ret (v := .tuple #[.agg #[.int .i64 0, .string ⟨#[]⟩, .int .i64 0], .int .i64 6]) (by simp [results, Try.results38, go_sem]) rfl (says_of (HN0.out ‹_› ‹_›) (by rw [ext0]; rfl) ((Below.refl _ _).alloc (Nat.le_refl _) _))
          | exact bodyPost_ret (v := .tuple #[.agg #[.int .i64 0, .string ⟨#[]⟩, .int .i64 0], .int .i64 8]) (by simp [results, Try.results38, go_sem]) rfl (says_of (HN1.out ‹_› ‹_›) (by rw [ext0]; rfl) ((Below.refl _ _).alloc (Nat.le_refl _) _))
          | exact bodyPost_ret (v := .tuple #[.agg #[.int .i64 1, .string (s.extract 0 (runL digB s.toList)), .int .i64 0], .int .i64 0]) (by simp [results, Try.results38, go_sem]) rfl (says_of (HN2.out ‹_› ‹_›) rfl ((Below.refl _ _).alloc (Nat.le_refl _) _))
          | exact bodyPost_ret (v := .tuple #[.agg #[.int .i64 1, .string (s.extract 0 (runL digB s.toList)), .int .i64 0], .int .i64 0]) (by simp [results, Try.results38, go_sem]) rfl (says_of (HN3.out ‹_›) rfl ((Below.refl _ _).alloc (Nat.le_refl _) _))

theorem nxt_nam1 {s : ByteArray} (h0 : 0 < s.size) (hd : digI (s[0].toNat : Int) = false) (hl : letterI (s[0].toNat : Int) = true) (h1 : 16 < ((runL alnB s.toList : Nat) : Int)) : nxt s.toList = (0, 0, 8) := by
  obtain ⟨cs, e⟩ := nxt_cons h0
  rw [e] at h1 ⊢
  simp only [nxt]
  rw [if_neg (show ¬ digB s[0] = true by rw [show digB s[0] = false from hd]; simp), if_pos hl, if_pos (by omega)]
theorem take_ext (s : ByteArray) (n : Nat) : (s.extract 0 n).toList = s.toList.take n := by
  simp [ByteArray.toList_eq, ByteArray.data_extract]
theorem nxt_nam2 {s : ByteArray} (h0 : 0 < s.size) (hd : digI (s[0].toNat : Int) = false) (hl : letterI (s[0].toNat : Int) = true) (h1 : ((runL alnB s.toList : Nat) : Int) ≤ 16) (hw : wordL (s.extract 0 (runL alnB s.toList)).toList = true) : nxt s.toList = (3, runL alnB s.toList, 0) := by
  obtain ⟨cs, e⟩ := nxt_cons h0
  rw [take_ext] at hw
  rw [e] at h1 hw ⊢
  simp only [nxt]
  rw [if_neg (show ¬ digB s[0] = true by rw [show digB s[0] = false from hd]; simp), if_pos hl, if_neg (by omega), if_pos hw]
theorem nxt_nam3 {s : ByteArray} (h0 : 0 < s.size) (hd : digI (s[0].toNat : Int) = false) (hl : letterI (s[0].toNat : Int) = true) (h1 : ((runL alnB s.toList : Nat) : Int) ≤ 16) (hw : wordL (s.extract 0 (runL alnB s.toList)).toList = false) : nxt s.toList = (2, runL alnB s.toList, 0) := by
  obtain ⟨cs, e⟩ := nxt_cons h0
  rw [take_ext] at hw
  rw [e] at h1 hw ⊢
  simp only [nxt]
  rw [if_neg (show ¬ digB s[0] = true by rw [show digB s[0] = false from hd]; simp), if_pos hl, if_neg (by omega), if_neg (by rw [hw]; simp)]

set_option maxRecDepth 100000 in
set_option maxHeartbeats 1600000 in
theorem next_nam (s : ByteArray) (w : World) (hs : s.size ≤ 140737488351232) (h0 : 0 < s.size) (hd : digI (s[0].toNat : Int) = false) (hl : letterI (s[0].toNat : Int) = true) : Calls Try.prog 38 #[.string s] w (NextSays s w) := by
  have hle := run_le_size alnB s
  have HA := Lib.hid (run_at alnB s)
  have HN1 := Lib.hid (nxt_nam1 h0 hd hl)
  have HN2 := Lib.hid (nxt_nam2 h0 hd hl)
  have HN3 := Lib.hid (nxt_nam3 h0 hd hl)
  go_enter Try.func38, Try.ntmps38
  go_wp2_with (first | (go_at_call 43; refine (digit_any _ _).mono ?_; rintro e w' ⟨rfl, rfl⟩) | (go_at_call 44; refine (letter_any _ _).mono ?_; rintro e w' ⟨rfl, rfl⟩))
  go_loop [4] (fun v => ∃ k : Nat, k ≤ runL alnB s.toList ∧ v = .int .i64 k) (fun v => s.size - (intOf v).toNat)
  case atStart => exact ⟨0, Nat.zero_le _, rfl⟩
  case round =>
    obtain ⟨k, hk, rfl⟩ := hrel
    by_cases hlt : k < runL alnB s.toList
    · have hks : k < s.size := by omega
      have hp : (letterI (s[k].toNat : Int) || digI (s[k].toNat : Int)) = true := (HA.out k hks hk).trans (decide_eq_true hlt)
      cases hl2 : letterI (s[k].toNat : Int) with
      | true =>
        clear hp
        go_wp2_with (first | (go_at_call 44; refine (letter_any _ _).mono ?_; rintro e w' ⟨rfl, rfl⟩))
        go_round
        case rel => exact ⟨k + 1, by omega, by go_num⟩
        case measure => simp [intOf]; omega
      | false =>
        rw [hl2, Bool.false_or] at hp
        go_wp2_with (first | (go_at_call 43; refine (digit_any _ _).mono ?_; rintro e w' ⟨rfl, rfl⟩) | (go_at_call 44; refine (letter_any _ _).mono ?_; rintro e w' ⟨rfl, rfl⟩))
        go_round
        case rel => exact ⟨k + 1, by omega, by go_num⟩
        case measure => simp [intOf]; omega
    · have hke : k = runL alnB s.toList := by omega
      subst hke
      cases hw : wordL (s.extract 0 (runL alnB s.toList)).toList with
      | true =>
        have HW2 := Lib.hid hw
        clear hw
        by_cases hks : runL alnB s.toList < s.size
        · have hp : (letterI (s[runL alnB s.toList].toNat : Int) || digI (s[runL alnB s.toList].toNat : Int)) = false := (HA.out _ hks hk).trans (decide_eq_false hlt)
          rw [Bool.or_eq_false_iff] at hp
          have HP := Lib.hid hp.1
          have HQ := Lib.hid hp.2
          clear hp
          go_wp2_with (first | (go_at_call 43; refine (digit_any _ _).mono ?_; rw [HQ.out]; rintro e w' ⟨rfl, rfl⟩) | (go_at_call 44; refine (letter_any _ _).mono ?_; rw [HP.out]; rintro e w' ⟨rfl, rfl⟩) | (go_at_call 20; refine (isWord_any _ _).mono ?_; rw [HW2.out]; rintro e w' ⟨rfl, rfl⟩))
          all_goals first
            | exact bodyPost_ret (v := .tuple #[.agg #[.int .i64 0, .string ⟨#[]⟩, .int .i64 0], .int .i64 8]) (by simp [results, Try.results38, go_sem]) rfl (says_of (HN1.out ‹_›) (by rw [ext0]; rfl) ((Below.refl _ _).alloc (Nat.le_refl _) _))
            | exact bodyPost_ret (v := .tuple #[.agg #[.int .i64 3, .string (s.extract 0 (runL alnB s.toList)), .int .i64 0], .int .i64 0]) (by simp [results, Try.results38, go_sem]) rfl (says_of (HN2.out ‹_› HW2.out) rfl ((Below.refl _ _).alloc (Nat.le_refl _) _))
        · go_wp2_with (first | (go_at_call 20; refine (isWord_any _ _).mono ?_; rw [HW2.out]; rintro e w' ⟨rfl, rfl⟩))
          all_goals first
            | exact bodyPost_ret (v := .tuple #[.agg #[.int .i64 0, .string ⟨#[]⟩, .int .i64 0], .int .i64 8]) (by simp [results, Try.results38, go_sem]) rfl (says_of (HN1.out ‹_›) (by rw [ext0]; rfl) ((Below.refl _ _).alloc (Nat.le_refl _) _))
            | exact bodyPost_ret (v := .tuple #[.agg #[.int .i64 3, .string (s.extract 0 (runL alnB s.toList)), .int .i64 0], .int .i64 0]) (by simp [results, Try.results38, go_sem]) rfl (says_of (HN2.out ‹_› HW2.out) rfl ((Below.refl _ _).alloc (Nat.le_refl _) _))
      | false =>
        have HW2 := Lib.hid hw
        clear hw
        by_cases hks : runL alnB s.toList < s.size
        · have hp : (letterI (s[runL alnB s.toList].toNat : Int) || digI (s[runL alnB s.toList].toNat : Int)) = false := (HA.out _ hks hk).trans (decide_eq_false hlt)
          rw [Bool.or_eq_false_iff] at hp
          have HP := Lib.hid hp.1
          have HQ := Lib.hid hp.2
          clear hp
          go_wp2_with (first | (go_at_call 43; refine (digit_any _ _).mono ?_; rw [HQ.out]; rintro e w' ⟨rfl, rfl⟩) | (go_at_call 44; refine (letter_any _ _).mono ?_; rw [HP.out]; rintro e w' ⟨rfl, rfl⟩) | (go_at_call 20; refine (isWord_any _ _).mono ?_; rw [HW2.out]; rintro e w' ⟨rfl, rfl⟩))
          all_goals first
            | exact bodyPost_ret (v := .tuple #[.agg #[.int .i64 0, .string ⟨#[]⟩, .int .i64 0], .int .i64 8]) (by simp [results, Try.results38, go_sem]) rfl (says_of (HN1.out ‹_›) (by rw [ext0]; rfl) ((Below.refl _ _).alloc (Nat.le_refl _) _))
            | exact bodyPost_ret (v := .tuple #[.agg #[.int .i64 2, .string (s.extract 0 (runL alnB s.toList)), .int .i64 0], .int .i64 0]) (by simp [results, Try.results38, go_sem]) rfl (says_of (HN3.out ‹_› HW2.out) rfl ((Below.refl _ _).alloc (Nat.le_refl _) _))
        · go_wp2_with (first | (go_at_call 20; refine (isWord_any _ _).mono ?_; rw [HW2.out]; rintro e w' ⟨rfl, rfl⟩))
          all_goals first
            | exact bodyPost_ret (v := .tuple #[.agg #[.int .i64 0, .string ⟨#[]⟩, .int .i64 0], .int .i64 8]) (by simp [results, Try.results38, go_sem]) rfl (says_of (HN1.out ‹_›) (by rw [ext0]; rfl) ((Below.refl _ _).alloc (Nat.le_refl _) _))
            | exact bodyPost_ret (v := .tuple #[.agg #[.int .i64 2, .string (s.extract 0 (runL alnB s.toList)), .int .i64 0], .int .i64 0]) (by simp [results, Try.results38, go_sem]) rfl (says_of (HN3.out ‹_› HW2.out) rfl ((Below.refl _ _).alloc (Nat.le_refl _) _))

end Go.Proofs.Ytkomgnaleocleaa
