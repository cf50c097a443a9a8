/- lexer.next, the last part: signs; and the contract whole: for every text that is not empty. -/
import Derived.Test.YtkomgnaleocleaaNextB
import Derived.Lib.IndexAny
namespace Go.Proofs.Ytkomgnaleocleaa
open Go.RowKit Go.Proofs.YtkomgnaleocleaaW.PrintWords

def pfxB (s t : ByteArray) : Bool := decide (t.size ≤ s.size) && ((s.extract 0 t.size).toList == t.toList)
set_option maxHeartbeats 400000 in
theorem pfx_any (s : ByteArray) (t : ByteArray) (w : World) : Calls Try.prog 45 #[.string s, .string t] w fun e w' => e = .returned (.bool (pfxB s t)) ∧ w = w' := by
  by_cases h : t.size ≤ s.size
  · have e : pfxB s t = ((s.extract 0 t.size).toList == t.toList) := by unfold pfxB; rw [decide_eq_true h]; rfl
    have E := Lib.hid e
    clear e
    go_enter Try.func45, Try.ntmps45
    go_wp2
    go_ret
    exact ⟨ret_bool E.out.symm, rfl⟩
  · have e : pfxB s t = false := by unfold pfxB; rw [decide_eq_false h]; rfl
    have E := Lib.hid e
    have h1 : decide (t.size ≤ s.size) = false := decide_eq_false h
    clear e
    go_enter Try.func45, Try.ntmps45
    go_wp2
    go_ret
    exact ⟨ret_bool E.out.symm, rfl⟩


theorem pfx_take (s : ByteArray) (t : List UInt8) (ht : t.length = 2) : pfxB s ⟨t.toArray⟩ = true ↔ s.toList.take 2 = t := by
  unfold pfxB
  have h1 : (⟨t.toArray⟩ : ByteArray).size = 2 := by simpa [ByteArray.size] using ht
  have h2 : (⟨t.toArray⟩ : ByteArray).toList = t := by simp [ByteArray.toList_eq]
  rw [h1, h2, take_ext]
  simp only [Bool.and_eq_true, decide_eq_true_eq, beq_iff_eq]
  constructor
  · rintro ⟨_, h⟩; exact h
  · intro h
    refine ⟨?_, h⟩
    have := congrArg List.length h
    rw [List.length_take, len_list, ht] at this
    omega
theorem pfx_take_ne (s : ByteArray) (t : List UInt8) (ht : t.length = 2) (h : pfxB s ⟨t.toArray⟩ = false) : ¬ s.toList.take 2 = t := fun e => by
  rw [(pfx_take s t ht).2 e] at h
  cases h

theorem take2_of (s : ByteArray) (t : List UInt8) (h : s.toList.take 2 = t) : s.extract 0 2 = ⟨t.toArray⟩ := by
  apply ByteArray.ext
  apply Array.toList_inj.1
  have := take_ext s 2
  rw [ByteArray.toList_eq] at this
  rw [this, h]

theorem nxt_two {s : ByteArray} (h0 : 0 < s.size) (hd : digI (s[0].toNat : Int) = false) (hl : letterI (s[0].toNat : Int) = false)
    (h : s.toList.take 2 = [60, 62] ∨ s.toList.take 2 = [60, 61] ∨ s.toList.take 2 = [62, 61]) : nxt s.toList = (4, 2, 0) := by
  obtain ⟨cs, e⟩ := nxt_cons h0
  rw [e] at h ⊢
  simp only [nxt]
  rw [if_neg (show ¬ digB s[0] = true by rw [show digB s[0] = false from hd]; simp), if_neg (by rw [hl]; simp), if_pos h]
theorem nxt_one {s : ByteArray} (h0 : 0 < s.size) (hd : digI (s[0].toNat : Int) = false) (hl : letterI (s[0].toNat : Int) = false)
    (h1 : ¬ s.toList.take 2 = [60, 62]) (h2 : ¬ s.toList.take 2 = [60, 61]) (h3 : ¬ s.toList.take 2 = [62, 61]) (hm : s[0] ∈ ([43, 45, 42, 94, 40, 41, 61, 60, 62, 44, 46] : List UInt8)) : nxt s.toList = (4, 1, 0) := by
  obtain ⟨cs, e⟩ := nxt_cons h0
  rw [e] at h1 h2 h3 ⊢
  simp only [nxt]
  rw [if_neg (show ¬ digB s[0] = true by rw [show digB s[0] = false from hd]; simp), if_neg (by rw [hl]; simp), if_neg (by rintro (h | h | h) <;> contradiction), if_pos hm]
theorem nxt_none {s : ByteArray} (h0 : 0 < s.size) (hd : digI (s[0].toNat : Int) = false) (hl : letterI (s[0].toNat : Int) = false)
    (h1 : ¬ s.toList.take 2 = [60, 62]) (h2 : ¬ s.toList.take 2 = [60, 61]) (h3 : ¬ s.toList.take 2 = [62, 61]) (hm : ¬ s[0] ∈ ([43, 45, 42, 94, 40, 41, 61, 60, 62, 44, 46] : List UInt8)) : nxt s.toList = (0, 0, 6) := by
  obtain ⟨cs, e⟩ := nxt_cons h0
  rw [e] at h1 h2 h3 ⊢
  simp only [nxt]
  rw [if_neg (show ¬ digB s[0] = true by rw [show digB s[0] = false from hd]; simp), if_neg (by rw [hl]; simp), if_neg (by rintro (h | h | h) <;> contradiction), if_neg hm]

theorem idx_mem (c : UInt8) : ∀ l : List UInt8, (0 ≤ Lib.indexByte l c ↔ c ∈ l) := by
  intro l
  have h := Lib.contains_iff_indexByte l c
  constructor
  · intro h1; rw [decide_eq_true h1] at h; simpa using h
  · intro h1
    have : l.contains c = true := by simpa using h1
    rw [this] at h
    exact of_decide_eq_true h.symm

def sg0 : ByteArray := ⟨#[60, 62]⟩
def sg1 : ByteArray := ⟨#[60, 61]⟩
def sg2 : ByteArray := ⟨#[62, 61]⟩

set_option maxRecDepth 100000 in
set_option maxHeartbeats 1600000 in
theorem next_sig (s : ByteArray) (w : World) (hs : s.size ≤ 140737488351232) (h0 : 0 < s.size) (hd : digI (s[0].toNat : Int) = false) (hl : letterI (s[0].toNat : Int) = false) : Calls Try.prog 38 #[.string s] w (NextSays s w) := by
  have i0 : ∀ w, (Instr.index 66 (.agg #[.string ⟨#[60, 62]⟩, .string ⟨#[60, 61]⟩, .string ⟨#[62, 61]⟩]) (.int .i64 0)).run Try.prog w = .ok (.string ⟨#[60, 62]⟩) w := fun _ => by kernel_rfl
  have i1 : ∀ w, (Instr.index 66 (.agg #[.string ⟨#[60, 62]⟩, .string ⟨#[60, 61]⟩, .string ⟨#[62, 61]⟩]) (.int .i64 1)).run Try.prog w = .ok (.string ⟨#[60, 61]⟩) w := fun _ => by kernel_rfl
  have i2 : ∀ w, (Instr.index 66 (.agg #[.string ⟨#[60, 62]⟩, .string ⟨#[60, 61]⟩, .string ⟨#[62, 61]⟩]) (.int .i64 2)).run Try.prog w = .ok (.string ⟨#[62, 61]⟩) w := fun _ => by kernel_rfl
  go_enter Try.func38, Try.ntmps38
  go_wp2_with (first | (go_at_call 43; refine (digit_any _ _).mono ?_; rintro e w' ⟨rfl, rfl⟩) | (go_at_call 44; refine (letter_any _ _).mono ?_; rintro e w' ⟨rfl, rfl⟩))
  have HN2 := Lib.hid (nxt_two h0 hd hl)
  have HN1 := Lib.hid (nxt_one h0 hd hl)
  have HN0 := Lib.hid (nxt_none h0 hd hl)
  go_loop [6, 76] (fun _ v => ∃ k : Nat, k ≤ 3 ∧ v = .int .i64 k ∧ Hid (0 < k → ¬ s.toList.take 2 = [60, 62]) ∧ Hid (1 < k → ¬ s.toList.take 2 = [60, 61]) ∧ Hid (2 < k → ¬ s.toList.take 2 = [62, 61])) (fun _ v => 3 - (intOf v).toNat)
  case atStart => exact ⟨0, by omega, rfl, Lib.hid (fun h => absurd h (by omega)), Lib.hid (fun h => absurd h (by omega)), Lib.hid (fun h => absurd h (by omega))⟩
  case round =>
    obtain ⟨k, hk, rfl, G0, G1, G2⟩ := hrel
    rcases (show k = 0 ∨ k = 1 ∨ k = 2 ∨ k = 3 by omega) with rfl | rfl | rfl | rfl
    · cases hp : pfxB s ⟨#[60, 62]⟩ with
      | true =>
        have HP := Lib.hid hp
        clear hp
        go_wp2_with (go_at_call 45; refine (pfx_any _ _ _).mono ?_; rw [HP.out]; rintro e w' ⟨rfl, rfl⟩)
        have e2 := (pfx_take s [60, 62] rfl).1 HP.out
        exact bodyPost_ret (v := .tuple #[.agg #[.int .i64 4, .string ⟨#[60, 62]⟩, .int .i64 0], .int .i64 0]) (by simp [results, Try.results38, go_sem]) rfl (says_of (HN2.out (.inl e2)) (by rw [take2_of s _ e2]; rfl) ((Below.refl _ _).alloc (Nat.le_refl _) _))
      | false =>
        have HP := Lib.hid hp
        clear hp
        go_wp2_with (go_at_call 45; refine (pfx_any _ _ _).mono ?_; rw [HP.out]; rintro e w' ⟨rfl, rfl⟩)
        go_round
        case rel => exact ⟨1, by omega, rfl, Lib.hid (fun _ => pfx_take_ne s [60, 62] rfl HP.out), Lib.hid (fun h => absurd h (by omega)), Lib.hid (fun h => absurd h (by omega))⟩
        case measure => simp [intOf]
    · cases hp : pfxB s ⟨#[60, 61]⟩ with
      | true =>
        have HP := Lib.hid hp
        clear hp
        go_wp2_with (go_at_call 45; refine (pfx_any _ _ _).mono ?_; rw [HP.out]; rintro e w' ⟨rfl, rfl⟩)
        have e2 := (pfx_take s [60, 61] rfl).1 HP.out
        exact bodyPost_ret (v := .tuple #[.agg #[.int .i64 4, .string ⟨#[60, 61]⟩, .int .i64 0], .int .i64 0]) (by simp [results, Try.results38, go_sem]) rfl (says_of (HN2.out (.inr (.inl e2))) (by rw [take2_of s _ e2]; rfl) ((Below.refl _ _).alloc (Nat.le_refl _) _))
      | false =>
        have HP := Lib.hid hp
        clear hp
        go_wp2_with (go_at_call 45; refine (pfx_any _ _ _).mono ?_; rw [HP.out]; rintro e w' ⟨rfl, rfl⟩)
        go_round
        case rel => exact ⟨2, by omega, rfl, Lib.hid (fun _ => G0.out (by omega)), Lib.hid (fun _ => pfx_take_ne s [60, 61] rfl HP.out), Lib.hid (fun h => absurd h (by omega))⟩
        case measure => simp [intOf]
    · cases hp : pfxB s ⟨#[62, 61]⟩ with
      | true =>
        have HP := Lib.hid hp
        clear hp
        go_wp2_with (go_at_call 45; refine (pfx_any _ _ _).mono ?_; rw [HP.out]; rintro e w' ⟨rfl, rfl⟩)
        have e2 := (pfx_take s [62, 61] rfl).1 HP.out
        exact bodyPost_ret (v := .tuple #[.agg #[.int .i64 4, .string ⟨#[62, 61]⟩, .int .i64 0], .int .i64 0]) (by simp [results, Try.results38, go_sem]) rfl (says_of (HN2.out (.inr (.inr e2))) (by rw [take2_of s _ e2]; rfl) ((Below.refl _ _).alloc (Nat.le_refl _) _))
      | false =>
        have HP := Lib.hid hp
        clear hp
        go_wp2_with (go_at_call 45; refine (pfx_any _ _ _).mono ?_; rw [HP.out]; rintro e w' ⟨rfl, rfl⟩)
        go_round
        case rel => exact ⟨3, by omega, rfl, Lib.hid (fun _ => G0.out (by omega)), Lib.hid (fun _ => G1.out (by omega)), Lib.hid (fun _ => pfx_take_ne s [62, 61] rfl HP.out)⟩
        case measure => simp [intOf]
    · have e0 := G0.out (by omega)
      have e1 := G1.out (by omega)
      have e2 := G2.out (by omega)
      have ec : (s[0].toNat : Int).toNat.toUInt8 = s[0] := by simp
      have HC := Lib.hid (idx_mem s[0] [43, 45, 42, 94, 40, 41, 61, 60, 62, 44, 46])
      have EC := Lib.hid ec
      clear ec
      have N1 := Lib.hid (HN1.out e0 e1 e2)
      have N0 := Lib.hid (HN0.out e0 e1 e2)
      clear e0 e1 e2
      by_cases hm : s[0] ∈ ([43, 45, 42, 94, 40, 41, 61, 60, 62, 44, 46] : List UInt8)
      · have hi : 0 ≤ Lib.indexByte [43, 45, 42, 94, 40, 41, 61, 60, 62, 44, 46] s[0] := HC.out.2 hm
        have HM := Lib.hid hm
        clear hm
        generalize hx : Lib.indexByte [43, 45, 42, 94, 40, 41, 61, 60, 62, 44, 46] s[0] = x at hi
        have HX := Lib.hid hx
        clear hx
        go_wp2_with (go_at_call 46; refine (Try.strings_IndexByte _ _ _).mono ?_; rw [EC.out, HX.out]; rintro e w' ⟨rfl, rfl⟩)
        exact bodyPost_ret (v := .tuple #[.agg #[.int .i64 4, .string (s.extract 0 1), .int .i64 0], .int .i64 0]) (by simp [results, Try.results38, go_sem]) rfl (says_of (N1.out HM.out) rfl ((Below.refl _ _).alloc (Nat.le_refl _) _))
      · have hi : Lib.indexByte [43, 45, 42, 94, 40, 41, 61, 60, 62, 44, 46] s[0] < 0 := by
          have := HC.out
          by_cases h : 0 ≤ Lib.indexByte [43, 45, 42, 94, 40, 41, 61, 60, 62, 44, 46] s[0]
          · exact absurd (this.1 h) hm
          · omega
        have HM := Lib.hid hm
        clear hm
        generalize hx : Lib.indexByte [43, 45, 42, 94, 40, 41, 61, 60, 62, 44, 46] s[0] = x at hi
        have HX := Lib.hid hx
        clear hx
        go_wp2_with (go_at_call 46; refine (Try.strings_IndexByte _ _ _).mono ?_; rw [EC.out, HX.out]; rintro e w' ⟨rfl, rfl⟩)
        exact bodyPost_ret (v := .tuple #[.agg #[.int .i64 0, .string ⟨#[]⟩, .int .i64 0], .int .i64 6]) (by simp [results, Try.results38, go_sem]) rfl (says_of (N0.out HM.out) (by rw [ext0]; rfl) ((Below.refl _ _).alloc (Nat.le_refl _) _))

theorem next_any (s : ByteArray) (w : World) (hs : s.size ≤ 140737488351232) (h0 : 0 < s.size) : Calls Try.prog 38 #[.string s] w (NextSays s w) := by
  cases hd : digI (s[0].toNat : Int) with
  | true => exact next_num s w hs h0 hd
  | false =>
    cases hl : letterI (s[0].toNat : Int) with
    | true => exact next_nam s w hs h0 hd hl
    | false => exact next_sig s w hs h0 hd hl
end Go.Proofs.Ytkomgnaleocleaa
