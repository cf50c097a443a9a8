/- What the functions of the reference of layer 35 answer, told plainly. -/
import Derived.Test.YtkomgnaleocleaaLexQ
import Derived.Test.YtkomgnaleocleaaPAllx3
namespace Go.Proofs.Ytkomgnaleocleaa.PAll
open Go.RowKit Go.Proofs.YtkomgnaleocleaaW.PrintWords Go.Proofs.YtkomgnaleocleaaW.PrintLast Go.Proofs.YtkomgnaleocleaaW.PrintMore

theorem Ev.bv {α β : Type} {g : Nat → Option α} {a : α} {f : Nat → α → Option β} {r : β} (h : Ev g a) (e : Ev (fun k => f k a) r) : Ev (fun k => (g k).bind (f k)) r := Ev.bind h e

/-! ### Has, IsWord -/
def hasL (xs : List ByteArray) (l : List UInt8) : Bool := xs.any (fun x => x.toList == l)
theorem rdOf_at (xs : List ByteArray) {i : Nat} (h : i < xs.length) : rdOf ByteArray.empty xs (i : Int) = xs[i] := by
  simp [rdOf, List.getD_eq_getElem?_getD, List.getElem?_eq_getElem h]
theorem has_loop (xs : List ByteArray) (s : ByteArray) (hx : xs.length ≤ 1000) : ∀ (d i : Nat), i + d = xs.length →
    Ev (fun k => cylinderref35_Has.l0 k xs s ((xs.length : Nat) : Int) (i : Int)) (hasL (xs.drop i) s.toList) := by
  intro d
  induction d with
  | zero =>
    intro i hi
    refine Ev.step (fun k => by rw [cylinderref35_Has.l0]) ?_
    rw [show i = xs.length by omega, List.drop_length]
    exact Ev.ifn (by omega) (Ev.val rfl)
  | succ d ih =>
    intro i hi
    have hlt : i < xs.length := by omega
    refine Ev.step (fun k => by rw [cylinderref35_Has.l0]) ?_
    refine Ev.ifp (by omega) (Ev.ifp (by omega) (Ev.ifp (by omega) ?_))
    rw [rdOf_at xs hlt, List.drop_eq_getElem_cons hlt]
    by_cases h : xs[i].toList = s.toList
    · refine Ev.ifp h (Ev.val ?_)
      simp only [hasL, List.any_cons, h, beq_self_eq_true, Bool.true_or]
    · refine Ev.ifn h ?_
      have e : hasL (xs[i] :: xs.drop (i + 1)) s.toList = hasL (xs.drop (i + 1)) s.toList := by
        have : (xs[i].toList == s.toList) = false := beq_eq_false_iff_ne.2 h
        simp only [hasL, List.any_cons, this, Bool.false_or]
      rw [e, wrap_ok (by omega) (by omega)]
      exact ih (i + 1) (by omega)
theorem has_ev (xs : List ByteArray) (s : ByteArray) (hx : xs.length ≤ 1000) : Ev (fun k => cylinderref35_Has.f k xs s) (hasL xs s.toList) := by
  have := has_loop xs s hx xs.length 0 (Nat.zero_add _)
  rw [List.drop_zero] at this
  exact this
theorem beq_comm' (a b : List UInt8) : (a == b) = (b == a) := by
  rw [Bool.eq_iff_iff, beq_iff_eq, beq_iff_eq]; exact eq_comm
theorem isWord_ev (s : ByteArray) : Ev (fun k => cylinderref35_IsWord.f k s) (wordL s.toList) := by
  unfold cylinderref35_IsWord.f cylinderref35_words.f
  refine Ev.bc rfl (Ev.bv (has_ev _ s (by decide)) (Ev.val ?_))
  simp only [hasL, List.any_cons, List.any_nil, Bool.or_false, lit_list, wordL, beq_comm' _ s.toList, Bool.or_assoc]

/-! ### digit, letter, number, name -/
theorem refdig (c : UInt8) : cylinderref35_digit.f (c.toNat : Int) = some (digB c) := by
  unfold cylinderref35_digit.f digB digI
  by_cases h : (c.toNat : Int) ≥ 48
  · rw [if_pos h, decide_eq_true (show (48 : Int) ≤ c.toNat from h)]; rfl
  · rw [if_neg h, decide_eq_false (show ¬ (48 : Int) ≤ c.toNat from h)]; rfl
theorem reflet (c : UInt8) : cylinderref35_letter.f (c.toNat : Int) = some (letterI (c.toNat : Int)) := by
  unfold cylinderref35_letter.f letterI
  generalize (c.toNat : Int) = x
  by_cases h1 : x ≥ 97 <;> by_cases h2 : x ≤ 122 <;> by_cases h3 : x ≥ 65 <;> by_cases h4 : x ≤ 90 <;> simp [h1, h2, h3, h4] <;> omega

def numL (l : List UInt8) : Bool := !l.isEmpty && l.all digB
theorem number_loop (s : ByteArray) (hs : s.size ≤ 5000) : ∀ (d i : Nat), i + d = s.size → Ev (fun k => cylinderref35_number.l0 k s (i : Int)) ((s.toList.drop i).all digB && !s.toList.isEmpty) := by
  intro d
  have he : (!s.toList.isEmpty) = decide (0 < s.size) := by
    rw [← len_list]; cases s.toList <;> simp
  rw [he]
  induction d with
  | zero =>
    intro i hi
    refine Ev.step (fun k => by rw [cylinderref35_number.l0]) ?_
    rw [List.drop_of_length_le (by rw [len_list]; omega)]
    refine Ev.ifn (by omega) (Ev.val ?_)
    rw [List.all_nil, Bool.true_and]
    exact decide_eq_decide.2 (by omega)
  | succ d ih =>
    intro i hi
    have hlt : i < s.toList.length := by rw [len_list]; omega
    refine Ev.step (fun k => by rw [cylinderref35_number.l0]) ?_
    refine Ev.ifp (by omega) (Ev.ifp (by omega) ?_)
    rw [bt_list s (by omega), List.drop_eq_getElem_cons hlt]
    refine Ev.bc (refdig _) ?_
    by_cases h : digB s.toList[i] = true
    · refine Ev.ifp h ?_
      rw [wrap_ok (by omega) (by omega), List.all_cons, h, Bool.true_and]
      exact ih (i + 1) (by omega)
    · refine Ev.ifn h (Ev.val ?_)
      rw [Bool.not_eq_true] at h
      rw [List.all_cons, h]; rfl
theorem number_ev (s : ByteArray) (hs : s.size ≤ 5000) : Ev (fun k => cylinderref35_number.f k s) (numL s.toList) := by
  have := number_loop s hs s.size 0 (Nat.zero_add _)
  rw [List.drop_zero, Bool.and_comm] at this
  exact this

def namL (l : List UInt8) : Bool := match l with
  | [] => false
  | c :: cs => letterI c.toNat && cs.all alnB
theorem name_loop (s : ByteArray) (hs : s.size ≤ 5000) : ∀ (d i : Nat), (i + 1) + d = s.size → Ev (fun k => cylinderref35_name.l0 k s ((i + 1 : Nat) : Int)) ((s.toList.drop (i + 1)).all alnB) := by
  intro d
  induction d with
  | zero =>
    intro i hi
    refine Ev.step (fun k => by rw [cylinderref35_name.l0]) ?_
    rw [List.drop_of_length_le (by rw [len_list]; omega)]
    refine Ev.ifn (by omega) (Ev.val ?_)
    rw [List.all_nil]
    exact decide_eq_true (by omega)
  | succ d ih =>
    intro i hi
    have hlt : i + 1 < s.toList.length := by rw [len_list]; omega
    refine Ev.step (fun k => by rw [cylinderref35_name.l0]) ?_
    refine Ev.ifp (by omega) (Ev.ifp (by omega) ?_)
    rw [bt_list s (by omega), List.drop_eq_getElem_cons hlt, List.all_cons, wrap_ok (by omega) (by omega)]
    have hih := ih (i + 1) (by omega)
    rw [show ((i + 1 + 1 : Nat) : Int) = ((i + 1 : Nat) : Int) + 1 by omega] at hih
    refine Ev.bc (reflet _) ?_
    by_cases h : letterI (s.toList[i + 1].toNat : Int) = true
    · refine Ev.ifp h ?_
      rw [show alnB s.toList[i + 1] = true by unfold alnB; rw [h]; rfl, Bool.true_and]
      exact hih
    · refine Ev.ifn h (Ev.ifn (by omega) (Ev.bc (refdig _) ?_))
      rw [Bool.not_eq_true] at h
      have e : alnB s.toList[i + 1] = digB s.toList[i + 1] := by unfold alnB digB; rw [h, Bool.false_or]
      by_cases h2 : digB s.toList[i + 1] = true
      · refine Ev.ifp h2 ?_
        rw [e, h2, Bool.true_and]
        exact hih
      · refine Ev.ifn h2 (Ev.val ?_)
        rw [Bool.not_eq_true] at h2
        rw [e, h2]; rfl
theorem name_ev (s : ByteArray) (hs : s.size ≤ 5000) : Ev (fun k => cylinderref35_name.f k s) (namL s.toList) := by
  have hz := len_list s
  unfold cylinderref35_name.f
  refine Ev.step (fun k => by rw [cylinderref35_name.l0]) ?_
  by_cases h0 : 0 < s.size
  · refine Ev.ifp (by omega) (Ev.ifp (by omega) ?_)
    have hb := bt_list s h0
    rw [show ((0 : Nat) : Int) = 0 from rfl] at hb
    rw [hb]
    obtain ⟨c, cs, hl⟩ : ∃ c cs, s.toList = c :: cs := by
      cases hl : s.toList with
      | nil => rw [hl] at hz; simp at hz; omega
      | cons c cs => exact ⟨c, cs, rfl⟩
    have e0 : ∀ h, s.toList[0]'h = c := fun h => by simp [hl]
    rw [e0]
    refine Ev.bc (reflet _) ?_
    by_cases h : letterI (c.toNat : Int) = true
    · refine Ev.ifp h ?_
      have := name_loop s hs (s.size - 1) 0 (by omega)
      rw [hl] at this ⊢
      simp only [namL, h, Bool.true_and]
      rw [show wrap64 (0 + 1) = ((0 + 1 : Nat) : Int) from wrap_ok (by omega) (by omega)]
      exact this
    · refine Ev.ifn h (Ev.ifp rfl (Ev.val ?_))
      rw [Bool.not_eq_true] at h
      rw [hl]; simp only [namL, h, Bool.false_and]
  · refine Ev.ifn (by omega) (Ev.val ?_)
    have : s.toList = [] := List.eq_nil_of_length_eq_zero (by omega)
    rw [this]
    exact decide_eq_false (by omega)

/-! ### kind -/
def sigs : List (List UInt8) := [[43], [45], [42], [94], [40], [41], [61], [60, 62], [60], [60, 61], [62], [62, 61], [44], [46]]
def kindL (l : List UInt8) : Int := if numL l = true then 1 else if namL l = true then (if wordL l = true then 3 else 2) else if l ∈ sigs then 4 else 0
theorem kind_ev (s : ByteArray) (hs : s.size ≤ 5000) : Ev (fun k => cylinderref35_kind.f k s) (kindL s.toList) := by
  unfold cylinderref35_kind.f kindL
  refine Ev.bv (number_ev s hs) ?_
  by_cases h1 : numL s.toList = true
  · rw [if_pos h1]; exact Ev.ifp h1 (Ev.val rfl)
  · rw [if_neg h1]
    refine Ev.ifn h1 (Ev.bv (name_ev s hs) ?_)
    by_cases h2 : namL s.toList = true
    · rw [if_pos h2]
      refine Ev.ifp h2 (Ev.bv (isWord_ev s) ?_)
      by_cases h3 : wordL s.toList = true
      · exact Ev.ifp h3 (Ev.val (if_pos h3).symm)
      · exact Ev.ifn h3 (Ev.val (if_neg h3).symm)
    · rw [if_neg h2]
      refine Ev.ifn h2 ?_
      unfold cylinderref35_signs.f
      refine Ev.bc rfl (Ev.bv (has_ev _ s (by decide)) ?_)
      have e : hasL [(⟨#[43]⟩ : ByteArray), ⟨#[45]⟩, ⟨#[42]⟩, ⟨#[94]⟩, ⟨#[40]⟩, ⟨#[41]⟩, ⟨#[61]⟩, ⟨#[60, 62]⟩, ⟨#[60]⟩, ⟨#[60, 61]⟩, ⟨#[62]⟩, ⟨#[62, 61]⟩, ⟨#[44]⟩, ⟨#[46]⟩] s.toList = decide (s.toList ∈ sigs) := by
        rw [Bool.eq_iff_iff, decide_eq_true_eq]
        simp only [hasL, List.any_cons, List.any_nil, Bool.or_false, lit_list, sigs, List.mem_cons, List.not_mem_nil, or_false, Bool.or_eq_true, beq_iff_eq, @eq_comm _ s.toList]
      rw [e]
      by_cases h3 : s.toList ∈ sigs
      · rw [if_pos h3]; exact Ev.ifp (decide_eq_true h3) (Ev.val rfl)
      · rw [if_neg h3]; exact Ev.ifn (by rw [decide_eq_false h3]; simp) (Ev.val rfl)
end Go.Proofs.Ytkomgnaleocleaa.PAll
