/- Plain words: eventually in the number of rounds; texts in lists. -/
import Derived.Test.YtddpojinlapmfaaPRefRQ
import Derived.Lib.Hide
namespace Go.Proofs.Ytddpojinlapmfaa.PRef
set_option linter.unusedVariables false
set_option linter.unusedSimpArgs false
open Go.RowKit Go.Proofs.YtddpojinlapmfaaW.PrintWords Go.Proofs.YtddpojinlapmfaaW.PrintLast Go.Proofs.YtddpojinlapmfaaW.PrintMore

theorem Ev.ifp {α : Type} {c : Prop} [Decidable c] {a b : Nat → Option α} {r : α} (h : c) (e : Ev a r) : Ev (fun k => if c then a k else b k) r := by
  simp only [if_pos h]; exact e
theorem Ev.ifn {α : Type} {c : Prop} [Decidable c] {a b : Nat → Option α} {r : α} (h : ¬ c) (e : Ev b r) : Ev (fun k => if c then a k else b k) r := by
  simp only [if_neg h]; exact e
theorem Ev.val {α : Type} {a r : α} (h : a = r) : Ev (fun _ => some a) r := by rw [h]; exact Ev.now r
theorem Ev.bc {α β : Type} {g : Option α} {a : α} {f : Nat → α → Option β} {r : β} (h : g = some a) (e : Ev (fun k => f k a) r) : Ev (fun k => g.bind (f k)) r := by
  rw [h]; exact e
theorem Ev.to {α : Type} {g : Nat → Option α} {r r' : α} (h : r = r') (e : Ev g r') : Ev g r := by rw [h]; exact e
theorem wrap_ok {x : Int} (h0 : -9223372036854775808 ≤ x) (h1 : x ≤ 9223372036854775807) : wrap64 x = x := by unfold wrap64; omega
theorem wrap_succ {k : Nat} (h : k < 9223372036854775807) : wrap64 ((k : Int) + 1) = ((k + 1 : Nat) : Int) := by rw [wrap_ok (by omega) (by omega)]; rfl

theorem toList_inj {a b : ByteArray} : a.toList = b.toList ↔ a = b := by
  rw [ByteArray.toList_eq, ByteArray.toList_eq]
  constructor
  · intro h
    cases a with | mk x => cases b with | mk y =>
    cases x with | mk x => cases y with | mk y =>
    simp at h; rw [h]
  · rintro rfl; rfl
theorem rdOf_at {α : Type} {d : α} (l : List α) (i : Nat) (h : i < l.length) : rdOf d l (i : Int) = l[i] := by
  simp [rdOf, h]

theorem index_ev (l : List ByteArray) (s : ByteArray) (hl : l.length ≤ 9223372036854775806) : ∀ (n i : Nat), i + n = l.length →
    ∃ r : Int, Ev (fun k => slices_Index_string_string.l0 k l s (l.length : Int) (i : Int)) r ∧ (0 ≤ r ↔ s ∈ l.drop i) := by
  intro n
  induction n with
  | zero =>
    intro i hi
    refine ⟨-1, Ev.step (fun k => by rw [slices_Index_string_string.l0]) (Ev.ifn (by omega) (Ev.now _)), ?_⟩
    rw [List.drop_of_length_le (by omega)]; simp
  | succ n ih =>
    intro i hi
    obtain ⟨r, hr, hm⟩ := ih (i + 1) (by omega)
    have hlt : i < l.length := by omega
    have e := rdOf_at (d := ByteArray.empty) l i hlt
    have hd : l.drop i = l[i] :: l.drop (i + 1) := List.drop_eq_getElem_cons hlt
    by_cases hs : s = l[i]
    · refine ⟨i, Ev.step (fun k => by rw [slices_Index_string_string.l0]) (Ev.ifp (by omega) (Ev.ifp (by omega) (Ev.ifp (by omega) (Ev.ifp (by rw [e]; exact toList_inj.2 hs) (Ev.now _))))), ?_⟩
      rw [hd]; simp only [hs, List.mem_cons, true_or, iff_true]; omega
    · refine ⟨r, Ev.step (fun k => by rw [slices_Index_string_string.l0]) (Ev.ifp (by omega) (Ev.ifp (by omega) (Ev.ifp (by omega) (Ev.ifn (by rw [e]; exact fun h => hs (toList_inj.1 h)) (by rw [wrap_succ (by omega)]; exact hr))))), ?_⟩
      rw [hd, hm]; simp only [List.mem_cons, hs, false_or]

instance decTexts : DecidableEq ByteArray := fun a b => if h : a.toList = b.toList then .isTrue (toList_inj.1 h) else .isFalse (fun e => h (toList_inj.2 e))
def hasB (l : List ByteArray) (s : ByteArray) : Bool := l.any (fun x => decide (x = s))
theorem hasB_iff (l : List ByteArray) (s : ByteArray) : hasB l s = true ↔ s ∈ l := by
  simp [hasB]
theorem contains_ev (l : List ByteArray) (s : ByteArray) (hl : l.length ≤ 9223372036854775806) : Ev (fun k => slices_Contains_string_string.f k l s) (hasB l s) := by
  obtain ⟨r, hr, hm⟩ := index_ev l s hl l.length 0 (by omega)
  rw [List.drop_zero] at hm
  have h2 : (fun k => slices_Contains_string_string.f k l s) = fun k => (slices_Index_string_string.l0 k l s (l.length : Int) ((0 : Nat) : Int)).bind ((fun _ (t : Int) => some (decide (t ≥ 0))) k) := rfl
  rw [h2]
  refine Ev.bind hr (Ev.val ?_)
  have h3 := hasB_iff l s
  cases hb : hasB l s with
  | true => exact decide_eq_true (hm.2 (h3.1 hb))
  | false => exact decide_eq_false (fun h => by have := h3.2 (hm.1 h); rw [hb] at this; cases this)

theorem contains_any (A : Option Addr) (c : Nat) (l : List ByteArray) (s : ByteArray) (w : World) (hC : Kd.C Kd.string w A l.length l) (hc : l.length ≤ c) (hl : l.length ≤ 9223372036854775806) :
    Calls Try.prog 76 #[.slice A l.length c, .string s] w fun e w' => e = .returned (.bool (hasB l s)) ∧ ∃ m, w' = w.drewN m := by
  obtain ⟨k, hk⟩ := (contains_ev l s hl).rounds
  exact (slices_Contains_string_string.calls k A c l s _ w hC hc hk).mono fun _ _ h => ⟨h.1, h.2.out⟩
end Go.Proofs.Ytddpojinlapmfaa.PRef
