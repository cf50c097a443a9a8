/- A list of trees that comes in reads as a list of trees. -/
import Derived.Test.YtddpojinlapmfaaOpen
namespace Go.Proofs.Ytddpojinlapmfaa.PRef
set_option linter.unusedVariables false
open Go.RowKit Go.Proofs.YtddpojinlapmfaaW.PrintWords Go.Proofs.YtddpojinlapmfaaW.PrintLast Go.Proofs.YtddpojinlapmfaaW.PrintMore
variable {H : Type} {enc : TypeId × Value → H} {w : World} {base : Nat} {spare : Nat → Bool} {held : Bool}
theorem trod_trees {fuel : Nat} {A : Option Addr} {len' c : Nat} {X : DataW H × List MemPlace} (h : DataW.trod enc Try.prog w base spare held fuel 27 [.slice A len' c] = some X) :
    ∃ zs : List S29, zs.length = len' ∧ len' ≤ c ∧ Kd.C k29 w A len' zs ∧ ∀ y ∈ zs, WfS y := by
  rcases DataW.trod_slice Try.underlying27 h with ⟨h0, _⟩ | ⟨ad, len, cap, elems, rest, n', hn', hcs, _, hb, hl, hm, hlen', hel, _⟩
  · simp only [List.cons.injEq, and_true] at h0
    cases h0
    exact ⟨[], rfl, Nat.le_refl _, nil_C, fun y hy => by cases hy⟩
  · simp only [List.cons.injEq, and_true] at hcs
    cases hcs
    obtain ⟨ts, hz, hq⟩ := list_of (fun i (y : S29) => ∃ cs', w.cells? base (ad.add (i * 9)) 9 = some cs' ∧ k29.K w y cs' ∧ WfS y) len' (fun i hin => by
      have h1 := hel i hin
      rw [ce29] at h1
      rw [List.getElem?_eq_getElem (by omega)] at h1
      obtain ⟨cs', hc, ht'⟩ := Option.bind_eq_some_iff.1 h1
      obtain ⟨y, hK, hW⟩ := trod_tree n' cs' _ ht'
      exact ⟨y, cs', hc, hK, hW⟩)
    subst hz
    have hml : maxLen ≤ 9223372036854775807 := by unfold maxLen; omega
    refine ⟨ts, rfl, hl, ⟨rfl, by omega, fun _ => ⟨ad, rfl, fun j p hj => ?_⟩⟩, fun y hy => ?_⟩
    · obtain ⟨cs', hc, hK, _⟩ := hq j p hj
      obtain ⟨_, hcl, hat⟩ := World.cells?_some hc
      refine ⟨cs', hcl, hK, fun i u hu => ?_⟩
      have hi : i < 9 := by rw [← hcl]; exact (List.getElem?_eq_some_iff.1 hu).1
      have := hat i hi
      rw [Go.Deep.add_add, hu] at this
      exact this
    · obtain ⟨i, hi2, rfl⟩ := List.getElem_of_mem hy
      obtain ⟨_, _, _, hW⟩ := hq i _ (List.getElem?_eq_getElem hi2)
      exact hW
end Go.Proofs.Ytddpojinlapmfaa.PRef
