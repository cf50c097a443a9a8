/- The canonical tree of the term or formula of a tree is the reference's canonical tree. -/
import Derived.Test.YtddpojinlapmfaaRefC
import Derived.Test.YtddpojinlapmfaaPlainB
namespace Go.Proofs.Ytddpojinlapmfaa.PRef
set_option linter.unusedVariables false
set_option linter.unusedSimpArgs false
open Go.RowKit Go.Proofs.YtddpojinlapmfaaW.PrintWords Go.Proofs.YtddpojinlapmfaaW.PrintLast Go.Proofs.YtddpojinlapmfaaW.PrintMore

theorem trimL_idem (xs : List Int) : trimL (trimL xs) = trimL xs := by
  induction h : xs.length generalizing xs with
  | zero => have : xs = [] := List.eq_nil_of_length_eq_zero h; subst this; rfl
  | succ n ih =>
    rcases List.eq_nil_or_concat xs with rfl | ⟨ys, x, rfl⟩
    · rfl
    · rw [List.concat_eq_append] at h ⊢
      by_cases hx : x = 0
      · subst hx
        rw [trimL_zero]
        exact ih ys (by simpa using h)
      · rw [trimL_stop ys hx, trimL_stop ys hx]
theorem normI_idem (n : Bool) (xs : List Int) : normI (normI n xs).f0 (normI n xs).f1 = normI n xs := by
  simp only [normI, trimL_idem]
  cases n <;> simp
theorem isS_true (x : S29) : isS x true = (termOf x).2 := rfl
theorem isS_false (x : S29) : isS x false = (formOf x).2 := rfl

theorem small_term : ∀ x : S29, SmallS x → SmallT (termOf x).1 := by
  intro x
  induction x using S29.ind with
  | h x ih =>
  intro hs
  obtain ⟨_, hw, hks⟩ := hs
  obtain ⟨k, v, nm, e, r, tr, al, kids⟩ := x
  dsimp only at hw hks ih
  rcases kind_ways k with h | h
  · rcases h with rfl | rfl | rfl | rfl | rfl | rfl | rfl | rfl | rfl | rfl | rfl | rfl | rfl | rfl | rfl <;> (rcases kids with _ | ⟨a, _ | ⟨b, _ | ⟨c, l⟩⟩⟩) <;> ((conv => arg 1; unfold termOf); simp [SmallT, nilT])
    all_goals first
      | exact ⟨ih a (by simp) (hks a (by simp)), ih b (by simp) (hks b (by simp))⟩
      | exact ih a (by simp) (hks a (by simp))
      | (have := trimL_le v.f1; simp only [normI]; omega)
  · conv => arg 1; unfold termOf
    rw [if_neg (by omega), if_neg (by omega), if_neg (by omega), if_neg (by omega)]
    exact trivial
theorem small_form : ∀ x : S29, SmallS x → SmallF (formOf x).1 := by
  intro x
  induction x using S29.ind with
  | h x ih =>
  intro hs
  obtain ⟨_, hw, hks⟩ := hs
  obtain ⟨k, v, nm, e, r, tr, al, kids⟩ := x
  dsimp only at hw hks ih
  rcases kind_ways k with h | h
  · rcases h with rfl | rfl | rfl | rfl | rfl | rfl | rfl | rfl | rfl | rfl | rfl | rfl | rfl | rfl | rfl <;> (rcases kids with _ | ⟨a, _ | ⟨b, _ | ⟨c, l⟩⟩⟩) <;> ((conv => arg 1; unfold formOf); simp [SmallF, nilF, twoOf, nilT, SmallT])
    all_goals first
      | exact ⟨small_term a (hks a (by simp)), small_term b (hks b (by simp))⟩
      | exact ⟨ih a (by simp) (hks a (by simp)), ih b (by simp) (hks b (by simp))⟩
      | exact ih a (by simp) (hks a (by simp))
  · conv => arg 1; unfold formOf
    rw [if_neg (by omega), if_neg (by omega), if_neg (by omega), if_neg (by omega)]
    exact trivial

theorem z29_eq : z29 = ⟨0, ⟨false, []⟩, ⟨#[]⟩, 0, 0, false, false, []⟩ := rfl
theorem canon_term : ∀ x : S29, (termOf x).2 = true → plainT (termOf x).1 = canonS x := by
  intro x
  induction x using S29.ind with
  | h x ih =>
  obtain ⟨k, v, nm, e, r, tr, al, kids⟩ := x
  dsimp only at ih
  rw [canonS_eq]
  rcases kind_ways k with h | h
  · rcases h with rfl | rfl | rfl | rfl | rfl | rfl | rfl | rfl | rfl | rfl | rfl | rfl | rfl | rfl | rfl <;> (rcases kids with _ | ⟨a, _ | ⟨b, _ | ⟨c, l⟩⟩⟩) <;> ((conv => lhs; unfold termOf); (conv => rhs; lhs; unfold termOf); simp [plainT, z29_eq, node])
    all_goals first
      | exact normI_idem _ _
      | exact fun h1 h2 => ⟨ih a (by simp) h1, ih b (by simp) h2⟩
      | exact fun h1 => ih a (by simp) h1
      | exact fun h1 h2 => ⟨fun h => by omega, ih a (by simp) h1⟩
  · conv => lhs; unfold termOf
    rw [if_neg (by omega), if_neg (by omega), if_neg (by omega), if_neg (by omega)]
    intro h; cases h
theorem canon_form : ∀ x : S29, (formOf x).2 = true → plainF (formOf x).1 = canonS x := by
  intro x
  induction x using S29.ind with
  | h x ih =>
  obtain ⟨k, v, nm, e, r, tr, al, kids⟩ := x
  dsimp only at ih
  rw [canonS_eq]
  rcases kind_ways k with h | h
  · rcases h with rfl | rfl | rfl | rfl | rfl | rfl | rfl | rfl | rfl | rfl | rfl | rfl | rfl | rfl | rfl <;> (rcases kids with _ | ⟨a, _ | ⟨b, _ | ⟨c, l⟩⟩⟩) <;> ((conv => lhs; unfold formOf); (conv => rhs; lhs; unfold formOf); simp [plainF, z29_eq, node, leaf, twoOf])
    all_goals first
      | exact fun h1 h2 => ⟨ih a (by simp) h1, ih b (by simp) h2⟩
      | exact fun h1 => ih a (by simp) h1
      | exact fun h1 h2 h3 => ⟨fun h => (by rw [h] at h3; cases h3), canon_term a h1, canon_term b h2⟩
  · conv => lhs; unfold formOf
    rw [if_neg (by omega), if_neg (by omega), if_neg (by omega), if_neg (by omega)]
    intro h; cases h

/-- What the laws need of the sizes of a canonical tree. -/
theorem sizeS_canon : ∀ x : S29, sizeS (canonS x) = sizeS x := by
  intro x
  induction x using S29.ind with
  | h x ih =>
  rw [canonS_eq, sizeS_eq, sizeS_eq]
  have key : ∀ l : List S29, (∀ y ∈ l, sizeS (canonS y) = sizeS y) → sizeK (l.map canonS) = sizeK l := by
    intro l
    induction l with
    | nil => intro _; rfl
    | cons a l ihl => intro hl; simp only [List.map_cons, sizeK]; rw [hl a (by simp), ihl (fun y hy => hl y (by simp [hy]))]
  rw [key _ ih]
theorem small_canon : ∀ x : S29, SmallS x → SmallS (canonS x) := by
  intro x
  induction x using S29.ind with
  | h x ih =>
  rintro ⟨_, hw, hks⟩
  rw [canonS_eq]
  refine .mk _ ?_ ?_
  · dsimp only
    split
    · have := trimL_le x.f1.f1; simp only [normI]; omega
    · simp
  · intro y hy
    obtain ⟨z, hz, rfl⟩ := List.mem_map.1 hy
    exact ih z hz (hks z hz)
end Go.Proofs.Ytddpojinlapmfaa.PRef
