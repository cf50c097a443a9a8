/- Plain: the reference's lists over a tree are formula's over its formula. -/
import Derived.Test.YtddpojinlapmfaaRefD
import Derived.Test.YtddpojinlapmfaaRefF
import Derived.Test.YtddpojinlapmfaaFreeB
import Derived.Test.YtddpojinlapmfaaBoundA
namespace Go.Proofs.Ytddpojinlapmfaa.PRef
set_option linter.unusedVariables false
set_option linter.unusedSimpArgs false
open Go.RowKit Go.Proofs.YtddpojinlapmfaaW.PrintWords Go.Proofs.YtddpojinlapmfaaW.PrintLast Go.Proofs.YtddpojinlapmfaaW.PrintMore

theorem term_inv (x : S29) (h : (termOf x).2 = true) :
    (x.f0 = 1 ∧ x.f7 = [] ∧ (termOf x).1 = .num (normI x.f1.f0 x.f1.f1).f0 (normI x.f1.f0 x.f1.f1).f1) ∨ (x.f0 = 2 ∧ x.f7 = [] ∧ (termOf x).1 = .name x.f2) ∨
    (∃ a b, x.f7 = [a, b] ∧ (termOf a).2 = true ∧ (termOf b).2 = true ∧ ((x.f0 = 3 ∧ (termOf x).1 = .add (termOf a).1 (termOf b).1) ∨ (x.f0 = 4 ∧ (termOf x).1 = .sub (termOf a).1 (termOf b).1) ∨ (x.f0 = 5 ∧ (termOf x).1 = .mul (termOf a).1 (termOf b).1))) ∨
    (∃ a, x.f7 = [a] ∧ (termOf a).2 = true ∧ ((x.f0 = 6 ∧ (termOf x).1 = .neg (termOf a).1) ∨ (x.f0 = 7 ∧ 0 ≤ x.f3 ∧ (termOf x).1 = .pow (termOf a).1 x.f3))) := by
  obtain ⟨k, v, nm, e, r, tr, al, kids⟩ := x
  revert h
  dsimp only
  rcases kind_ways k with h | h
  · rcases h with rfl | rfl | rfl | rfl | rfl | rfl | rfl | rfl | rfl | rfl | rfl | rfl | rfl | rfl | rfl <;> (rcases kids with _ | ⟨a, _ | ⟨b, _ | ⟨c, l⟩⟩⟩) <;> (generalize hT : termOf _ = T; rw [termOf.eq_def] at hT; dsimp only at hT; subst hT; simp)
    all_goals first
      | exact fun h1 h2 h3 => ⟨_, _, ⟨rfl, rfl⟩, h1, h2, h3, rfl, rfl⟩
      | exact fun h1 h2 => ⟨_, _, ⟨rfl, rfl⟩, h1, h2, rfl, rfl⟩
      | exact fun h1 h2 => ⟨h1, h2⟩
      | exact fun h1 => h1
  · unfold termOf
    rw [if_neg (by omega), if_neg (by omega), if_neg (by omega), if_neg (by omega)]
    intro h; cases h
theorem form_inv (x : S29) (h : (formOf x).2 = true) :
    (x.f0 = 8 ∧ x.f7 = [] ∧ (formOf x).1 = .truth x.f5) ∨ (∃ a b, x.f7 = [a, b] ∧ (termOf a).2 = true ∧ (termOf b).2 = true ∧ x.f0 = 9 ∧ sixB x.f4 = true ∧ (formOf x).1 = .atom (termOf a).1 x.f4 (termOf b).1) ∨
    (∃ a, x.f7 = [a] ∧ (formOf a).2 = true ∧ ((x.f0 = 10 ∧ (formOf x).1 = .not (formOf a).1) ∨ (x.f0 = 15 ∧ (formOf x).1 = .quant x.f6 x.f2 (formOf a).1))) ∨
    (∃ a b, x.f7 = [a, b] ∧ (formOf a).2 = true ∧ (formOf b).2 = true ∧ ((x.f0 = 11 ∧ (formOf x).1 = .and (formOf a).1 (formOf b).1) ∨ (x.f0 = 12 ∧ (formOf x).1 = .or (formOf a).1 (formOf b).1) ∨ (x.f0 = 13 ∧ (formOf x).1 = .imp (formOf a).1 (formOf b).1) ∨ (x.f0 = 14 ∧ (formOf x).1 = .iff (formOf a).1 (formOf b).1))) := by
  obtain ⟨k, v, nm, e, r, tr, al, kids⟩ := x
  revert h
  dsimp only
  rcases kind_ways k with h | h
  · rcases h with rfl | rfl | rfl | rfl | rfl | rfl | rfl | rfl | rfl | rfl | rfl | rfl | rfl | rfl | rfl <;> (rcases kids with _ | ⟨a, _ | ⟨b, _ | ⟨c, l⟩⟩⟩) <;> (generalize hT : formOf _ = T; rw [formOf.eq_def] at hT; dsimp only at hT; subst hT; simp [twoOf])
    all_goals first
      | exact fun h1 h2 h3 => ⟨_, _, ⟨rfl, rfl⟩, h1, h2, h3, rfl, rfl⟩
      | exact fun h1 h2 => ⟨_, _, ⟨rfl, rfl⟩, h1, h2, rfl, rfl⟩
      | exact fun h1 h2 h3 => ⟨h1, h2, h3⟩
      | exact fun h1 h2 => ⟨h1, h2⟩
      | exact fun h1 => h1
  · unfold formOf
    rw [if_neg (by omega), if_neg (by omega), if_neg (by omega), if_neg (by omega)]
    intro h; cases h

/-- cylinderref34.Parts: what is no term. -/
def partL (x : S29) (d : Int) : List (S29 × Int) := (listS x d).filter (fun p => !isT p.1.f0)
theorem partL_eq (x : S29) (d : Int) : partL x d = (if isT x.f0 = true then [] else [(x, d)]) ++ x.f7.flatMap (fun y => partL y (d + 1)) := by
  have key : ∀ l : List S29, (listK l (d + 1)).filter (fun p => !isT p.1.f0) = l.flatMap (fun y => partL y (d + 1)) := by
    intro l
    induction l with
    | nil => rfl
    | cons a l ih => simp only [listK, List.filter_append, List.flatMap_cons, ih]; rfl
  rw [partL, listS_eq, List.filter_cons, key]
  cases isT x.f0 <;> simp
theorem part_term : ∀ x : S29, (termOf x).2 = true → ∀ d, partL x d = [] := by
  intro x
  induction x using S29.ind with
  | h x ih =>
  intro h d
  rw [partL_eq]
  rcases term_inv x h with ⟨h0, h7, -⟩ | ⟨h0, h7, -⟩ | ⟨a, b, h7, ha, hb, h0⟩ | ⟨a, h7, ha, h0⟩
  · rw [h0, h7]; rfl
  · rw [h0, h7]; rfl
  · have ia := ih a (by rw [h7]; simp) ha (d + 1)
    have ib := ih b (by rw [h7]; simp) hb (d + 1)
    rw [h7]
    rcases h0 with ⟨h0, -⟩ | ⟨h0, -⟩ | ⟨h0, -⟩ <;> simp [h0, isT, ia, ib]
  · have ia := ih a (by rw [h7]; simp) ha (d + 1)
    rw [h7]
    rcases h0 with ⟨h0, -⟩ | ⟨h0, -, -⟩ <;> simp [h0, isT, ia]
theorem part_form : ∀ x : S29, (formOf x).2 = true → ∀ d, (partL x d).map (fun p => (p.2, (formOf p.1).1)) = wk (formOf x).1 d ∧ ∀ p ∈ partL x d, (formOf p.1).2 = true := by
  intro x
  induction x using S29.ind with
  | h x ih =>
  intro h d
  rw [partL_eq]
  rcases form_inv x h with ⟨h0, h7, e⟩ | ⟨a, b, h7, ha, hb, h0, -, e⟩ | ⟨a, h7, ha, h0⟩ | ⟨a, b, h7, ha, hb, h0⟩
  · rw [h7, h0]; simp [isT, e, wk, h]
  · rw [h7, h0]; simp [isT, e, wk, h, part_term a ha, part_term b hb]
  · obtain ⟨i1, i2⟩ := ih a (by rw [h7]; simp) ha (d + 1)
    rw [h7]
    rcases h0 with ⟨h0, e⟩ | ⟨h0, e⟩ <;> rw [h0] <;> simp [isT, e, wk, h, i1] <;> exact fun p q hp => i2 _ hp
  · obtain ⟨i1, i2⟩ := ih a (by rw [h7]; simp) ha (d + 1)
    obtain ⟨j1, j2⟩ := ih b (by rw [h7]; simp) hb (d + 1)
    rw [h7]
    rcases h0 with ⟨h0, e⟩ | ⟨h0, e⟩ | ⟨h0, e⟩ | ⟨h0, e⟩ <;> rw [h0] <;> simp [isT, e, wk, h, i1, j1] <;> exact fun p q hp => hp.elim (fun hp => i2 _ hp) (fun hp => j2 _ hp)
theorem wk_size (x : S29) (h : (formOf x).2 = true) (d : Int) : (wk (formOf x).1 d).length ≤ sizeS x := by
  rw [← (part_form x h d).1, List.length_map]
  exact Nat.le_trans (List.length_filter_le _ _) (by rw [listS_len]; exact Nat.le_refl _)

/-- cylinderref34.Bound -/
def boundS (x : S29) : List ByteArray := ((fstL (partL x 0)).filter (fun y => decide (y.f0 = 15))).map (fun y => y.f2)
theorem bound_form (x : S29) (h : (formOf x).2 = true) : boundS x = bndL ((wk (formOf x).1 0).map Prod.snd) := by
  obtain ⟨h1, h2⟩ := part_form x h 0
  rw [← h1, boundS]
  clear h1
  revert h2
  generalize partL x 0 = l
  intro h2
  induction l with
  | nil => rfl
  | cons p l ih =>
    have hp := h2 p (by simp)
    have ih := ih (fun q hq => h2 q (by simp [hq]))
    simp only [fstL, List.map_cons, bndL, List.flatMap_cons] at ih ⊢
    rw [← ih]
    rcases form_inv p.1 hp with ⟨h0, h7, e⟩ | ⟨a, b, h7, ha, hb, h0, -, e⟩ | ⟨a, h7, ha, h0⟩ | ⟨a, b, h7, ha, hb, h0⟩
    · simp [h0, e, bndF]
    · simp [h0, e, bndF]
    · rcases h0 with ⟨h0, e⟩ | ⟨h0, e⟩ <;> simp [h0, e, bndF]
    · rcases h0 with ⟨h0, e⟩ | ⟨h0, e⟩ | ⟨h0, e⟩ | ⟨h0, e⟩ <;> simp [h0, e, bndF]

theorem free_term : ∀ x : S29, (termOf x).2 = true → ∀ bs out, freeS x bs out = (subT (termOf x).1).foldl (addName bs) out := by
  intro x
  induction x using S29.ind with
  | h x ih =>
  intro h bs out
  rw [freeS_eq]
  rcases term_inv x h with ⟨h0, h7, e⟩ | ⟨h0, h7, e⟩ | ⟨a, b, h7, ha, hb, h0⟩ | ⟨a, h7, ha, h0⟩
  · rw [h7, h0, e]; simp [subT, addName]
  · rw [h7, h0, e]
    cases h1 : hasB bs x.f2 <;> cases h2 : hasB out x.f2 <;> simp [subT, addName, h1, h2]
  · have ia := ih a (by rw [h7]; simp) ha
    have ib := ih b (by rw [h7]; simp) hb
    rw [h7]
    rcases h0 with ⟨h0, e⟩ | ⟨h0, e⟩ | ⟨h0, e⟩ <;> rw [h0, e] <;> simp [subT, addName, ia, ib]
  · have ia := ih a (by rw [h7]; simp) ha
    rw [h7]
    rcases h0 with ⟨h0, e⟩ | ⟨h0, -, e⟩ <;> rw [h0, e] <;> simp [subT, addName, ia]
theorem free_form : ∀ x : S29, (formOf x).2 = true → ∀ bs out, freeS x bs out = freeL bs (formOf x).1 out := by
  intro x
  induction x using S29.ind with
  | h x ih =>
  intro h bs out
  rw [freeS_eq]
  rcases form_inv x h with ⟨h0, h7, e⟩ | ⟨a, b, h7, ha, hb, h0, -, e⟩ | ⟨a, h7, ha, h0⟩ | ⟨a, b, h7, ha, hb, h0⟩
  · rw [h7, h0, e]; simp [freeL]
  · rw [h7, h0, e]; simp [freeL, free_term a ha, free_term b hb]
  · have ia := ih a (by rw [h7]; simp) ha
    rw [h7]
    rcases h0 with ⟨h0, e⟩ | ⟨h0, e⟩ <;> rw [h0, e] <;> simp [freeL, ia]
  · have ia := ih a (by rw [h7]; simp) ha
    have ib := ih b (by rw [h7]; simp) hb
    rw [h7]
    rcases h0 with ⟨h0, e⟩ | ⟨h0, e⟩ | ⟨h0, e⟩ | ⟨h0, e⟩ <;> rw [h0, e] <;> simp [freeL, ia, ib]
theorem subT_size : ∀ x : S29, (termOf x).2 = true → (subT (termOf x).1).length = sizeS x := by
  intro x
  induction x using S29.ind with
  | h x ih =>
  intro h
  rw [sizeS_eq]
  rcases term_inv x h with ⟨h0, h7, e⟩ | ⟨h0, h7, e⟩ | ⟨a, b, h7, ha, hb, h0⟩ | ⟨a, h7, ha, h0⟩
  · rw [h7, e]; simp [subT, sizeK]
  · rw [h7, e]; simp [subT, sizeK]
  · have ia := ih a (by rw [h7]; simp) ha
    have ib := ih b (by rw [h7]; simp) hb
    rw [h7]
    rcases h0 with ⟨h0, e⟩ | ⟨h0, e⟩ | ⟨h0, e⟩ <;> rw [e] <;> simp [subT, sizeK, ia, ib] <;> omega
  · have ia := ih a (by rw [h7]; simp) ha
    rw [h7]
    rcases h0 with ⟨h0, e⟩ | ⟨h0, -, e⟩ <;> rw [e] <;> simp [subT, sizeK, ia] <;> omega
theorem nTQ_size : ∀ x : S29, (formOf x).2 = true → nT (formOf x).1 + nQ (formOf x).1 ≤ sizeS x := by
  intro x
  induction x using S29.ind with
  | h x ih =>
  intro h
  rw [sizeS_eq]
  rcases form_inv x h with ⟨h0, h7, e⟩ | ⟨a, b, h7, ha, hb, h0, -, e⟩ | ⟨a, h7, ha, h0⟩ | ⟨a, b, h7, ha, hb, h0⟩
  · rw [e]; simp [nT, nQ]
  · rw [h7, e]; simp [nT, nQ, sizeK, subT_size a ha, subT_size b hb]
  · have ia := ih a (by rw [h7]; simp) ha
    rw [h7]
    rcases h0 with ⟨h0, e⟩ | ⟨h0, e⟩ <;> rw [e] <;> simp [nT, nQ, sizeK] <;> omega
  · have ia := ih a (by rw [h7]; simp) ha
    have ib := ih b (by rw [h7]; simp) hb
    rw [h7]
    rcases h0 with ⟨h0, e⟩ | ⟨h0, e⟩ | ⟨h0, e⟩ | ⟨h0, e⟩ <;> rw [e] <;> simp [nT, nQ, sizeK] <;> omega
end Go.Proofs.Ytddpojinlapmfaa.PRef
