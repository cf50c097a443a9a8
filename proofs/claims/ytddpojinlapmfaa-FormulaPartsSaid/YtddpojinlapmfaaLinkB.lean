/- Plain: counts over a walk; what a quantifier does to the free names. -/
import Derived.Test.YtddpojinlapmfaaLinkA
namespace Go.Proofs.Ytddpojinlapmfaa.PRef
set_option linter.unusedVariables false
set_option linter.unusedSimpArgs false
open Go.RowKit Go.Proofs.YtddpojinlapmfaaW.PrintWords Go.Proofs.YtddpojinlapmfaaW.PrintLast Go.Proofs.YtddpojinlapmfaaW.PrintMore

theorem wk_shift : ∀ (F : Fm) (d e : Int), (wk F d).map Prod.snd = (wk F e).map Prod.snd := by
  intro F
  induction F with
  | truth b => intro d e; rfl
  | atom l r s => intro d e; rfl
  | odd u => intro d e; rfl
  | not a ih => intro d e; simp only [wk, List.map_cons]; rw [ih (d + 1) (e + 1)]
  | quant q s a ih => intro d e; simp only [wk, List.map_cons]; rw [ih (d + 1) (e + 1)]
  | and a b iha ihb => intro d e; simp only [wk, List.map_cons, List.map_append]; rw [iha (d + 1) (e + 1), ihb (d + 1) (e + 1)]
  | or a b iha ihb => intro d e; simp only [wk, List.map_cons, List.map_append]; rw [iha (d + 1) (e + 1), ihb (d + 1) (e + 1)]
  | imp a b iha ihb => intro d e; simp only [wk, List.map_cons, List.map_append]; rw [iha (d + 1) (e + 1), ihb (d + 1) (e + 1)]
  | iff a b iha ihb => intro d e; simp only [wk, List.map_cons, List.map_append]; rw [iha (d + 1) (e + 1), ihb (d + 1) (e + 1)]
/-- All formulas in a formula. -/
def subF (F : Fm) : List Fm := (wk F 0).map Prod.snd
theorem subF_quant (q : Bool) (s : ByteArray) (F : Fm) : subF (.quant q s F) = .quant q s F :: subF F := by
  simp only [subF, wk, List.map_cons]; rw [wk_shift F (0 + 1) 0]
theorem subF_len (F : Fm) : (subF F).length = (wk F 0).length := by simp [subF]
theorem bump_eq : ∀ (n : Nat) (x : Int), 0 ≤ x → x + n ≤ 1000000000 → bump n x = x + n := by
  intro n
  induction n with
  | zero => intro x _ _; simp [bump]
  | succ n ih => intro x h0 h1; rw [bump, ih x h0 (by omega), wrap_ok (by omega) (by omega)]; omega
theorem cntN_eq : ∀ l : List Fm, (l.map ownN).sum ≤ 1000000 → cntN l = ((l.map ownN).sum : Nat) := by
  intro l
  induction h : l.length generalizing l with
  | zero => intro _; have : l = [] := List.eq_nil_of_length_eq_zero h; subst this; rfl
  | succ n ih =>
    rcases List.eq_nil_or_concat l with rfl | ⟨ys, x, rfl⟩
    · simp at h
    · rw [List.concat_eq_append] at h ⊢
      intro hs
      simp at hs h
      rw [cntN_snoc, ih ys h (by omega), bump_eq _ _ (by omega) (by omega)]
      simp
theorem cntA_eq : ∀ l : List Fm, l.length ≤ 1000000 → cntA l = (l.countP isAtom : Nat) := by
  intro l
  induction h : l.length generalizing l with
  | zero => intro _; have : l = [] := List.eq_nil_of_length_eq_zero h; subst this; rfl
  | succ n ih =>
    rcases List.eq_nil_or_concat l with rfl | ⟨ys, x, rfl⟩
    · simp at h
    · rw [List.concat_eq_append] at h ⊢
      intro hs
      simp at h
      have hc := List.countP_le_length (p := isAtom) (l := ys)
      rw [cntA_snoc, ih ys h (by omega), List.countP_append]
      cases hx : isAtom x
      · simp [hx]
      · rw [if_pos rfl, wrap_ok (by omega) (by omega)]; simp [hx]
theorem nodes_size : ∀ x : S29, (formOf x).2 = true → ((subF (formOf x).1).map ownN).sum = sizeS x := by
  intro x
  induction x using S29.ind with
  | h x ih =>
  intro h
  have sh : ∀ (F : Fm), (wk F (0 + 1)).map Prod.snd = (wk F 0).map Prod.snd := fun F => wk_shift F (0 + 1) 0
  rw [sizeS_eq]
  rcases form_inv x h with ⟨h0, h7, e⟩ | ⟨a, b, h7, ha, hb, h0, -, e⟩ | ⟨a, h7, ha, h0⟩ | ⟨a, b, h7, ha, hb, h0⟩
  · rw [h7, e]; simp [subF, wk, ownN, sizeK]
  · rw [h7, e]; simp [subF, wk, ownN, sizeK, subT_size a ha, subT_size b hb]; try omega
  · have ia := ih a (by rw [h7]; simp) ha
    unfold subF at ia
    rw [h7]
    rcases h0 with ⟨h0, e⟩ | ⟨h0, e⟩ <;> rw [e] <;> simp only [subF, wk, List.map_cons, List.sum_cons, sh, ia, ownN, sizeK] <;> omega
  · have ia := ih a (by rw [h7]; simp) ha
    unfold subF at ia
    have ib := ih b (by rw [h7]; simp) hb
    unfold subF at ib
    rw [h7]
    rcases h0 with ⟨h0, e⟩ | ⟨h0, e⟩ | ⟨h0, e⟩ | ⟨h0, e⟩ <;> rw [e] <;> simp only [subF, wk, List.map_cons, List.map_append, List.sum_append, List.sum_cons, sh, ia, ib, ownN, sizeK] <;> omega

/-- Without a name. -/
def dropN (s : ByteArray) (l : List ByteArray) : List ByteArray := l.filter (fun t => decide (t ≠ s))
theorem dropN_snoc (s : ByteArray) (l : List ByteArray) (t : ByteArray) : dropN s (l ++ [t]) = if t = s then dropN s l else dropN s l ++ [t] := by
  unfold dropN
  rw [List.filter_append]
  by_cases h : t = s <;> simp [h]
theorem hasB_append (l m : List ByteArray) (t : ByteArray) : hasB (l ++ m) t = (hasB l t || hasB m t) := by simp [hasB]
theorem hasB_drop {s t : ByteArray} (l : List ByteArray) (h : t ≠ s) : hasB (dropN s l) t = hasB l t := by
  induction l with
  | nil => rfl
  | cons a l ih =>
    have e : dropN s (a :: l) = if a = s then dropN s l else a :: dropN s l := by unfold dropN; rw [List.filter_cons]; by_cases ha : a = s <;> simp [ha]
    rw [e]
    split
    · next ha => rw [ih]; simp only [hasB, List.any_cons]; rw [ha]; simp [show ¬ s = t from fun h' => h h'.symm]
    · simp only [hasB, List.any_cons] at ih ⊢; rw [ih]
theorem addName_drop (s : ByteArray) (bs bs' : List ByteArray) (hb : ∀ t, hasB bs' t = (hasB bs t || decide (t = s))) (out : List ByteArray) (t : Tm) : addName bs' (dropN s out) t = dropN s (addName bs out t) := by
  cases t with
  | name u =>
    simp only [addName]
    by_cases hu : u = s
    · subst hu
      rw [if_pos (.inl (by rw [hb]; simp))]
      split
      · rfl
      · rw [dropN_snoc, if_pos rfl]
    · rw [hb, hasB_drop _ hu]
      have : decide (u = s) = false := decide_eq_false hu
      rw [this, Bool.or_false]
      split
      · rfl
      · rw [dropN_snoc, if_neg hu]
  | _ => rfl
theorem foldName_drop (s : ByteArray) (bs bs' : List ByteArray) (hb : ∀ t, hasB bs' t = (hasB bs t || decide (t = s))) : ∀ (l : List Tm) (out : List ByteArray), l.foldl (addName bs') (dropN s out) = dropN s (l.foldl (addName bs) out) := by
  intro l
  induction l with
  | nil => intro out; rfl
  | cons a l ih => intro out; simp only [List.foldl_cons]; rw [addName_drop s bs bs' hb, ih]
theorem freeL_drop (s : ByteArray) : ∀ (F : Fm) (bs bs' : List ByteArray), (∀ t, hasB bs' t = (hasB bs t || decide (t = s))) → ∀ out, freeL bs' F (dropN s out) = dropN s (freeL bs F out) := by
  intro F
  induction F with
  | truth b => intro bs bs' hb out; rfl
  | odd u => intro bs bs' hb out; rfl
  | atom l r m => intro bs bs' hb out; exact foldName_drop s bs bs' hb _ _
  | not a ih => intro bs bs' hb out; exact ih bs bs' hb out
  | quant q u a ih =>
    intro bs bs' hb out
    refine ih (bs ++ [u]) (bs' ++ [u]) (fun t => ?_) out
    rw [hasB_append, hasB_append, hb]
    cases hasB bs t <;> cases hasB [u] t <;> simp
  | and a b iha ihb => intro bs bs' hb out; simp only [freeL]; rw [iha bs bs' hb, ihb bs bs' hb]
  | or a b iha ihb => intro bs bs' hb out; simp only [freeL]; rw [iha bs bs' hb, ihb bs bs' hb]
  | imp a b iha ihb => intro bs bs' hb out; simp only [freeL]; rw [iha bs bs' hb, ihb bs bs' hb]
  | iff a b iha ihb => intro bs bs' hb out; simp only [freeL]; rw [iha bs bs' hb, ihb bs bs' hb]
theorem free_quantL (q : Bool) (s : ByteArray) (F : Fm) : freeL [] (.quant q s F) [] = dropN s (freeL [] F []) := by
  have := freeL_drop s F [] [s] (fun t => by by_cases h : t = s <;> simp [hasB, h, eq_comm]) []
  exact this
end Go.Proofs.Ytddpojinlapmfaa.PRef
