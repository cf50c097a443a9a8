/- The reference of layer 34 as plain functions: List, Few. -/
import Derived.Test.YtddpojinlapmfaaPRefRB
import Derived.Test.YtddpojinlapmfaaRefA
namespace Go.Proofs.Ytddpojinlapmfaa.PRef
set_option linter.unusedVariables false
set_option linter.unusedSimpArgs false
open Go.RowKit Go.Proofs.YtddpojinlapmfaaW.PrintWords Go.Proofs.YtddpojinlapmfaaW.PrintLast Go.Proofs.YtddpojinlapmfaaW.PrintMore

theorem eta29 (x : S29) : (⟨x.f0, ⟨x.f1.f0, x.f1.f1⟩, x.f2, x.f3, x.f4, x.f5, x.f6, x.f7⟩ : S29) = x := by cases x; rfl
theorem listS_len : ∀ (x : S29) (d : Int), (listS x d).length = sizeS x := by
  intro x
  induction x using S29.ind with
  | h x ih =>
  intro d
  rw [listS_eq, sizeS_eq]
  have key : ∀ (l : List S29), (∀ y ∈ l, ∀ d : Int, (listS y d).length = sizeS y) → ∀ d : Int, (listK l d).length = sizeK l := by
    intro l
    induction l with
    | nil => intro _ d; rfl
    | cons a l ihl => intro hl d; simp only [listK, sizeK, List.length_append]; rw [hl a (by simp), ihl (fun y hy => hl y (by simp [hy]))]
  simp only [List.length_cons]
  rw [key x.f7 ih]; omega
theorem sizeK_take (l : List S29) (i : Nat) (h : i < l.length) : sizeK (l.take (i + 1)) = sizeK (l.take i) + sizeS l[i] := by
  induction l generalizing i with
  | nil => simp at h
  | cons a l ih =>
    cases i with
    | zero => simp [sizeK]
    | succ i => simp only [List.take_succ_cons, sizeK, List.getElem_cons_succ]; rw [ih i (by simpa using h)]; omega
theorem sizeK_take_le (l : List S29) (i : Nat) : sizeK (l.take i) ≤ sizeK l := by
  induction l generalizing i with
  | nil => simp
  | cons a l ih =>
    cases i with
    | zero => simp [sizeK]
    | succ i => simp only [List.take_succ_cons, sizeK]; have := ih i; omega
theorem listK_take (l : List S29) (i : Nat) (d : Int) (h : i < l.length) : listK (l.take (i + 1)) d = listK (l.take i) d ++ listS l[i] d := by
  induction l generalizing i with
  | nil => simp at h
  | cons a l ih =>
    cases i with
    | zero => simp [listK]
    | succ i => simp only [List.take_succ_cons, listK, List.getElem_cons_succ]; rw [ih i (by simpa using h), List.append_assoc]
theorem listK_len (l : List S29) (d : Int) : (listK l d).length = sizeK l := by
  induction l with
  | nil => rfl
  | cons a l ih => simp only [listK, sizeK, List.length_append]; rw [listS_len, ih]
theorem len_sizeK (l : List S29) : l.length ≤ sizeK l := by
  induction l with
  | nil => simp [sizeK]
  | cons a l ih => simp only [sizeK, List.length_cons]; rw [sizeS_eq]; omega
theorem sizeS_kid {x y : S29} (h : y ∈ x.f7) : sizeS y < sizeS x := by
  rw [sizeS_eq x]
  have : ∀ l : List S29, y ∈ l → sizeS y ≤ sizeK l := by
    intro l
    induction l with
    | nil => intro h; cases h
    | cons a l ih =>
      intro h
      simp only [sizeK]
      rcases List.mem_cons.1 h with rfl | h
      · omega
      · have := ih h; omega
  have := this _ h
  omega

abbrev listF (k : Nat) (x : S29) (d : Int) := cylinderref34_List.f k x.f0 x.f1.f0 x.f1.f1 x.f2 x.f3 x.f4 x.f5 x.f6 x.f7 d
def fstL (l : List (S29 × Int)) : List S29 := l.map Prod.fst
def sndL (l : List (S29 × Int)) : List Int := l.map Prod.snd
theorem list_ev : ∀ (x : S29) (d : Int), sizeS x ≤ 1000000 → 0 ≤ d → d + sizeS x ≤ 2000000 → Ev (fun k => listF k x d) (fstL (listS x d), sndL (listS x d)) := by
  intro x
  induction x using S29.ind with
  | h x ih =>
  intro d hx hd hd2
  have hsz := sizeS_eq x
  have hll := len_sizeK x.f7
  refine Ev.step (fun k => by unfold listF; rw [cylinderref34_List.f]) ?_
  have key : ∀ (m i : Nat), i + m = x.f7.length →
      Ev (fun k => cylinderref34_List.l0 k d (x :: fstL (listK (x.f7.take i) (d + 1))) (d :: sndL (listK (x.f7.take i) (d + 1))) (x.f7.length : Int) (i : Int) x.f0 x.f1.f0 x.f1.f1 x.f2 x.f3 x.f4 x.f5 x.f6 x.f7)
        (x :: fstL (listK x.f7 (d + 1)), d :: sndL (listK x.f7 (d + 1))) := by
    intro m
    induction m with
    | zero =>
      intro i hi
      rw [List.take_of_length_le (by omega)]
      exact Ev.step (fun k => by rw [cylinderref34_List.l0]) (Ev.ifn (by omega) (Ev.val rfl))
    | succ m ihm =>
      intro i hi
      have hlt : i < x.f7.length := by omega
      have hk := sizeS_kid (List.getElem_mem hlt)
      have h1 := sizeK_take x.f7 i hlt
      have h2 := sizeK_take_le x.f7 (i + 1)
      refine Ev.step (fun k => by rw [cylinderref34_List.l0]) (Ev.ifp (by omega) (Ev.ifp (by omega) (Ev.ifp (by omega) ?_)))
      rw [rd29_at _ _ hlt, wrap_ok (by omega) (by omega), wrap_succ (by omega)]
      refine Ev.bind (ih _ (List.getElem_mem hlt) (d + 1) (by omega) (by omega) (by omega)) ?_
      refine Ev.ifp (by simp [fstL, listK_len, listS_len]; omega) (Ev.ifp (by simp [sndL, listK_len, listS_len]; omega) ?_)
      have := ihm (i + 1) (by omega)
      rw [listK_take _ _ _ hlt] at this
      simpa [fstL, sndL] using this
  have := key x.f7.length 0 (by omega)
  rw [listS_eq]
  simp only [listK, List.take_zero, fstL, sndL, List.map_nil, List.map_cons] at this ⊢
  simp only [eta29]
  exact this

/-- Numbers of at most 20 words, names of at most 40 bytes. -/
def shortB (x : S29) : Bool := decide (x.f1.f1.length ≤ 20) && decide (x.f2.size ≤ 40)
def fewB (x : S29) (n : Int) : Bool := decide (0 ≤ roomS x n 40) && (fstL (listS x 0)).all shortB
abbrev fewF (k : Nat) (x : S29) (n : Int) := cylinderref34_Few.f k x.f0 x.f1.f0 x.f1.f1 x.f2 x.f3 x.f4 x.f5 x.f6 x.f7 n
theorem fewL_ev (l : List S29) (hl : l.length ≤ 1000000) : ∀ (m i : Nat), i + m = l.length → Ev (fun k => cylinderref34_Few.l0 k l (l.length : Int) (i : Int)) ((l.drop i).all shortB) := by
  intro m
  induction m with
  | zero =>
    intro i hi
    rw [List.drop_of_length_le (by omega)]
    exact Ev.step (fun k => by rw [cylinderref34_Few.l0]) (Ev.ifn (by omega) (Ev.val (by simp)))
  | succ m ihm =>
    intro i hi
    have hlt : i < l.length := by omega
    rw [List.drop_eq_getElem_cons hlt]
    simp only [List.all_cons]
    refine Ev.step (fun k => by rw [cylinderref34_Few.l0]) (Ev.ifp (by omega) (Ev.ifp (by omega) (Ev.ifp (by omega) ?_)))
    rw [rd29_at _ _ hlt, wrap_succ (by omega)]
    by_cases h1 : l[i].f1.f1.length ≤ 20
    · refine Ev.ifn (by omega) ?_
      by_cases h2 : l[i].f2.size ≤ 40
      · refine Ev.ifn (by omega) ?_
        have e : shortB l[i] = true := by simp [shortB, h1, h2]
        rw [e, Bool.true_and]
        exact ihm (i + 1) (by omega)
      · exact Ev.ifp (by omega) (Ev.val (by simp [shortB, h2]))
    · exact Ev.ifp (by omega) (Ev.val (by simp [shortB, h1]))
theorem few_ev (x : S29) (n : Int) (hn : 0 ≤ n) (hn2 : n ≤ 1000000) : Ev (fun k => fewF k x n) (fewB x n) := by
  refine Ev.congr (fun k => by unfold fewF; rw [cylinderref34_Few.f]) (Ev.bind (room_ev x n 40 hn hn2 (by omega) (by omega)) ?_)
  by_cases h : 0 ≤ roomS x n 40
  · have hs := room_size x n 40 hn h
    have hr := room_le x n 40 hn
    refine Ev.ifn (by omega) (Ev.bind (list_ev x 0 (by omega) (by omega) (by omega)) ?_)
    have := fewL_ev (fstL (listS x 0)) (by simp [fstL, listS_len]; omega) (fstL (listS x 0)).length 0 (by omega)
    rw [List.drop_zero] at this
    exact Ev.to (by simp [fewB, h]) this
  · exact Ev.ifp (by omega) (Ev.val (by simp [fewB, h]))

/-- All trees in a tree are short. -/
inductive Short : S29 → Prop
  | mk (x : S29) (h1 : x.f1.f1.length ≤ 20) (h2 : x.f2.size ≤ 40) (hk : ∀ y ∈ x.f7, Short y) : Short x
theorem short_of (x : S29) : ∀ d : Int, (fstL (listS x d)).all shortB = true → Short x := by
  induction x using S29.ind with
  | h x ih =>
  intro d h
  rw [listS_eq] at h
  simp only [fstL, List.map_cons, List.all_cons, Bool.and_eq_true] at h
  obtain ⟨h1, h2⟩ := h
  simp only [shortB, Bool.and_eq_true, decide_eq_true_eq] at h1
  refine .mk x h1.1 h1.2 (fun y hy => ?_)
  have key : ∀ (l : List S29) (d : Int), ((listK l d).map Prod.fst).all shortB = true → y ∈ l → ((listS y d).map Prod.fst).all shortB = true := by
    intro l
    induction l with
    | nil => intro d _ h; cases h
    | cons a l ihl =>
      intro d h hm
      simp only [listK, List.map_append, List.all_append, Bool.and_eq_true] at h
      rcases List.mem_cons.1 hm with rfl | hm
      · exact h.1
      · exact ihl d h.2 hm
  exact ih y hy (d + 1) (key x.f7 (d + 1) h2 hy)
theorem few_size {x : S29} {n : Int} (hn : 0 ≤ n) (h : fewB x n = true) : (sizeS x : Int) ≤ n := by
  simp only [fewB, Bool.and_eq_true, decide_eq_true_eq] at h
  have := room_size x n 40 hn h.1
  omega
theorem few_short {x : S29} {n : Int} (h : fewB x n = true) : Short x := by
  simp only [fewB, Bool.and_eq_true, decide_eq_true_eq] at h
  exact short_of x 0 h.2
theorem Short.small {x : S29} (h : Short x) : SmallS x := by
  induction h with
  | mk x h1 h2 hk ih => exact .mk x (by omega) ih
end Go.Proofs.Ytddpojinlapmfaa.PRef
