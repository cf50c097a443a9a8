/- The reference of layer 34 as plain functions: Is, Int, Canon, Same. -/
import Derived.Test.YtddpojinlapmfaaPRefRC
import Derived.Test.YtddpojinlapmfaaPRefRD
import Derived.Test.YtddpojinlapmfaaPRefRE
import Derived.Test.YtddpojinlapmfaaRefB
namespace Go.Proofs.Ytddpojinlapmfaa.PRef
set_option linter.unusedVariables false
set_option linter.unusedSimpArgs false
open Go.RowKit Go.Proofs.YtddpojinlapmfaaW.PrintWords Go.Proofs.YtddpojinlapmfaaW.PrintLast Go.Proofs.YtddpojinlapmfaaW.PrintMore

def kidsN (k : Int) : Int × Bool :=
  if k = 1 ∨ k = 2 ∨ k = 8 then (0, true) else if k = 6 ∨ k = 7 then (1, true) else if k = 3 ∨ k = 4 ∨ k = 5 ∨ k = 9 then (2, true) else if k = 10 ∨ k = 15 then (1, false) else if k = 11 ∨ k = 12 ∨ k = 13 ∨ k = 14 then (2, false) else (-1, false)
theorem kind_ways (k : Int) : (k = 1 ∨ k = 2 ∨ k = 3 ∨ k = 4 ∨ k = 5 ∨ k = 6 ∨ k = 7 ∨ k = 8 ∨ k = 9 ∨ k = 10 ∨ k = 11 ∨ k = 12 ∨ k = 13 ∨ k = 14 ∨ k = 15) ∨ (k < 1 ∨ 15 < k) := by omega
theorem kids_ev (k : Int) : Ev (fun m => cylinderref34_kids.f m k) (kidsN k) := by
  rcases kind_ways k with h | h
  · rcases h with rfl | rfl | rfl | rfl | rfl | rfl | rfl | rfl | rfl | rfl | rfl | rfl | rfl | rfl | rfl <;> exact Ev.of (fun m => cylinderref34_kids.mono _ m) (k := 6) rfl
  · have e : kidsN k = (-1, false) := by
      unfold kidsN
      rw [if_neg (by omega), if_neg (by omega), if_neg (by omega), if_neg (by omega), if_neg (by omega)]
    rw [e]
    have b1 : (k == 8) = false := beq_eq_false_iff_ne.2 (by omega)
    have b2 : (k == 7) = false := beq_eq_false_iff_ne.2 (by omega)
    have b3 : (k == 9) = false := beq_eq_false_iff_ne.2 (by omega)
    have b4 : (k == 15) = false := beq_eq_false_iff_ne.2 (by omega)
    refine Ev.congr (fun m => by rw [cylinderref34_kids.f]) (Ev.ifn (by omega) (Ev.ifn (by omega) ?_))
    rw [b1]
    refine Ev.step (fun m => by rw [cylinderref34_kids.j0]) (Ev.ifn (by decide) (Ev.ifn (by omega) ?_))
    rw [b2]
    refine Ev.step (fun m => by rw [cylinderref34_kids.j1]) (Ev.ifn (by decide) (Ev.ifn (by omega) (Ev.ifn (by omega) (Ev.ifn (by omega) ?_))))
    rw [b3]
    refine Ev.step (fun m => by rw [cylinderref34_kids.j2]) (Ev.ifn (by decide) (Ev.ifn (by omega) ?_))
    rw [b4]
    exact Ev.step (fun m => by rw [cylinderref34_kids.j3]) (Ev.ifn (by decide) (Ev.ifn (by omega) (Ev.ifn (by omega) (Ev.ifn (by omega) (Ev.ifn (by omega) (Ev.val rfl))))))

def isT (k : Int) : Bool := decide (1 ≤ k) && decide (k ≤ 7)
theorem isTerm_is (k : Int) : cylinderref34_isTerm.f k = some (isT k) := by
  unfold cylinderref34_isTerm.f isT
  by_cases h : 1 ≤ k
  · rw [if_pos h]; simp [h]
  · rw [if_neg h]; simp [h]

/-- Is it a tree of a term, or of a formula? -/
def isS (x : S29) (term : Bool) : Bool := if term = true then (termOf x).2 else (formOf x).2
def isOk (x : S29) : Bool := !(decide (x.f0 = 7) && decide (x.f3 < 0)) && !(decide (x.f0 = 9) && !sixB x.f4)
theorem isS_eq (x : S29) (term : Bool) : isS x term = (decide ((kidsN x.f0).1 = (x.f7.length : Int)) && (isT x.f0 == term) && isOk x && x.f7.all (fun y => isS y (kidsN x.f0).2)) := by
  obtain ⟨k, v, nm, e, r, tr, al, kids⟩ := x
  cases term with
  | true =>
    show (termOf _).2 = _
    rcases kind_ways k with h | h
    · rcases h with rfl | rfl | rfl | rfl | rfl | rfl | rfl | rfl | rfl | rfl | rfl | rfl | rfl | rfl | rfl <;> (rcases kids with _ | ⟨a, _ | ⟨b, _ | ⟨c, l⟩⟩⟩) <;> ((conv => lhs; unfold termOf); simp [kidsN, isT, isOk, isS] <;> first | omega | (have hd : (!decide (e < 0)) = decide (0 ≤ e) := (by by_cases h : e < 0 <;> simp [h] <;> omega); rw [hd, Bool.and_comm]))
    · have h1 : kidsN k = (-1, false) := by
        unfold kidsN
        rw [if_neg (by omega), if_neg (by omega), if_neg (by omega), if_neg (by omega), if_neg (by omega)]
      conv => lhs; unfold termOf
      rw [if_neg (by omega), if_neg (by omega), if_neg (by omega), if_neg (by omega)]
      simp only [h1]
      have : ¬ ((-1 : Int) = (kids.length : Int)) := by omega
      simp [this]
  | false =>
    show (formOf _).2 = _
    rcases kind_ways k with h | h
    · rcases h with rfl | rfl | rfl | rfl | rfl | rfl | rfl | rfl | rfl | rfl | rfl | rfl | rfl | rfl | rfl <;> (rcases kids with _ | ⟨a, _ | ⟨b, _ | ⟨c, l⟩⟩⟩) <;> ((conv => lhs; unfold formOf); simp [kidsN, isT, isOk, isS, twoOf] <;> first | omega | rw [Bool.and_comm])
    · have h1 : kidsN k = (-1, false) := by
        unfold kidsN
        rw [if_neg (by omega), if_neg (by omega), if_neg (by omega), if_neg (by omega), if_neg (by omega)]
      conv => lhs; unfold formOf
      rw [if_neg (by omega), if_neg (by omega), if_neg (by omega), if_neg (by omega)]
      simp only [h1]
      have : ¬ ((-1 : Int) = (kids.length : Int)) := by omega
      simp [this]

abbrev isF (k : Nat) (x : S29) (b : Bool) := cylinderref34_Is.f k x.f0 x.f1.f0 x.f1.f1 x.f2 x.f3 x.f4 x.f5 x.f6 x.f7 b
theorem is_ev : ∀ (x : S29) (term : Bool), sizeS x ≤ 1000000 → Ev (fun k => isF k x term) (isS x term) := by
  intro x
  induction x using S29.ind with
  | h x ih =>
  intro term hx
  have hsz := sizeS_eq x
  have hll := len_sizeK x.f7
  rw [isS_eq]
  have loop : ∀ (b : Bool) (m i : Nat), i + m = x.f7.length → Ev (fun k => cylinderref34_Is.l0 k b (x.f7.length : Int) (i : Int) x.f0 x.f1.f0 x.f1.f1 x.f2 x.f3 x.f4 x.f5 x.f6 x.f7) ((x.f7.drop i).all (fun y => isS y b)) := by
    intro b m
    induction m with
    | zero =>
      intro i hi
      rw [List.drop_of_length_le (by omega)]
      exact Ev.step (fun k => by rw [cylinderref34_Is.l0]) (Ev.ifn (by omega) (Ev.val (by simp)))
    | succ m ihm =>
      intro i hi
      have hlt : i < x.f7.length := by omega
      have hk := sizeS_kid (List.getElem_mem hlt)
      rw [List.drop_eq_getElem_cons hlt]
      simp only [List.all_cons]
      refine Ev.step (fun k => by rw [cylinderref34_Is.l0]) (Ev.ifp (by omega) (Ev.ifp (by omega) (Ev.ifp (by omega) ?_)))
      rw [rd29_at _ _ hlt, wrap_succ (by omega)]
      refine Ev.bind (ih _ (List.getElem_mem hlt) b (by omega)) ?_
      cases isS x.f7[i] b with
      | true => exact Ev.ifp rfl (by simpa using ihm (i + 1) (by omega))
      | false => exact Ev.ifn (by simp) (Ev.val rfl)
  have j1 : ∀ (b bad : Bool), Ev (fun k => cylinderref34_Is.j1 k b bad x.f0 x.f1.f0 x.f1.f1 x.f2 x.f3 x.f4 x.f5 x.f6 x.f7) (!bad && x.f7.all (fun y => isS y b)) := by
    intro b bad
    refine Ev.step (fun k => by rw [cylinderref34_Is.j1]) ?_
    cases bad with
    | true => exact Ev.ifp rfl (Ev.val rfl)
    | false => refine Ev.ifn (by simp) ?_; have := loop b x.f7.length 0 (by omega); simpa using this
  have j0 : ∀ (b bad : Bool), Ev (fun k => cylinderref34_Is.j0 k b bad x.f0 x.f1.f0 x.f1.f1 x.f2 x.f3 x.f4 x.f5 x.f6 x.f7) (!bad && (isOk x && x.f7.all (fun y => isS y b))) := by
    intro b bad
    refine Ev.step (fun k => by rw [cylinderref34_Is.j0]) ?_
    cases bad with
    | true => exact Ev.ifp rfl (Ev.val rfl)
    | false =>
      refine Ev.ifn (by simp) ?_
      by_cases h7 : x.f0 = 7
      · refine Ev.ifp h7 ?_
        by_cases he : x.f3 < 0
        · exact Ev.ifp he (Ev.to (by simp [isOk, h7, he]) (j1 b true))
        · refine Ev.ifn he (Ev.ifn (by omega) (Ev.to (by simp [isOk, h7, he]) (j1 b false)))
      · refine Ev.ifn h7 ?_
        by_cases h9 : x.f0 = 9
        · refine Ev.ifp h9 ?_
          by_cases h1 : x.f4 < 1
          · exact Ev.ifp h1 (Ev.to (by have : ¬ (1 ≤ x.f4) := by omega
                                       simp [isOk, h9, sixB, this]) (j1 b true))
          · refine Ev.ifn h1 (Ev.to ?_ (j1 b (decide (x.f4 > 6))))
            have h2 : 1 ≤ x.f4 := by omega
            have h3 : decide (x.f4 > 6) = !decide (x.f4 ≤ 6) := by by_cases h : x.f4 ≤ 6 <;> simp [h] <;> omega
            simp [isOk, h9, sixB, h2, h3]
        · exact Ev.ifn h9 (Ev.to (by simp [isOk, h7, h9]) (j1 b false))
  refine Ev.step (fun k => by unfold isF; rw [cylinderref34_Is.f]) (Ev.bind (kids_ev x.f0) ?_)
  by_cases hn : (kidsN x.f0).1 = (x.f7.length : Int)
  · refine Ev.ifp hn (Ev.bc (isTerm_is _) ?_)
    refine Ev.to ?_ (j0 _ _)
    simp only [hn, decide_true, Bool.true_and, Bool.and_assoc]
    cases isT x.f0 <;> cases term <;> rfl
  · exact Ev.ifn hn (Ev.to (by simp [hn]) (j0 _ _))

theorem trimL_take_succ (xs : List Int) (i : Nat) (h : i < xs.length) (h0 : xs[i] = 0) : trimL (xs.take (i + 1)) = trimL (xs.take i) := by
  rw [← List.take_append_getElem h, h0, trimL_zero]
theorem int_ev (n : Bool) (xs : List Int) (hx : xs.length ≤ 1000000) : Ev (fun k => cylinderref34_Int.f k n xs) ((normI n xs).f0, (normI n xs).f1) := by
  have key : ∀ i : Nat, i ≤ xs.length → trimL (xs.take i) = trimL xs → Ev (fun k => cylinderref34_Int.l0 k (i : Int) n xs) ((normI n xs).f0, (normI n xs).f1) := by
    intro i
    induction i with
    | zero =>
      intro _ h
      rw [List.take_zero, trimL_nil] at h
      refine Ev.step (fun k => by rw [cylinderref34_Int.l0]) (Ev.ifn (by omega) (Ev.ifp (by omega) (Ev.val ?_)))
      simp [normI, ← h]
    | succ i ih =>
      intro hi h
      have e : wrap64 (((i + 1 : Nat) : Int) - 1) = (i : Int) := by rw [wrap_ok (by omega) (by omega)]; omega
      have hlt : i < xs.length := by omega
      have hrd : rd xs (i : Int) = xs[i] := by simp [rd, hlt]
      refine Ev.step (fun k => by rw [cylinderref34_Int.l0]) (Ev.ifp (by omega) ?_)
      rw [e, hrd]
      refine Ev.ifp (by omega) (Ev.ifp (by omega) ?_)
      by_cases h0 : xs[i] = 0
      · exact Ev.ifp h0 (ih (by omega) (by rw [← trimL_take_succ xs i hlt h0]; exact h))
      · refine Ev.ifn h0 (Ev.ifn (by omega) (Ev.bc rfl (Ev.ifp (by omega) (Ev.ifp (by omega) (Ev.ifp (by simp; omega) (Ev.val ?_))))))
        rw [← List.take_append_getElem hlt, trimL_stop _ h0] at h
        have e2 : (((i + 1 : Nat) : Int)).toNat = i + 1 := by omega
        simp only [normI, ← h, e2, List.nil_append]
        rw [List.take_append_getElem hlt]
        simp
        cases hxs : xs with
        | nil => rw [hxs] at hlt; simp at hlt
        | cons a l => simp
  have := key xs.length (Nat.le_refl _) (by rw [List.take_length])
  exact this

mutual
/-- cylinderref34.Canon -/
def canonS : S29 → S29
  | ⟨k, v, nm, e, r, tr, al, kids⟩ => ⟨k, if k = 1 then normI v.f0 v.f1 else ⟨false, []⟩, if k = 2 ∨ k = 15 then nm else ⟨#[]⟩, if k = 7 then e else 0, if k = 9 then r else 0, if k = 8 then tr else false, if k = 15 then al else false, canonK kids⟩
def canonK : List S29 → List S29
  | [] => []
  | a :: l => canonS a :: canonK l
end
theorem canonS_eq (x : S29) : canonS x = ⟨x.f0, if x.f0 = 1 then normI x.f1.f0 x.f1.f1 else ⟨false, []⟩, if x.f0 = 2 ∨ x.f0 = 15 then x.f2 else ⟨#[]⟩, if x.f0 = 7 then x.f3 else 0, if x.f0 = 9 then x.f4 else 0, if x.f0 = 8 then x.f5 else false, if x.f0 = 15 then x.f6 else false, x.f7.map canonS⟩ := by
  have : ∀ l : List S29, canonK l = l.map canonS := by
    intro l
    induction l with
    | nil => rfl
    | cons a l ih => simp only [canonK, List.map_cons, ih]
  cases x; simp [canonS, this]
def tup (x : S29) : Int × Bool × List Int × ByteArray × Int × Int × Bool × Bool × List S29 := (x.f0, x.f1.f0, x.f1.f1, x.f2, x.f3, x.f4, x.f5, x.f6, x.f7)
theorem untup (x : S29) : (⟨(tup x).1, (⟨(tup x).2.1, (tup x).2.2.1⟩ : S25), (tup x).2.2.2.1, (tup x).2.2.2.2.1, (tup x).2.2.2.2.2.1, (tup x).2.2.2.2.2.2.1, (tup x).2.2.2.2.2.2.2.1, (tup x).2.2.2.2.2.2.2.2⟩ : S29) = x := by cases x; rfl
abbrev canonF (k : Nat) (x : S29) := cylinderref34_Canon.f k x.f0 x.f1.f0 x.f1.f1 x.f2 x.f3 x.f4 x.f5 x.f6 x.f7
theorem canon_ev : ∀ (x : S29), SmallS x → sizeS x ≤ 1000000 → Ev (fun k => canonF k x) (tup (canonS x)) := by
  intro x
  induction x using S29.ind with
  | h x ih =>
  intro hsm hx
  have hsz := sizeS_eq x
  have hll := len_sizeK x.f7
  obtain ⟨_, hw, hks⟩ := hsm
  have loop : ∀ (y0 : Int) (y1 : Bool) (y2 : List Int) (y3 : ByteArray) (y4 y5 : Int) (y6 y7 : Bool) (m i : Nat), i + m = x.f7.length →
      Ev (fun k => cylinderref34_Canon.l0 k (x.f7.length : Int) (i : Int) x.f0 x.f1.f0 x.f1.f1 x.f2 x.f3 x.f4 x.f5 x.f6 x.f7 y0 y1 y2 y3 y4 y5 y6 y7 ((x.f7.take i).map canonS)) (y0, y1, y2, y3, y4, y5, y6, y7, x.f7.map canonS) := by
    intro y0 y1 y2 y3 y4 y5 y6 y7 m
    induction m with
    | zero =>
      intro i hi
      rw [List.take_of_length_le (by omega)]
      exact Ev.step (fun k => by rw [cylinderref34_Canon.l0]) (Ev.ifn (by omega) (Ev.val rfl))
    | succ m ihm =>
      intro i hi
      have hlt : i < x.f7.length := by omega
      have hk := sizeS_kid (List.getElem_mem hlt)
      refine Ev.step (fun k => by rw [cylinderref34_Canon.l0]) (Ev.ifp (by omega) (Ev.ifp (by omega) (Ev.ifp (by omega) ?_)))
      rw [rd29_at _ _ hlt, wrap_succ (by omega)]
      refine Ev.bind (ih _ (List.getElem_mem hlt) (hks _ (List.getElem_mem hlt)) (by omega)) (Ev.ifp (by simp; omega) ?_)
      have := ihm (i + 1) (by omega)
      rw [List.take_succ_eq_append_getElem hlt, List.map_append, List.map_singleton] at this
      rw [untup]
      exact this
  have j0 : ∀ (y0 : Int) (y1 : Bool) (y2 : List Int) (y3 : ByteArray) (y4 y5 : Int) (y6 y7 : Bool),
      Ev (fun k => cylinderref34_Canon.j0 k x.f0 x.f1.f0 x.f1.f1 x.f2 x.f3 x.f4 x.f5 x.f6 x.f7 y0 y1 y2 y3 y4 y5 y6 y7) (y0, y1, y2, y3, y4, y5, y6, y7, x.f7.map canonS) := by
    intro y0 y1 y2 y3 y4 y5 y6 y7
    exact Ev.step (fun k => by rw [cylinderref34_Canon.j0]) (by have := loop y0 y1 y2 y3 y4 y5 y6 y7 x.f7.length 0 (by omega); simpa using this)
  refine Ev.step (fun k => by unfold canonF; rw [cylinderref34_Canon.f]) ?_
  rw [canonS_eq]
  by_cases h1 : x.f0 = 1
  · exact Ev.ifp h1 (Ev.bind (int_ev _ _ (by omega)) (Ev.to (by simp [tup, h1]) (j0 _ _ _ _ _ _ _ _)))
  refine Ev.ifn h1 ?_
  by_cases h2 : x.f0 = 2
  · exact Ev.ifp h2 (Ev.to (by simp [tup, h2]) (j0 _ _ _ _ _ _ _ _))
  refine Ev.ifn h2 ?_
  by_cases h7 : x.f0 = 7
  · exact Ev.ifp h7 (Ev.to (by simp [tup, h7]) (j0 _ _ _ _ _ _ _ _))
  refine Ev.ifn h7 ?_
  by_cases h8 : x.f0 = 8
  · exact Ev.ifp h8 (Ev.to (by simp [tup, h8]) (j0 _ _ _ _ _ _ _ _))
  refine Ev.ifn h8 ?_
  by_cases h9 : x.f0 = 9
  · exact Ev.ifp h9 (Ev.to (by simp [tup, h9]) (j0 _ _ _ _ _ _ _ _))
  refine Ev.ifn h9 ?_
  by_cases h15 : x.f0 = 15
  · exact Ev.ifp h15 (Ev.to (by simp [tup, h15]) (j0 _ _ _ _ _ _ _ _))
  · exact Ev.ifn h15 (Ev.to (by simp [tup, h1, h2, h7, h8, h9, h15]) (j0 _ _ _ _ _ _ _ _))

theorem rd_at (l : List Int) (i : Nat) (h : i < l.length) : rd l (i : Int) = l[i] := by simp [rd, h]
theorem sameInt_ev (a b : Bool) (l m : List Int) (hl : l.length ≤ 1000000) : ∃ r : Bool, Ev (fun k => cylinderref34_SameInt.f k a l b m) r ∧ (r = true ↔ a = b ∧ l = m) := by
  have bad : Ev (fun k => cylinderref34_SameInt.j0 k true a l b m) false := Ev.step (fun k => by rw [cylinderref34_SameInt.j0]) (Ev.ifp rfl (Ev.val rfl))
  by_cases hab : a = b
  · subst hab
    by_cases hlen : l.length = m.length
    · have key : ∀ (n i : Nat), i + n = l.length → ∃ r : Bool, Ev (fun k => cylinderref34_SameInt.l0 k (l.length : Int) (i : Int) a l a m) r ∧ (r = true ↔ l.drop i = m.drop i) := by
        intro n
        induction n with
        | zero =>
          intro i hi
          refine ⟨true, Ev.step (fun k => by rw [cylinderref34_SameInt.l0]) (Ev.ifn (by omega) (Ev.val rfl)), ?_⟩
          rw [List.drop_of_length_le (by omega), List.drop_of_length_le (by omega)]; simp
        | succ n ih =>
          intro i hi
          have h1 : i < l.length := by omega
          have h2 : i < m.length := by omega
          obtain ⟨r, hr, hrr⟩ := ih (i + 1) (by omega)
          rw [List.drop_eq_getElem_cons h1, List.drop_eq_getElem_cons h2]
          by_cases he : l[i] = m[i]
          · refine ⟨r, Ev.step (fun k => by rw [cylinderref34_SameInt.l0]) (Ev.ifp (by omega) (Ev.ifp (by omega) (Ev.ifp (by omega) (Ev.ifp (by omega) (Ev.ifp (by rw [rd_at _ _ h1, rd_at _ _ h2]; exact he) (by rw [wrap_succ (by omega)]; exact hr)))))), ?_⟩
            rw [hrr, he]; simp only [List.cons.injEq, true_and]
          · refine ⟨false, Ev.step (fun k => by rw [cylinderref34_SameInt.l0]) (Ev.ifp (by omega) (Ev.ifp (by omega) (Ev.ifp (by omega) (Ev.ifp (by omega) (Ev.ifn (by rw [rd_at _ _ h1, rd_at _ _ h2]; exact he) (Ev.val rfl)))))), ?_⟩
            exact ⟨fun h => (by cases h), fun h => absurd (List.cons.inj h).1 he⟩
      obtain ⟨r, hr, hrr⟩ := key l.length 0 (by omega)
      refine ⟨r, Ev.congr (fun k => by rw [cylinderref34_SameInt.f]) (Ev.ifn (by simp) ?_), by simpa using hrr⟩
      have e : ((l.length : Int) != (m.length : Int)) = false := by simp [hlen]
      rw [e]
      exact Ev.step (fun k => by rw [cylinderref34_SameInt.j0]) (Ev.ifn (by simp) (by simpa using hr))
    · refine ⟨false, Ev.congr (fun k => by rw [cylinderref34_SameInt.f]) (Ev.ifn (by simp) ?_), by simp; exact fun h => hlen (by rw [h])⟩
      have e : ((l.length : Int) != (m.length : Int)) = true := by simp; omega
      rw [e]
      exact bad
  · exact ⟨false, Ev.congr (fun k => by rw [cylinderref34_SameInt.f]) (Ev.ifp (by simpa using hab) bad), by simp [hab]⟩

abbrev sameFx (k : Nat) (x y : S29) := cylinderref34_Same.f k x.f0 x.f1.f0 x.f1.f1 x.f2 x.f3 x.f4 x.f5 x.f6 x.f7 y.f0 y.f1.f0 y.f1.f1 y.f2 y.f3 y.f4 y.f5 y.f6 y.f7
theorem S29.ext' {x y : S29} (h0 : x.f0 = y.f0) (h1 : x.f1.f0 = y.f1.f0) (h1' : x.f1.f1 = y.f1.f1) (h2 : x.f2 = y.f2) (h3 : x.f3 = y.f3) (h4 : x.f4 = y.f4) (h5 : x.f5 = y.f5) (h6 : x.f6 = y.f6) (h7 : x.f7 = y.f7) : x = y := by
  obtain ⟨_, ⟨_, _⟩, _, _, _, _, _, _⟩ := x
  obtain ⟨_, ⟨_, _⟩, _, _, _, _, _, _⟩ := y
  simp only at h0 h1 h1' h2 h3 h4 h5 h6 h7
  subst h0 h1 h1' h2 h3 h4 h5 h6 h7
  rfl
theorem same_ev : ∀ (x : S29), SmallS x → sizeS x ≤ 1000000 → ∀ y : S29, ∃ r : Bool, Ev (fun k => sameFx k x y) r ∧ (r = true ↔ x = y) := by
  intro x
  induction x using S29.ind with
  | h x ih =>
  intro hsm hx y
  have hsz := sizeS_eq x
  have hll := len_sizeK x.f7
  obtain ⟨_, hw, hks⟩ := hsm
  have bad : Ev (fun k => cylinderref34_Same.j0 k true x.f0 x.f1.f0 x.f1.f1 x.f2 x.f3 x.f4 x.f5 x.f6 x.f7 y.f0 y.f1.f0 y.f1.f1 y.f2 y.f3 y.f4 y.f5 y.f6 y.f7) false := Ev.step (fun k => by rw [cylinderref34_Same.j0]) (Ev.ifp rfl (Ev.val rfl))
  have hstep : ∀ {f : Nat → Option Bool} {r : Bool}, (∀ k, cylinderref34_Same.f (k + 1) x.f0 x.f1.f0 x.f1.f1 x.f2 x.f3 x.f4 x.f5 x.f6 x.f7 y.f0 y.f1.f0 y.f1.f1 y.f2 y.f3 y.f4 y.f5 y.f6 y.f7 = f k) → Ev f r → Ev (fun k => sameFx k x y) r := fun h e => Ev.step h e
  by_cases h0 : x.f0 = y.f0
  rotate_left
  · exact ⟨false, hstep (fun k => by rw [cylinderref34_Same.f]) (Ev.ifn h0 bad), by simp; exact fun h => h0 (by rw [h])⟩
  by_cases h2 : x.f2 = y.f2
  rotate_left
  · exact ⟨false, hstep (fun k => by rw [cylinderref34_Same.f]) (Ev.ifp h0 (Ev.ifn (fun h => h2 (toList_inj.1 h)) bad)), by simp; exact fun h => h2 (by rw [h])⟩
  by_cases h3 : x.f3 = y.f3
  rotate_left
  · exact ⟨false, hstep (fun k => by rw [cylinderref34_Same.f]) (Ev.ifp h0 (Ev.ifp (toList_inj.2 h2) (Ev.ifn h3 bad))), by simp; exact fun h => h3 (by rw [h])⟩
  by_cases h4 : x.f4 = y.f4
  rotate_left
  · exact ⟨false, hstep (fun k => by rw [cylinderref34_Same.f]) (Ev.ifp h0 (Ev.ifp (toList_inj.2 h2) (Ev.ifp h3 (Ev.ifn h4 bad)))), by simp; exact fun h => h4 (by rw [h])⟩
  by_cases h5 : x.f5 = y.f5
  rotate_left
  · exact ⟨false, hstep (fun k => by rw [cylinderref34_Same.f]) (Ev.ifp h0 (Ev.ifp (toList_inj.2 h2) (Ev.ifp h3 (Ev.ifp h4 (Ev.ifp (by simpa using h5) bad))))), by simp; exact fun h => h5 (by rw [h])⟩
  by_cases h6 : x.f6 = y.f6
  rotate_left
  · exact ⟨false, hstep (fun k => by rw [cylinderref34_Same.f]) (Ev.ifp h0 (Ev.ifp (toList_inj.2 h2) (Ev.ifp h3 (Ev.ifp h4 (Ev.ifn (by simpa using h5) (Ev.ifp (by simpa using h6) bad)))))), by simp; exact fun h => h6 (by rw [h])⟩
  obtain ⟨q, hq, hqq⟩ := sameInt_ev x.f1.f0 y.f1.f0 x.f1.f1 y.f1.f1 (by omega)
  cases q with
  | false =>
    refine ⟨false, hstep (fun k => by rw [cylinderref34_Same.f]) (Ev.ifp h0 (Ev.ifp (toList_inj.2 h2) (Ev.ifp h3 (Ev.ifp h4 (Ev.ifn (by simpa using h5) (Ev.ifn (by simpa using h6) (Ev.bind hq (Ev.ifn Bool.false_ne_true bad)))))))), ?_⟩
    simp only [Bool.false_eq_true, false_iff]
    intro h
    have := hqq.2 (by rw [h]; exact ⟨rfl, rfl⟩)
    cases this
  | true =>
  obtain ⟨h1, h1'⟩ := hqq.1 rfl
  by_cases hlen : x.f7.length = y.f7.length
  · have key : ∀ (n i : Nat), i + n = x.f7.length → ∃ r : Bool, Ev (fun k => cylinderref34_Same.l0 k (x.f7.length : Int) (i : Int) x.f0 x.f1.f0 x.f1.f1 x.f2 x.f3 x.f4 x.f5 x.f6 x.f7 y.f0 y.f1.f0 y.f1.f1 y.f2 y.f3 y.f4 y.f5 y.f6 y.f7) r ∧ (r = true ↔ x.f7.drop i = y.f7.drop i) := by
      intro n
      induction n with
      | zero =>
        intro i hi
        refine ⟨true, Ev.step (fun k => by rw [cylinderref34_Same.l0]) (Ev.ifn (by omega) (Ev.val rfl)), ?_⟩
        rw [List.drop_of_length_le (by omega), List.drop_of_length_le (by omega)]; simp
      | succ n ihn =>
        intro i hi
        have g1 : i < x.f7.length := by omega
        have g2 : i < y.f7.length := by omega
        have hk := sizeS_kid (List.getElem_mem g1)
        obtain ⟨s, hs, hss⟩ := ih _ (List.getElem_mem g1) (hks _ (List.getElem_mem g1)) (by omega) y.f7[i]
        rw [List.drop_eq_getElem_cons g1, List.drop_eq_getElem_cons g2]
        have hd : ∀ {f : Bool → Nat → Option Bool} {r : Bool}, Ev (f s) r → Ev (fun k => (cylinderref34_Same.f k (rd_T29 x.f7 (i : Int)).f0 (rd_T29 x.f7 (i : Int)).f1.f0 (rd_T29 x.f7 (i : Int)).f1.f1 (rd_T29 x.f7 (i : Int)).f2 (rd_T29 x.f7 (i : Int)).f3 (rd_T29 x.f7 (i : Int)).f4 (rd_T29 x.f7 (i : Int)).f5 (rd_T29 x.f7 (i : Int)).f6 (rd_T29 x.f7 (i : Int)).f7 (rd_T29 y.f7 (i : Int)).f0 (rd_T29 y.f7 (i : Int)).f1.f0 (rd_T29 y.f7 (i : Int)).f1.f1 (rd_T29 y.f7 (i : Int)).f2 (rd_T29 y.f7 (i : Int)).f3 (rd_T29 y.f7 (i : Int)).f4 (rd_T29 y.f7 (i : Int)).f5 (rd_T29 y.f7 (i : Int)).f6 (rd_T29 y.f7 (i : Int)).f7).bind (fun t => f t k)) r := by
          intro f r e
          rw [rd29_at _ _ g1, rd29_at _ _ g2]
          exact Ev.bind (f := fun k t => f t k) hs e
        cases s with
        | false =>
          refine ⟨false, Ev.step (fun k => by rw [cylinderref34_Same.l0]) (Ev.ifp (by omega) (Ev.ifp (by omega) (Ev.ifp (by omega) (Ev.ifp (by omega) (hd (f := fun t k => if t = true then _ else some false) (Ev.ifn (by simp) (Ev.val rfl))))))), ?_⟩
          exact ⟨fun h => (by cases h), fun h => by have := hss.2 (List.cons.inj h).1; cases this⟩
        | true =>
          obtain ⟨r, hr, hrr⟩ := ihn (i + 1) (by omega)
          refine ⟨r, Ev.step (fun k => by rw [cylinderref34_Same.l0]) (Ev.ifp (by omega) (Ev.ifp (by omega) (Ev.ifp (by omega) (Ev.ifp (by omega) (hd (f := fun t k => if t = true then _ else some false) (Ev.ifp rfl (by rw [wrap_succ (by omega)]; exact hr))))))), ?_⟩
          rw [hrr, hss.1 rfl]; simp only [List.cons.injEq, true_and]
    obtain ⟨r, hr, hrr⟩ := key x.f7.length 0 (by omega)
    have e : ((x.f7.length : Int) != (y.f7.length : Int)) = false := by simp [hlen]
    refine ⟨r, hstep (fun k => by rw [cylinderref34_Same.f]) (Ev.ifp h0 (Ev.ifp (toList_inj.2 h2) (Ev.ifp h3 (Ev.ifp h4 (Ev.ifn (by simpa using h5) (Ev.ifn (by simpa using h6) (Ev.bind hq (Ev.ifp rfl ?_)))))))), ?_⟩
    · rw [e]
      exact Ev.step (fun k => by rw [cylinderref34_Same.j0]) (Ev.ifn (by simp) (by simpa using hr))
    · rw [hrr]
      simp only [List.drop_zero]
      exact ⟨fun h => S29.ext' h0 h1 h1' h2 h3 h4 h5 h6 h, fun h => by rw [h]⟩
  · have e : ((x.f7.length : Int) != (y.f7.length : Int)) = true := by simp; omega
    refine ⟨false, hstep (fun k => by rw [cylinderref34_Same.f]) (Ev.ifp h0 (Ev.ifp (toList_inj.2 h2) (Ev.ifp h3 (Ev.ifp h4 (Ev.ifn (by simpa using h5) (Ev.ifn (by simpa using h6) (Ev.bind hq (Ev.ifp rfl ?_)))))))), ?_⟩
    · rw [e]; exact bad
    exact ⟨fun h => (by cases h), fun h => absurd (by rw [h]) hlen⟩
end Go.Proofs.Ytddpojinlapmfaa.PRef
