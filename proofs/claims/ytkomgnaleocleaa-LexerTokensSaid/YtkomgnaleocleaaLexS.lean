/- The reference of layer 35 cuts every text as lexer.Lex does. -/
import Derived.Test.YtkomgnaleocleaaLexR
import Derived.Test.YtkomgnaleocleaaPAllx4
namespace Go.Proofs.Ytkomgnaleocleaa.PAll
open Go.RowKit Go.Proofs.YtkomgnaleocleaaW.PrintWords Go.Proofs.YtkomgnaleocleaaW.PrintLast Go.Proofs.YtkomgnaleocleaaW.PrintMore

/-! ### Beginnings of a text: which are tokens -/
theorem all_take_run (p : UInt8 → Bool) : ∀ (l : List UInt8) (n : Nat), n ≤ l.length → ((l.take n).all p = decide (n ≤ runL p l))
  | _, 0, _ => by simp
  | [], n + 1, h => by simp at h
  | c :: cs, n + 1, h => by
    simp only [List.take_succ_cons, List.all_cons]
    rw [all_take_run p cs n (by simpa using h)]
    by_cases hc : p c = true
    · have e : runL p (c :: cs) = runL p cs + 1 := by simp only [runL]; rw [if_pos hc]
      rw [hc, e, Bool.true_and]; exact decide_eq_decide.2 (by omega)
    · have e : runL p (c :: cs) = 0 := by simp only [runL]; rw [if_neg hc]
      rw [Bool.not_eq_true] at hc
      rw [hc, e, Bool.false_and]; exact (decide_eq_false (by omega)).symm
theorem sig_len {l : List UInt8} (h : l ∈ sigs) : l.length ≤ 2 := by
  simp only [sigs, List.mem_cons, List.not_mem_nil, or_false] at h
  rcases h with h | h | h | h | h | h | h | h | h | h | h | h | h | h <;> subst h <;> decide
theorem sig_head {c : UInt8} {cs : List UInt8} (h : c :: cs ∈ sigs) : digB c = false ∧ letterI c.toNat = false ∧ c ∈ ([43, 45, 42, 94, 40, 41, 61, 60, 62, 44, 46] : List UInt8) := by
  simp only [sigs, List.mem_cons, List.not_mem_nil, or_false, List.cons.injEq] at h
  rcases h with h | h | h | h | h | h | h | h | h | h | h | h | h | h <;> obtain ⟨rfl, _⟩ := h <;> exact ⟨by decide, by decide, by decide⟩
theorem sig_one {c : UInt8} : [c] ∈ sigs ↔ c ∈ ([43, 45, 42, 94, 40, 41, 61, 60, 62, 44, 46] : List UInt8) := by
  simp only [sigs, List.mem_cons, List.not_mem_nil, or_false, List.cons.injEq, and_true]
  constructor
  · rintro (h | h | h | h | h | h | h | h | h | h | h | h | h | h) <;> simp_all
  · rintro (h | h | h | h | h | h | h | h | h | h | h) <;> simp [h]
theorem sig_two {c d : UInt8} : [c, d] ∈ sigs ↔ ([c, d] = [60, 62] ∨ [c, d] = [60, 61] ∨ [c, d] = [62, 61]) := by
  simp only [sigs, List.mem_cons, List.not_mem_nil, or_false, List.cons.injEq, and_true, reduceCtorEq, and_false, false_or]
  
/-- How long the longest token is with which a text begins; 0 for none. -/
def lonL : List UInt8 → Nat
  | [] => 0
  | c :: cs =>
    if digB c = true then runL digB (c :: cs) else if letterI c.toNat = true then runL alnB (c :: cs)
    else if (c :: cs).take 2 = [60, 62] ∨ (c :: cs).take 2 = [60, 61] ∨ (c :: cs).take 2 = [62, 61] then 2
    else if c ∈ ([43, 45, 42, 94, 40, 41, 61, 60, 62, 44, 46] : List UInt8) then 1 else 0
theorem digit_letter {c : UInt8} (h : digB c = true) : letterI c.toNat = false := by
  unfold digB digI at h
  unfold letterI
  simp only [Bool.and_eq_true, decide_eq_true_eq] at h
  simp only [Bool.or_eq_false_iff, Bool.and_eq_false_iff, decide_eq_false_iff_not, beq_eq_false_iff_ne]
  omega
theorem digit_aln {c : UInt8} (h : digB c = true) : alnB c = true := by
  unfold digB at h; unfold alnB; rw [h, Bool.or_true]

/-- Which beginnings are tokens, of one kind or another. -/
theorem kind_take {c : UInt8} {cs : List UInt8} {n : Nat} (h1 : 1 ≤ n) (hn : n ≤ (c :: cs).length) : kindL ((c :: cs).take n) =
    if digB c = true then (if n ≤ runL digB (c :: cs) then 1 else 0)
    else if letterI c.toNat = true then (if n ≤ runL alnB (c :: cs) then (if wordL ((c :: cs).take n) = true then 3 else 2) else 0)
    else if (c :: cs).take n ∈ sigs then 4 else 0 := by
  obtain ⟨m, rfl⟩ : ∃ m, n = m + 1 := ⟨n - 1, by omega⟩
  have hd := all_take_run digB (c :: cs) (m + 1) hn
  have ha := all_take_run alnB (c :: cs) (m + 1) hn
  have hnum : numL ((c :: cs).take (m + 1)) = decide (m + 1 ≤ runL digB (c :: cs)) := by
    unfold numL; rw [hd]; simp
  have hnam : namL ((c :: cs).take (m + 1)) = (letterI c.toNat && decide (m + 1 ≤ runL alnB (c :: cs))) := by
    rw [← ha]
    simp only [List.take_succ_cons, namL, List.all_cons]
    by_cases h : letterI c.toNat = true
    · rw [show alnB c = true by unfold alnB; rw [h]; rfl, Bool.true_and]
    · rw [Bool.not_eq_true] at h; rw [h]; rfl
  unfold kindL
  rw [hnum, hnam]
  by_cases hc : digB c = true
  · rw [if_pos hc]
    by_cases hr : m + 1 ≤ runL digB (c :: cs)
    · rw [if_pos (decide_eq_true hr), if_pos hr]
    · rw [if_neg (by rw [decide_eq_false hr]; simp), if_neg (by rw [digit_letter hc]; simp), if_neg hr]
      refine if_neg (fun hs => ?_)
      rw [List.take_succ_cons] at hs
      rw [(sig_head hs).1] at hc; cases hc
  · have hr : ¬ m + 1 ≤ runL digB (c :: cs) := by
      simp only [runL]; rw [if_neg hc]; omega
    rw [if_neg hc, if_neg (by rw [decide_eq_false hr]; simp)]
    by_cases hl : letterI c.toNat = true
    · rw [if_pos hl, hl, Bool.true_and]
      by_cases hr2 : m + 1 ≤ runL alnB (c :: cs)
      · rw [if_pos (decide_eq_true hr2), if_pos hr2]
      · rw [if_neg (by rw [decide_eq_false hr2]; simp), if_neg hr2]
        refine if_neg (fun hs => ?_)
        rw [List.take_succ_cons] at hs
        rw [(sig_head hs).2.1] at hl; cases hl
    · rw [if_neg hl, if_neg (by rw [Bool.not_eq_true] at hl; rw [hl]; simp)]

theorem kind_pos {c : UInt8} {cs : List UInt8} {n : Nat} (h1 : 1 ≤ n) (hn : n ≤ (c :: cs).length) : (kindL ((c :: cs).take n) ≠ 0 ↔ n ≤ lonL (c :: cs)) := by
  rw [kind_take h1 hn]
  simp only [lonL]
  by_cases hc : digB c = true
  · rw [if_pos hc, if_pos hc]
    by_cases hr : n ≤ runL digB (c :: cs)
    · rw [if_pos hr]; simp [hr]
    · rw [if_neg hr]; simp [hr]
  · rw [if_neg hc, if_neg hc]
    by_cases hl : letterI c.toNat = true
    · rw [if_pos hl, if_pos hl]
      by_cases hr : n ≤ runL alnB (c :: cs)
      · rw [if_pos hr]
        have : (if wordL ((c :: cs).take n) = true then (3 : Int) else 2) ≠ 0 := by split <;> decide
        simp [hr, this]
      · rw [if_neg hr]; simp [hr]
    · rw [if_neg hl, if_neg hl]
      have hs : ∀ k, (if (c :: cs).take k ∈ sigs then (4 : Int) else 0) ≠ 0 ↔ (c :: cs).take k ∈ sigs := fun k => by
        by_cases h : (c :: cs).take k ∈ sigs <;> simp [h]
      rw [hs]
      rcases (show n = 1 ∨ n = 2 ∨ 2 < n by omega) with rfl | rfl | h2
      · rw [show (c :: cs).take 1 = [c] by simp, sig_one]
        by_cases h3 : (c :: cs).take 2 = [60, 62] ∨ (c :: cs).take 2 = [60, 61] ∨ (c :: cs).take 2 = [62, 61]
        · rw [if_pos h3]
          have hcc : c = 60 ∨ c = 62 := by
            rcases h3 with h3 | h3 | h3 <;> (cases cs <;> simp at h3) <;> simp [h3.1]
          rcases hcc with rfl | rfl <;> simp
        · rw [if_neg h3]
          by_cases h4 : c ∈ ([43, 45, 42, 94, 40, 41, 61, 60, 62, 44, 46] : List UInt8)
          · rw [if_pos h4]; simp [h4]
          · rw [if_neg h4]; simp only [h4, false_iff]; omega
      · cases cs with
        | nil => simp at hn
        | cons d ds =>
          rw [show (c :: d :: ds).take 2 = [c, d] by simp, sig_two]
          by_cases h3 : [c, d] = [60, 62] ∨ [c, d] = [60, 61] ∨ [c, d] = [62, 61]
          · rw [if_pos h3]; simp only [h3, true_iff]; omega
          · rw [if_neg h3]
            simp only [h3, false_iff]
            split <;> omega
      · have : ¬ (c :: cs).take n ∈ sigs := fun h => by
          have := sig_len h
          rw [List.length_take] at this
          omega
        simp only [this, false_iff]
        split
        · omega
        · split <;> omega
theorem lon_le (l : List UInt8) : lonL l ≤ l.length := by
  cases l with
  | nil => simp [lonL]
  | cons c cs =>
    simp only [lonL]
    split
    · exact runL_le _ _
    · split
      · exact runL_le _ _
      · split
        · rename_i h
          have : ((c :: cs).take 2).length = 2 := by rcases h with h | h | h <;> rw [h] <;> rfl
          rw [List.length_take] at this; omega
        · split <;> simp

theorem longest_loop (s : ByteArray) (hs : s.size ≤ 5000) (h0 : 0 < s.size) : ∀ (d i : Nat), i + d = s.size + 1 → 1 ≤ i →
    (i ≤ lonL s.toList + 2 ∨ lonL s.toList = 0) → Ev (fun k => cylinderref35_longest.l0 k s ((min (i - 1) (lonL s.toList) : Nat) : Int) (i : Int)) ((lonL s.toList : Nat) : Int) := by
  have hz := len_list s
  obtain ⟨c, cs, hl⟩ : ∃ c cs, s.toList = c :: cs := by
    cases hl : s.toList with
    | nil => rw [hl] at hz; simp at hz; omega
    | cons c cs => exact ⟨c, cs, rfl⟩
  have hle := lon_le s.toList
  intro d
  induction d with
  | zero =>
    intro i hi h1 _
    refine Ev.step (fun k => by rw [cylinderref35_longest.l0]) ?_
    exact Ev.ifn (by omega) (Ev.val (by omega))
  | succ d ih =>
    intro i hi h1 h2
    refine Ev.step (fun k => by rw [cylinderref35_longest.l0]) ?_
    refine Ev.ifp (by omega) (Ev.ifp (by omega) ?_)
    rw [Int.toNat_natCast]
    have hk := kind_ev (s.extract 0 i) (by rw [← len_list, take_ext, List.length_take, len_list]; omega)
    rw [take_ext] at hk
    refine Ev.bv hk ?_
    have hp : kindL (s.toList.take i) ≠ 0 ↔ i ≤ lonL s.toList := by
      rw [hl]; exact kind_pos h1 (by rw [← hl]; omega)
    have hw : wrap64 ((i : Int) + 1) = ((i + 1 : Nat) : Int) := by rw [wrap_ok (by omega) (by omega)]; omega
    by_cases hi2 : i ≤ lonL s.toList
    · refine Ev.ifn (hp.2 hi2) (Ev.ifp (by omega) ?_)
      rw [hw]
      refine Ev.ifn (by omega) ?_
      have := ih (i + 1) (by omega) (by omega) (by omega)
      rw [show ((min (i + 1 - 1) (lonL s.toList) : Nat) : Int) = (i : Int) by omega] at this
      exact this
    · have hk0 : kindL (s.toList.take i) = 0 := by
        by_cases h : kindL (s.toList.take i) = 0
        · exact h
        · exact absurd (hp.1 h) hi2
      refine Ev.ifp hk0 ?_
      have hm : (min (i - 1) (lonL s.toList) : Nat) = lonL s.toList := by omega
      rw [hm, hw, wrap_ok (x := ((lonL s.toList : Nat) : Int) + 1) (by omega) (by omega)]
      by_cases hL : lonL s.toList = 0
      · refine Ev.ifn (by omega) ?_
        have := ih (i + 1) (by omega) (by omega) (.inr hL)
        rw [show (min (i + 1 - 1) (lonL s.toList) : Nat) = lonL s.toList by omega] at this
        exact this
      · refine Ev.ifp (by omega) ?_
        by_cases h3 : i = lonL s.toList + 2
        · exact Ev.ifp (by omega) (Ev.val rfl)
        · refine Ev.ifn (by omega) ?_
          have := ih (i + 1) (by omega) (by omega) (.inl (by omega))
          rw [show (min (i + 1 - 1) (lonL s.toList) : Nat) = lonL s.toList by omega] at this
          exact this
theorem longest_ev (s : ByteArray) (hs : s.size ≤ 5000) (h0 : 0 < s.size) : Ev (fun k => cylinderref35_longest.f k s) ((lonL s.toList : Nat) : Int) := by
  have := longest_loop s hs h0 s.size 1 (by omega) (Nat.le_refl _) (.inl (by omega))
  rw [show ((min (1 - 1) (lonL s.toList) : Nat) : Int) = 0 by omega] at this
  exact this

/-! ### wrong -/
def wroL (l : List UInt8) : Int :=
  if kindL l = 1 ∧ 1 < l.length ∧ l.head? = some 48 then 6 else if (kindL l = 1 ∧ 40 < l.length) ∨ ((kindL l = 2 ∨ kindL l = 3) ∧ 16 < l.length) then 8 else 0
theorem wrong_j (s : ByteArray) (K : Int) (hK : kindL s.toList = K) (b : Bool) (hb : b = true ↔ (K = 1 ∧ 1 < s.size ∧ s.toList.head? = some 48)) : Ev (fun k => cylinderref35_wrong.j0 k s K b) (wroL s.toList) := by
  have hz := len_list s
  refine Ev.step (fun k => by rw [cylinderref35_wrong.j0]) ?_
  unfold wroL
  rw [hK, hz]
  by_cases h : b = true
  · exact Ev.ifp h (Ev.val (if_pos (hb.1 h)).symm)
  · refine Ev.to (if_neg (fun g => h (hb.2 g))) (Ev.ifn h ?_)
    by_cases k1 : K = 1
    · refine Ev.ifp k1 ?_
      by_cases h4 : 40 < s.size
      · exact Ev.ifp (by omega) (Ev.val (if_pos (.inl ⟨k1, h4⟩)).symm)
      · exact Ev.ifn (by omega) (Ev.ifn (by omega) (Ev.ifn (by omega) (Ev.val (if_neg (by omega)).symm)))
    · refine Ev.ifn k1 ?_
      by_cases k2 : K = 2
      · refine Ev.ifp k2 ?_
        by_cases h4 : 16 < s.size
        · exact Ev.ifp (by omega) (Ev.val (if_pos (.inr ⟨.inl k2, h4⟩)).symm)
        · exact Ev.ifn (by omega) (Ev.val (if_neg (by omega)).symm)
      · refine Ev.ifn k2 ?_
        by_cases k3 : K = 3
        · refine Ev.ifp k3 ?_
          by_cases h4 : 16 < s.size
          · exact Ev.ifp (by omega) (Ev.val (if_pos (.inr ⟨.inr k3, h4⟩)).symm)
          · exact Ev.ifn (by omega) (Ev.val (if_neg (by omega)).symm)
        · exact Ev.ifn k3 (Ev.val (if_neg (by omega)).symm)
theorem wrong_ev (s : ByteArray) (hs : s.size ≤ 5000) : Ev (fun k => cylinderref35_wrong.f k s) (wroL s.toList) := by
  have hz := len_list s
  unfold cylinderref35_wrong.f
  refine Ev.bv (kind_ev s hs) ?_
  by_cases k1 : kindL s.toList = 1
  · refine Ev.ifp k1 ?_
    by_cases h1 : 1 < s.size
    · refine Ev.ifp (by omega) (Ev.ifp (by omega) ?_)
      have hb := bt_list s (show 0 < s.size by omega)
      rw [show ((0 : Nat) : Int) = 0 from rfl] at hb
      rw [hb]
      refine wrong_j s _ rfl _ ?_
      obtain ⟨c, cs, hl⟩ : ∃ c cs, s.toList = c :: cs := by
        cases hl : s.toList with
        | nil => rw [hl] at hz; simp at hz; omega
        | cons c cs => exact ⟨c, cs, rfl⟩
      have e0 : ∀ h, s.toList[0]'h = c := fun h => by simp [hl]
      rw [e0]
      have hh : s.toList.head? = some c := by rw [hl]; rfl
      rw [hh, beq_iff_eq]
      constructor
      · intro h
        exact ⟨k1, h1, by rw [eq48 h]⟩
      · rintro ⟨_, _, h⟩
        rw [Option.some.inj h]; rfl
    · exact Ev.ifn (by omega) (wrong_j s _ rfl _ (by simp; omega))
  · exact Ev.ifn k1 (wrong_j s _ rfl _ (by simp [k1]))

/-! ### nxt by the reference's words -/
theorem nxt_ref {c : UInt8} {cs : List UInt8} : (lonL (c :: cs) = 0 → nxt (c :: cs) = (0, 0, 6)) ∧ (lonL (c :: cs) ≠ 0 → wroL ((c :: cs).take (lonL (c :: cs))) ≠ 0 → (nxt (c :: cs)).2.2 = wroL ((c :: cs).take (lonL (c :: cs)))) ∧
    (lonL (c :: cs) ≠ 0 → wroL ((c :: cs).take (lonL (c :: cs))) = 0 → nxt (c :: cs) = (kindL ((c :: cs).take (lonL (c :: cs))), lonL (c :: cs), 0)) := by
  have hle := lon_le (c :: cs)
  by_cases h0 : lonL (c :: cs) = 0
  · refine ⟨fun _ => ?_, fun h => absurd h0 h, fun h => absurd h0 h⟩
    simp only [lonL] at h0
    simp only [nxt]
    by_cases hc : digB c = true
    · rw [if_pos hc] at h0
      have := runL_pos (p := digB) (cs := cs) hc; omega
    · rw [if_neg hc] at h0 ⊢
      by_cases hl : letterI c.toNat = true
      · rw [if_pos hl] at h0
        have := runL_pos (p := alnB) (cs := cs) (c := c) (by unfold alnB; rw [hl]; rfl); omega
      · rw [if_neg hl] at h0 ⊢
        split at h0
        · cases h0
        · rename_i h3
          rw [if_neg h3]
          split at h0
          · cases h0
          · rename_i h4; rw [if_neg h4]
  · refine ⟨fun h => absurd h h0, ?_⟩
    have hk := kind_take (c := c) (cs := cs) (n := lonL (c :: cs)) (by omega) hle
    have hlen : ((c :: cs).take (lonL (c :: cs))).length = lonL (c :: cs) := by rw [List.length_take]; omega
    have hhd : ((c :: cs).take (lonL (c :: cs))).head? = some c := by
      obtain ⟨m, hm⟩ : ∃ m, lonL (c :: cs) = m + 1 := ⟨lonL (c :: cs) - 1, by omega⟩
      rw [hm]; rfl
    generalize hw : wroL ((c :: cs).take (lonL (c :: cs))) = w
    unfold wroL at hw
    rw [hlen, hhd, hk] at hw
    rw [hk]
    generalize hL : lonL (c :: cs) = L at *
    simp only [lonL] at hL
    simp only [nxt]
    by_cases hc : digB c = true
    · rw [if_pos hc] at hL hw ⊢
      rw [if_pos (show L ≤ runL digB (c :: cs) by omega)] at hw ⊢
      rw [if_pos hc, hL]
      by_cases h48 : c = 48 ∧ 1 < L
      · rw [if_pos ⟨rfl, h48.2, by rw [h48.1]⟩] at hw
        rw [if_pos h48]
        subst hw
        exact ⟨fun _ _ => rfl, fun _ h => by simp at h⟩
      · rw [if_neg (fun g => h48 ⟨by simpa using g.2.2, g.2.1⟩)] at hw
        rw [if_neg h48]
        by_cases h40 : 40 < L
        · rw [if_pos (.inl ⟨rfl, h40⟩)] at hw
          rw [if_pos h40]
          subst hw
          exact ⟨fun _ _ => rfl, fun _ h => by simp at h⟩
        · rw [if_neg (by omega)] at hw
          rw [if_neg h40]
          subst hw
          exact ⟨fun _ h => absurd rfl h, fun _ _ => rfl⟩
    · rw [if_neg hc] at hL hw ⊢
      rw [if_neg hc]
      by_cases hl : letterI c.toNat = true
      · rw [if_pos hl] at hL hw ⊢
        rw [if_pos (show L ≤ runL alnB (c :: cs) by omega)] at hw ⊢
        rw [if_pos hl, hL]
        have h123 : (if wordL ((c :: cs).take L) = true then (3 : Int) else 2) = 2 ∨ (if wordL ((c :: cs).take L) = true then (3 : Int) else 2) = 3 := by split <;> simp
        have hne1 : (if wordL ((c :: cs).take L) = true then (3 : Int) else 2) ≠ 1 := by split <;> decide
        rw [if_neg (fun g => hne1 g.1)] at hw
        by_cases h16 : 16 < L
        · rw [if_pos (.inr ⟨h123, h16⟩)] at hw
          rw [if_pos h16]
          subst hw
          exact ⟨fun _ _ => rfl, fun _ h => by simp at h⟩
        · rw [if_neg (fun g => by rcases g with g | g; exact hne1 g.1; exact h16 g.2)] at hw
          rw [if_neg h16]
          subst hw
          refine ⟨fun _ h => absurd rfl h, fun _ _ => ?_⟩
          split <;> rfl
      · rw [if_neg hl] at hL hw ⊢
        rw [if_neg hl]
        have hne : ∀ x : Int, x = (if (c :: cs).take L ∈ sigs then (4 : Int) else 0) → x ≠ 1 ∧ x ≠ 2 ∧ x ≠ 3 := fun x hx => by subst hx; split <;> decide
        obtain ⟨n1, n2, n3⟩ := hne _ rfl
        rw [if_neg (fun g => n1 g.1), if_neg (fun g => by rcases g with g | ⟨g | g, _⟩; exact n1 g.1; exact n2 g; exact n3 g)] at hw
        subst hw
        refine ⟨fun _ h => absurd rfl h, fun _ _ => ?_⟩
        by_cases h3 : (c :: cs).take 2 = [60, 62] ∨ (c :: cs).take 2 = [60, 61] ∨ (c :: cs).take 2 = [62, 61]
        · rw [if_pos h3] at hL ⊢
          subst hL
          rw [if_pos (by rcases h3 with h | h | h <;> rw [h] <;> decide)]
        · rw [if_neg h3] at hL ⊢
          by_cases h4 : c ∈ ([43, 45, 42, 94, 40, 41, 61, 60, 62, 44, 46] : List UInt8)
          · rw [if_pos h4] at hL ⊢
            subst hL
            rw [if_pos (show (c :: cs).take 1 ∈ sigs by rw [show (c :: cs).take 1 = [c] by simp]; exact sig_one.2 h4)]
          · rw [if_neg h4] at hL; omega

/-! ### Before, Lex -/
theorem before_loop (s : ByteArray) (hs : s.size ≤ 4000) : ∀ (d i : Nat) (acc : List S30), s.size - i ≤ d → i ≤ s.size → acc.length ≤ i →
    Ev (fun k => cylinderref35_Before.l0 k s acc (i : Int)) (acc ++ (sc (s.toList.drop i) i).1, (sc (s.toList.drop i) i).2) := by
  have hz := len_list s
  have hend : ∀ (i : Nat) (acc : List S30), i = s.size → Ev (fun k => cylinderref35_Before.l0 k s acc (i : Int)) (acc ++ (sc (s.toList.drop i) i).1, (sc (s.toList.drop i) i).2) := by
    intro i acc hi
    refine Ev.step (fun k => by rw [cylinderref35_Before.l0]) ?_
    rw [List.drop_of_length_le (by omega), sc_nil, List.append_nil]
    exact Ev.ifn (by omega) (Ev.val rfl)
  intro d
  induction d with
  | zero => intro i acc h1 h2 _; exact hend i acc (by omega)
  | succ d ih =>
    intro i acc h1 h2 h3
    by_cases hi : i = s.size
    · exact hend i acc hi
    · have hlt : i < s.toList.length := by omega
      have hd : s.toList.drop i = s.toList[i] :: s.toList.drop (i + 1) := List.drop_eq_getElem_cons hlt
      refine Ev.step (fun k => by rw [cylinderref35_Before.l0]) ?_
      refine Ev.ifp (by omega) (Ev.ifp (by omega) ?_)
      rw [bt_list s (by omega)]
      refine Ev.bc (blank_f _) ?_
      by_cases hb : blankB s.toList[i] = true
      · refine Ev.ifp hb ?_
        rw [wrap_ok (by omega) (by omega), hd, sc_blank hb]
        exact ih (i + 1) acc (by omega) (by omega) (by omega)
      · refine Ev.ifn hb (Ev.ifp (by omega) ?_)
        rw [Bool.not_eq_true] at hb
        rw [Int.toNat_natCast]
        have hel : (s.extract i s.size).toList = s.toList.drop i := nxt_err0 (by omega)
        have hes : (s.extract i s.size).size = s.size - i := by rw [← len_list, hel, List.length_drop, hz]
        have hlo := longest_ev (s.extract i s.size) (by omega) (by omega)
        rw [hel] at hlo
        refine Ev.bv hlo ?_
        obtain ⟨n1, n2, n3⟩ := nxt_ref (c := s.toList[i]) (cs := s.toList.drop (i + 1))
        have hle := lon_le (s.toList.drop i)
        rw [List.length_drop, hz] at hle
        rw [← hd] at n1 n2 n3
        by_cases h0 : lonL (s.toList.drop i) = 0
        · have e : sc (s.toList.drop i) i = ([], (i : Int), 6) := by
            have := n1 h0
            rw [hd] at this ⊢
            rw [sc_err hb (by rw [this]; simp), this]
          rw [e, List.append_nil]
          exact Ev.ifp (by omega) (Ev.val rfl)
        · have hwr : wrap64 ((i : Int) + ((lonL (s.toList.drop i) : Nat) : Int)) = ((i + lonL (s.toList.drop i) : Nat) : Int) := by rw [wrap_ok (by omega) (by omega)]; omega
          rw [hwr, Int.toNat_natCast]
          refine Ev.ifn (by omega) (Ev.ifp (by omega) (Ev.ifp (by omega) ?_))
          have hml : (s.extract i (i + lonL (s.toList.drop i))).toList = (s.toList.drop i).take (lonL (s.toList.drop i)) := by
            rw [mid_list, List.drop_take, show i + lonL (s.toList.drop i) - i = lonL (s.toList.drop i) by omega]
          have hms : (s.extract i (i + lonL (s.toList.drop i))).size ≤ 5000 := by
            rw [← len_list, hml, List.length_take, List.length_drop]; omega
          have hwe := wrong_ev _ hms
          rw [hml] at hwe
          refine Ev.bv hwe ?_
          by_cases hw : wroL ((s.toList.drop i).take (lonL (s.toList.drop i))) = 0
          · have hn := n3 h0 hw
            have hke := kind_ev _ hms
            rw [hml] at hke
            refine Ev.ifp hw (Ev.bv hke (Ev.ifp (by omega) ?_))
            have htx : s.extract i (i + lonL (s.toList.drop i)) = ⟨((s.toList.drop i).take (lonL (s.toList.drop i))).toArray⟩ := by
              apply ByteArray.ext
              apply Array.toList_inj.1
              rw [ByteArray.toList_eq] at hml
              rw [hml]
            rw [htx]
            have e : sc (s.toList.drop i) i = (⟨kindL ((s.toList.drop i).take (lonL (s.toList.drop i))), ⟨((s.toList.drop i).take (lonL (s.toList.drop i))).toArray⟩, (i : Int)⟩ :: (sc (s.toList.drop (i + lonL (s.toList.drop i))) (i + lonL (s.toList.drop i))).1, (sc (s.toList.drop (i + lonL (s.toList.drop i))) (i + lonL (s.toList.drop i))).2) := by
              have h := sc_tok (c := s.toList[i]) (cs := s.toList.drop (i + 1)) (a := i) hb (by rw [← hd, hn])
              rw [← hd, hn, List.drop_drop] at h
              exact h
            have := ih (i + lonL (s.toList.drop i)) (acc ++ [⟨kindL ((s.toList.drop i).take (lonL (s.toList.drop i))), ⟨((s.toList.drop i).take (lonL (s.toList.drop i))).toArray⟩, (i : Int)⟩]) (by omega) (by omega) (by rw [List.length_append, List.length_singleton]; omega)
            refine Ev.to ?_ this
            rw [e, List.append_assoc]; rfl
          · have hn := n2 h0 hw
            refine Ev.ifn hw (Ev.val ?_)
            have e : sc (s.toList.drop i) i = ([], (i : Int), wroL ((s.toList.drop i).take (lonL (s.toList.drop i)))) := by
              have h := sc_err (c := s.toList[i]) (cs := s.toList.drop (i + 1)) (a := i) hb (by rw [← hd, hn]; exact hw)
              rw [← hd, hn] at h
              exact h
            rw [e, List.append_nil]
theorem before_ev (s : ByteArray) (hs : s.size ≤ 4000) : Ev (fun k => cylinderref35_Before.f k s) (sc s.toList 0) := by
  have := before_loop s hs s.size 0 [] (by omega) (by omega) (by simp)
  rw [List.drop_zero] at this
  exact this
theorem refLex_ev (s : ByteArray) : Ev (fun k => cylinderref35_Lex.f k s) (lexOf s) := by
  unfold cylinderref35_Lex.f lexOf
  by_cases hs : s.size ≤ 4000
  · refine Ev.ifn (by omega) (Ev.to (if_neg (by omega)) (Ev.bv (before_ev s hs) ?_))
    by_cases h0 : (sc s.toList 0).2.2 = 0
    · refine Ev.ifp h0 (Ev.val ?_)
      rw [if_pos h0, h0, (sc_shift _ s.toList 0 0 (Nat.le_refl _)).2.2.2 h0]
    · exact Ev.ifn h0 (Ev.val (if_neg h0).symm)
  · exact Ev.ifp (by omega) (Ev.val (if_pos (by omega)).symm)

/-! ### Same -/
theorem same_loop (xs : List S30) (at_ : Bool) (hx : xs.length ≤ 5000) : ∀ (d i : Nat), i + d = xs.length → Ev (fun k => cylinderref35_Same.l0 k xs xs at_ ((xs.length : Nat) : Int) (i : Int)) true := by
  intro d
  induction d with
  | zero =>
    intro i hi
    refine Ev.step (fun k => by rw [cylinderref35_Same.l0]) ?_
    exact Ev.ifn (by omega) (Ev.val rfl)
  | succ d ih =>
    intro i hi
    have hn := ih (i + 1) (by omega)
    rw [show ((i + 1 : Nat) : Int) = (i : Int) + 1 by omega] at hn
    refine Ev.step (fun k => by rw [cylinderref35_Same.l0]) ?_
    rw [wrap_ok (by omega) (by omega)]
    refine Ev.ifp (by omega) (Ev.ifp (by omega) (Ev.ifp (by omega) (Ev.ifp (by omega) (Ev.ifp rfl (Ev.ifp rfl ?_)))))
    by_cases ha : at_ = true
    · exact Ev.ifp ha (Ev.ifp rfl hn)
    · exact Ev.ifn ha hn
theorem same_ev (xs : List S30) (at_ : Bool) (hx : xs.length ≤ 5000) : Ev (fun k => cylinderref35_Same.f k xs xs at_) true := by
  unfold cylinderref35_Same.f
  exact Ev.ifp rfl (same_loop xs at_ hx xs.length 0 (Nat.zero_add _))
theorem lexOf_len (s : ByteArray) : (lexOf s).1.length ≤ 4000 := by
  unfold lexOf
  have := sc_len' s
  split
  · simp
  · split
    · simp only; omega
    · simp
end Go.Proofs.Ytkomgnaleocleaa.PAll
