/- LexerNames: a text is one token of the kind Name exactly if it is a valid name, and one of the kind Word exactly if IsWord says so. -/
import Derived.Test.YtkomgnaleocleaaLexR
import Derived.Test.YtkomgnaleocleaaPAllx9
namespace Go.Proofs.Ytkomgnaleocleaa.Pure
open Go.RowKit Go.Proofs.Ytkomgnaleocleaa.PAll Go.Proofs.YtkomgnaleocleaaW.PrintWords Go.Proofs.YtkomgnaleocleaaW.PrintLast

def validL (l : List UInt8) : Bool := decide (1 ≤ l.length) && decide (l.length ≤ 16) && namL l && !wordL l

theorem isWord_f (s : ByteArray) : lexer_IsWord.f s = some (wordL s.toList) := by
  unfold lexer_IsWord.f
  cases H : wordL s.toList with
  | true =>
    simp only [wordL, Bool.or_eq_true, beq_iff_eq] at H
    rcases H with (((((((h | h) | h) | h) | h) | h) | h) | h) | h <;> simp [h]
  | false =>
    simp only [wordL, Bool.or_eq_false_iff, beq_eq_false_iff_ne] at H
    obtain ⟨⟨⟨⟨⟨⟨⟨⟨h1, h2⟩, h3⟩, h4⟩, h5⟩, h6⟩, h7⟩, h8⟩, h9⟩ := H
    simp only [h1, h2, h3, h4, h5, h6, h7, h8, h9, if_false]

theorem formlet (c : UInt8) : formula_letter.f (c.toNat : Int) = some (letterI (c.toNat : Int)) := by
  unfold formula_letter.f letterI
  generalize (c.toNat : Int) = x
  by_cases h1 : x ≥ 97 <;> by_cases h2 : x ≤ 122 <;> by_cases h3 : x ≥ 65 <;> by_cases h4 : x ≤ 90 <;> simp [h1, h2, h3, h4] <;> omega

theorem valid_loop (s : ByteArray) (hs : s.size ≤ 5000) : ∀ (d i : Nat), i + d = s.size → Ev (fun k => formula_Valid.l0 k s ((s.size : Nat) : Int) (i : Int)) ((s.toList.drop i).all alnB && !wordL s.toList) := by
  intro d
  induction d with
  | zero =>
    intro i hi
    refine Ev.step (fun k => by rw [formula_Valid.l0]) ?_
    rw [List.drop_of_length_le (by rw [len_list]; omega), List.all_nil, Bool.true_and]
    refine Ev.ifn (by omega) ?_
    cases H : wordL s.toList with
    | true =>
      simp only [wordL, Bool.or_eq_true, beq_iff_eq] at H
      have g : ∀ o : Option Bool, o = some false → Ev (fun _ => o) (!true) := fun o ho => by rw [ho]; exact Ev.now _
      refine g _ ?_
      rcases H with (((((((h | h) | h) | h) | h) | h) | h) | h) | h <;> simp [h]
    | false =>
      simp only [wordL, Bool.or_eq_false_iff, beq_eq_false_iff_ne] at H
      obtain ⟨⟨⟨⟨⟨⟨⟨⟨h1, h2⟩, h3⟩, h4⟩, h5⟩, h6⟩, h7⟩, h8⟩, h9⟩ := H
      exact Ev.ifn h1 (Ev.ifn h2 (Ev.ifn h3 (Ev.ifn h4 (Ev.ifn h5 (Ev.ifn h6 (Ev.ifn h7 (Ev.ifn h8 (Ev.ifn h9 (Ev.val rfl)))))))))
  | succ d ih =>
    intro i hi
    have hlt : i < s.toList.length := by rw [len_list]; omega
    have hn := ih (i + 1) (by omega)
    rw [show ((i + 1 : Nat) : Int) = (i : Int) + 1 by omega] at hn
    refine Ev.step (fun k => by rw [formula_Valid.l0]) ?_
    refine Ev.ifp (by omega) (Ev.ifp (by omega) (Ev.ifp (by omega) ?_))
    rw [bt_list s (by omega), List.drop_eq_getElem_cons hlt, List.all_cons, wrap_ok (by omega) (by omega)]
    refine Ev.bc (formlet _) ?_
    by_cases h : letterI (s.toList[i].toNat : Int) = true
    · refine Ev.ifp h ?_
      rw [show alnB s.toList[i] = true by unfold alnB; rw [h]; rfl, Bool.true_and]
      exact hn
    · refine Ev.ifn h ?_
      rw [Bool.not_eq_true] at h
      have e : alnB s.toList[i] = digI (s.toList[i].toNat : Int) := by unfold alnB; rw [h, Bool.false_or]
      rw [e]
      unfold digI
      by_cases h1 : (s.toList[i].toNat : Int) < 48
      · rw [decide_eq_false (show ¬ (48 : Int) ≤ s.toList[i].toNat by omega)]
        exact Ev.ifp h1 (Ev.val rfl)
      · refine Ev.ifn h1 ?_
        rw [decide_eq_true (show (48 : Int) ≤ s.toList[i].toNat by omega), Bool.true_and]
        by_cases h2 : (s.toList[i].toNat : Int) > 57
        · rw [decide_eq_false (show ¬ (s.toList[i].toNat : Int) ≤ 57 by omega)]
          exact Ev.ifp h2 (Ev.val rfl)
        · rw [decide_eq_true (show (s.toList[i].toNat : Int) ≤ 57 by omega), Bool.true_and]
          exact Ev.ifn h2 hn

theorem valid_ev (s : ByteArray) (hs : s.size ≤ 5000) : Ev (fun k => formula_Valid.f k s) (validL s.toList) := by
  have hz := len_list s
  unfold formula_Valid.f validL
  rw [hz]
  by_cases h1 : s.size < 1
  · refine Ev.ifp (by omega) (Ev.step (fun k => by rw [formula_Valid.j0]) (Ev.ifp rfl (Ev.val ?_)))
    rw [decide_eq_false (show ¬ 1 ≤ s.size by omega)]; rfl
  · refine Ev.ifn (by omega) ?_
    rw [decide_eq_true (show 1 ≤ s.size by omega), Bool.true_and]
    by_cases h2 : 16 < s.size
    · refine Ev.ifp (by omega) (Ev.step (fun k => by rw [formula_Valid.j0]) (Ev.ifp rfl (Ev.val ?_)))
      rw [decide_eq_false (show ¬ s.size ≤ 16 by omega)]; rfl
    · refine Ev.ifn (by omega) (Ev.ifp (by omega) ?_)
      rw [decide_eq_true (show s.size ≤ 16 by omega), Bool.true_and]
      have hb := bt_list s (show 0 < s.size by omega)
      rw [show ((0 : Nat) : Int) = 0 from rfl] at hb
      rw [hb]
      obtain ⟨c, cs, hl⟩ : ∃ c cs, s.toList = c :: cs := by
        cases hl : s.toList with
        | nil => rw [hl] at hz; simp at hz; omega
        | cons c cs => exact ⟨c, cs, rfl⟩
      have e0 : ∀ h, s.toList[0]'h = c := fun h => by simp [hl]
      rw [e0]
      refine Ev.bc (formlet _) (Ev.step (fun k => by rw [formula_Valid.j0]) ?_)
      by_cases h : letterI (c.toNat : Int) = true
      · refine Ev.ifn (by rw [h]; simp) ?_
        have := valid_loop s hs s.size 0 (Nat.zero_add _)
        rw [List.drop_zero] at this
        refine Ev.to ?_ this
        rw [hl]
        simp only [namL, h, Bool.true_and, List.all_cons]
        rw [show alnB c = true by unfold alnB; rw [h]; rfl, Bool.true_and]
      · refine Ev.ifp (by rw [Bool.not_eq_true] at h; rw [h]; rfl) (Ev.val ?_)
        rw [Bool.not_eq_true] at h
        rw [hl]
        simp only [namL, h, Bool.false_and]

/-! ### one token -/
theorem run_all (p : UInt8 → Bool) : ∀ l : List UInt8, l.all p = decide (runL p l = l.length)
  | [] => by simp [runL]
  | c :: cs => by
    have hle := runL_le p cs
    rw [List.all_cons, run_all p cs, List.length_cons]
    by_cases h : p c = true
    · have e : runL p (c :: cs) = runL p cs + 1 := by simp only [runL]; rw [if_pos h]
      rw [h, e, Bool.true_and]; exact decide_eq_decide.2 (by omega)
    · have e : runL p (c :: cs) = 0 := by simp only [runL]; rw [if_neg h]
      rw [Bool.not_eq_true] at h
      rw [h, e, Bool.false_and]; exact (decide_eq_false (by omega)).symm
theorem digit_letter' {c : UInt8} (h : letterI c.toNat = true) : digB c = false := by
  unfold letterI at h
  unfold digB digI
  simp only [Bool.or_eq_true, Bool.and_eq_true, decide_eq_true_eq, beq_iff_eq] at h
  simp only [Bool.and_eq_false_iff, decide_eq_false_iff_not]
  omega
theorem word_nxt {l : List UInt8} (h : wordL l = true) : nxt l = (3, l.length, 0) ∧ blankB (l.headD 0) = false := by
  simp only [wordL, Bool.or_eq_true, beq_iff_eq] at h
  rcases h with (((((((h | h) | h) | h) | h) | h) | h) | h) | h <;> subst h <;> exact ⟨by rfl, by rfl⟩
theorem nxt_word {c : UInt8} {cs : List UInt8} (h : nxt (c :: cs) = (3, (c :: cs).length, 0)) : wordL (c :: cs) = true := by
  simp only [nxt] at h
  by_cases h1 : digB c = true
  · rw [if_pos h1] at h
    split at h
    · simp at h
    · split at h <;> simp at h
  · rw [if_neg h1] at h
    by_cases h2 : letterI c.toNat = true
    · rw [if_pos h2] at h
      split at h
      · simp at h
      · split at h
        · rename_i hw
          simp only [Prod.mk.injEq] at h
          rw [h.2.1, List.take_length] at hw
          exact hw
        · simp at h
    · rw [if_neg h2] at h
      split at h
      · simp at h
      · split at h <;> simp at h
theorem nxt_name {c : UInt8} {cs : List UInt8} : nxt (c :: cs) = (2, (c :: cs).length, 0) ↔ validL (c :: cs) = true := by
  have hrun := run_all alnB (c :: cs)
  constructor
  · intro h
    simp only [nxt] at h
    by_cases h1 : digB c = true
    · rw [if_pos h1] at h
      split at h
      · simp at h
      · split at h <;> simp at h
    · rw [if_neg h1] at h
      by_cases h2 : letterI c.toNat = true
      · rw [if_pos h2] at h
        split at h
        · simp at h
        · rename_i h16
          split at h
          · simp at h
          · rename_i hw
            simp only [Prod.mk.injEq] at h
            have hr := h.2.1
            rw [hr, List.take_length] at hw
            rw [hr] at h16
            rw [hr, decide_eq_true rfl, List.all_cons, Bool.and_eq_true] at hrun
            unfold validL
            simp only [namL, h2, hrun.2, Bool.and_true, Bool.and_eq_true, decide_eq_true_eq, Bool.not_eq_true']
            exact ⟨⟨by simp, by omega⟩, by simpa using hw⟩
      · rw [if_neg h2] at h
        split at h
        · simp at h
        · split at h <;> simp at h
  · intro h
    unfold validL at h
    simp only [namL, Bool.and_eq_true, decide_eq_true_eq, Bool.not_eq_true'] at h
    obtain ⟨⟨⟨h0, h16⟩, h2, h3⟩, hw⟩ := h
    have ha : (c :: cs).all alnB = true := by
      rw [List.all_cons, h3, Bool.and_true]; unfold alnB; rw [h2]; rfl
    rw [ha] at hrun
    have hr : runL alnB (c :: cs) = (c :: cs).length := of_decide_eq_true hrun.symm
    simp only [nxt]
    rw [if_neg (by rw [digit_letter' h2]; simp), if_pos h2, hr, if_neg (by omega), List.take_length, if_neg (by rw [hw]; simp)]

/-- One token that is the whole text: its kind; 0 else. -/
def oneK (l : List UInt8) : Int := match (sc l 0) with
  | ([t], _, r) => if r = 0 ∧ t.f1.toList = l then t.f0 else 0
  | _ => 0
theorem sc_small : ∀ (n : Nat) (l : List UInt8) (a : Nat), l.length ≤ n → ∀ t ∈ (sc l a).1, t.f1.toList.length ≤ l.length := by
  intro n
  induction n with
  | zero =>
    intro l a h t ht
    cases l with
    | nil => rw [sc_nil] at ht; cases ht
    | cons => simp at h
  | succ n ih =>
    intro l a h t ht
    rcases sc_step l a with ⟨_, h2⟩ | ⟨b, r, _, _, _, _, _, h6⟩ | ⟨b, m, k, h1, h2, _, _, _, h6⟩
    · rw [h2] at ht; cases ht
    · rw [h6] at ht; cases ht
    · rw [h6] at ht
      rcases List.mem_cons.1 ht with rfl | ht
      · rw [tk_list, List.length_take, List.length_drop]; omega
      · have := ih (l.drop (b + m)) (a + b + m) (by rw [List.length_drop]; omega) t ht
        rw [List.length_drop] at this
        omega
theorem one_kind (c : UInt8) (cs : List UInt8) : (oneK (c :: cs) = 2 ↔ validL (c :: cs) = true) ∧ (oneK (c :: cs) = 3 ↔ wordL (c :: cs) = true) := by
  rw [← nxt_name]
  have hw : wordL (c :: cs) = true ↔ nxt (c :: cs) = (3, (c :: cs).length, 0) := ⟨fun h => (word_nxt h).1, nxt_word⟩
  rw [hw]
  have key : ∀ K : Int, K ≠ 0 → (K = 2 ∨ K = 3) → (oneK (c :: cs) = K ↔ nxt (c :: cs) = (K, (c :: cs).length, 0)) := by
    intro K hK hK2
    by_cases hb : blankB c = true
    · constructor
      · intro h
        exfalso
        unfold oneK at h
        split at h
        · rename_i t x r heq
          split at h
          · rename_i hc
            have hm : t ∈ (sc cs 1).1 := by rw [sc_blank hb] at heq; rw [heq]; exact List.mem_cons_self
            have := sc_small _ cs 1 (Nat.le_refl _) t hm
            rw [hc.2] at this
            simp at this
            omega
          · exact hK h.symm
        · exact hK h.symm
      · intro h
        exfalso
        obtain ⟨b1, b2, b3, b4, b5⟩ := blank_no hb
        have hl : letterI c.toNat = false := by unfold alnB at b2; rw [Bool.or_eq_false_iff] at b2; exact b2.1
        simp only [nxt] at h
        rw [if_neg (by rw [b1]; simp), if_neg (by rw [hl]; simp)] at h
        split at h
        · simp only [Prod.mk.injEq] at h; omega
        · split at h
          · simp only [Prod.mk.injEq] at h; omega
          · simp only [Prod.mk.injEq] at h; omega
    · rw [Bool.not_eq_true] at hb
      by_cases he : (nxt (c :: cs)).2.2 = 0
      · obtain ⟨k, n, r, hn⟩ : ∃ k n r, nxt (c :: cs) = (k, n, r) := ⟨_, _, _, rfl⟩
        have hp := nxt_pos he (by simp)
        have hs := sc_tok (a := 0) hb he
        rw [hn] at he hp hs ⊢
        simp only at he hp
        subst he
        unfold oneK
        rw [hs]
        by_cases hnl : n = (c :: cs).length
        · subst hnl
          rw [List.drop_length, List.take_length, sc_nil]
          simp only [lit_list, and_self, if_true, Prod.mk.injEq, and_true]
        · constructor
          · intro h
            exfalso
            split at h
            · rename_i t x r heq
              split at h
              · rename_i hc
                simp only [Prod.mk.injEq, List.cons.injEq] at heq
                have := hc.2
                rw [← heq.1.1] at this
                simp only [lit_list] at this
                have := congrArg List.length this
                rw [List.length_take] at this
                omega
              · exact hK h.symm
            · exact hK h.symm
          · intro h
            simp only [Prod.mk.injEq] at h
            exact absurd h.2.1 hnl
      · constructor
        · intro h
          exfalso
          unfold oneK at h
          rw [sc_err hb he] at h
          exact hK h.symm
        · intro h
          rw [h] at he
          exact absurd rfl he
  exact ⟨key 2 (by decide) (.inl rfl), key 3 (by decide) (.inr rfl)⟩
theorem one_kind' (l : List UInt8) : (oneK l = 2 ↔ validL l = true) ∧ (oneK l = 3 ↔ wordL l = true) := by
  cases l with
  | nil => exact ⟨by decide, by decide⟩
  | cons c cs => exact one_kind c cs

theorem beq_of {x y : Bool} (h : (x = true ↔ y = true)) : x = y := by cases x <;> cases y <;> simp_all

theorem LexerNames : cylinderlaw35_LexerNames.Pure := by
  intro s _
  refine Ev.rounds (g := fun k => cylinderlaw35_LexerNames.f k s) ?_
  unfold cylinderlaw35_LexerNames.f
  refine Ev.bc awake_true (Ev.ifp rfl ?_)
  refine Ev.step (fun k => by rw [cylinderlaw35_LexerNames.j0]) ?_
  by_cases hs : s.size ≤ 40
  · refine Ev.ifn (by simp; omega) ?_
    have hk := one_kind' s.toList
    have last : ∀ x y : Bool, x = validL s.toList → y = wordL s.toList → Ev (fun k => cylinderlaw35_LexerNames.j3 k s x y) true := by
      intro x y hx hy
      refine Ev.step (fun k => by rw [cylinderlaw35_LexerNames.j3]) ?_
      refine Ev.bv (valid_ev s (by omega)) (Ev.ifp (by rw [hx]; simp) (Ev.bc (isWord_f s) (Ev.ifp (by rw [hy]; simp) (Ev.bc (isWord_f s) (Ev.bv (isWord_ev s) (Ev.val (by simp)))))))
    have none_ : oneK s.toList = 0 → ∀ ts : List S30, Ev (fun k => cylinderlaw35_LexerNames.j1 k s ts false) true := by
      intro h0 ts
      rw [h0] at hk
      refine Ev.step (fun k => by rw [cylinderlaw35_LexerNames.j1]) (Ev.ifn (by simp) ?_)
      refine Ev.step (fun k => by rw [cylinderlaw35_LexerNames.j2]) (Ev.ifn (by simp) (last _ _ ?_ ?_))
      · exact beq_of ⟨fun h => by simp at h, fun h => absurd (hk.1.2 h) (by decide)⟩
      · exact beq_of ⟨fun h => by simp at h, fun h => absurd (hk.2.2 h) (by decide)⟩
    by_cases h0 : (sc s.toList 0).2.2 = 0
    · refine Ev.bc (lex_ok (show s.size ≤ 4000 by omega) h0) (Ev.ifp rfl ?_)
      by_cases h1 : (((sc s.toList 0).1.length : Nat) : Int) = 1
      · refine Ev.ifp h1 (Ev.ifp (by rw [h1]; omega) ?_)
        obtain ⟨t, ht⟩ : ∃ t, (sc s.toList 0).1 = [t] := List.length_eq_one_iff.1 (by omega)
        rw [ht]
        have hr : rd_T30 [t] 0 = t := rfl
        rw [hr]
        have hone : oneK s.toList = if t.f1.toList = s.toList then t.f0 else 0 := by
          have e : sc s.toList 0 = ([t], (sc s.toList 0).2.1, (sc s.toList 0).2.2) := by rw [← ht]
          unfold oneK
          rw [e]
          simp only [h0, true_and]
        by_cases h2 : t.f1.toList = s.toList
        · rw [if_pos h2] at hone
          refine Ev.step (fun k => by rw [cylinderlaw35_LexerNames.j1]) (Ev.ifp (by rw [beq_iff_eq]; exact h2) (Ev.ifp (by simp) ?_))
          rw [hr]
          refine Ev.step (fun k => by rw [cylinderlaw35_LexerNames.j2]) (Ev.ifp (by rw [beq_iff_eq]; exact h2) (Ev.ifp (by simp) ?_))
          rw [hr]
          rw [hone] at hk
          exact last _ _ (beq_of (by rw [beq_iff_eq]; exact hk.1)) (beq_of (by rw [beq_iff_eq]; exact hk.2))
        · rw [if_neg h2] at hone
          rw [beq_eq_false_iff_ne.2 h2]
          exact none_ hone _
      · refine Ev.ifn h1 (none_ ?_ _)
        unfold oneK
        split
        · rename_i t x r heq
          rw [heq] at h1
          exact absurd rfl h1
        · rfl
    · refine Ev.bc (lex_bad (show s.size ≤ 4000 by omega) h0) (Ev.ifn h0 (none_ ?_ _))
      unfold oneK
      split
      · rename_i t x r heq
        rw [heq] at h0
        exact if_neg (fun g => h0 g.1)
      · rfl
  · exact Ev.ifp (by simp; omega) (Ev.bc awake_true (Ev.val rfl))

end Go.Proofs.Ytkomgnaleocleaa.Pure
