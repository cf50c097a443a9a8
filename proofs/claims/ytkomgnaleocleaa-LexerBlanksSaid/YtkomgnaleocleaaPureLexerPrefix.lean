/- LexerPrefix: a beginning of a text that has tokens has tokens, too: the same ones up to its end, where one may be cut. -/
import Derived.Test.YtkomgnaleocleaaPAllx7
import Derived.Test.YtkomgnaleocleaaLexQ
namespace Go.Proofs.Ytkomgnaleocleaa.Pure
open Go.RowKit Go.Proofs.Ytkomgnaleocleaa.PAll Go.Proofs.YtkomgnaleocleaaW.PrintWords Go.Proofs.YtkomgnaleocleaaW.PrintLast

theorem runL_take (p : UInt8 → Bool) : ∀ (l : List UInt8) (j : Nat), runL p (l.take j) = min j (runL p l)
  | [], j => by simp [runL]
  | c :: cs, 0 => by simp [runL]
  | c :: cs, j + 1 => by
    simp only [List.take_succ_cons, runL, runL_take p cs j]
    split <;> omega

theorem nxt_take {l : List UInt8} {k : Int} {m : Nat} (h : nxt l = (k, m, 0)) (hm : 1 ≤ m) {j : Nat} (hj : 1 ≤ j) :
    ∃ k', nxt (l.take j) = (k', min j m, 0) ∧ (m ≤ j → k' = k) := by
  cases l with
  | nil => simp [nxt] at h
  | cons c cs =>
    obtain ⟨j, rfl⟩ : ∃ i, j = i + 1 := ⟨j - 1, by omega⟩
    have hr := fun p => runL_take p (c :: cs) (j + 1)
    simp only [List.take_succ_cons] at hr ⊢
    simp only [nxt] at h ⊢
    by_cases h1 : digB c = true
    · rw [if_pos h1] at h ⊢
      rw [hr]
      by_cases h2 : c = 48 ∧ 1 < runL digB (c :: cs)
      · rw [if_pos h2] at h; simp at h
      · rw [if_neg h2] at h
        by_cases h3 : 40 < runL digB (c :: cs)
        · rw [if_pos h3] at h; simp at h
        · rw [if_neg h3] at h
          simp only [Prod.mk.injEq] at h
          obtain ⟨rfl, rfl, _⟩ := h
          rw [if_neg (fun g => h2 ⟨g.1, by omega⟩), if_neg (by omega)]
          exact ⟨1, rfl, fun _ => rfl⟩
    · rw [if_neg h1] at h ⊢
      by_cases h2 : letterI c.toNat = true
      · rw [if_pos h2] at h ⊢
        rw [hr]
        by_cases h3 : 16 < runL alnB (c :: cs)
        · rw [if_pos h3] at h; simp at h
        · rw [if_neg h3] at h
          rw [if_neg (by omega)]
          have hmm : m = runL alnB (c :: cs) := by split at h <;> (simp only [Prod.mk.injEq] at h; exact h.2.1.symm)
          rw [← hmm] at h ⊢
          by_cases hge : m ≤ j + 1
          · rw [Nat.min_eq_right hge]
            have ht : (c :: cs.take j).take m = (c :: cs).take m := by
              rw [← List.take_succ_cons, List.take_take, Nat.min_eq_left hge]
            rw [ht]
            by_cases hw : wordL ((c :: cs).take m) = true
            · rw [if_pos hw] at h ⊢
              simp only [Prod.mk.injEq] at h
              exact ⟨3, rfl, fun _ => h.1⟩
            · rw [if_neg hw] at h ⊢
              simp only [Prod.mk.injEq] at h
              exact ⟨2, rfl, fun _ => h.1⟩
          · by_cases hw : wordL ((c :: cs.take j).take (min (j + 1) m)) = true
            · rw [if_pos hw]; exact ⟨3, rfl, fun g => absurd g hge⟩
            · rw [if_neg hw]; exact ⟨2, rfl, fun g => absurd g hge⟩
      · rw [if_neg h2] at h ⊢
        have ht : (c :: cs.take j).take 2 = if j = 0 then [c] else (c :: cs).take 2 := by
          cases j with
          | zero => simp
          | succ j => simp [List.take_take]
        rw [ht]
        by_cases h3 : (c :: cs).take 2 = [60, 62] ∨ (c :: cs).take 2 = [60, 61] ∨ (c :: cs).take 2 = [62, 61]
        · rw [if_pos h3] at h
          simp only [Prod.mk.injEq] at h
          obtain ⟨rfl, rfl, _⟩ := h
          by_cases hj0 : j = 0
          · subst hj0
            have hc : c = 60 ∨ c = 62 := by
              rcases h3 with h3 | h3 | h3 <;> (cases cs <;> simp at h3) <;> simp [h3.1]
            rw [if_pos rfl, if_neg (by simp)]
            rw [if_pos (by rcases hc with rfl | rfl <;> decide)]
            exact ⟨4, rfl, fun g => by omega⟩
          · rw [if_neg hj0, if_pos h3]
            exact ⟨4, by rw [Nat.min_eq_right (by omega)], fun _ => rfl⟩
        · rw [if_neg h3] at h
          by_cases h4 : c ∈ ([43, 45, 42, 94, 40, 41, 61, 60, 62, 44, 46] : List UInt8)
          · rw [if_pos h4] at h
            simp only [Prod.mk.injEq] at h
            obtain ⟨rfl, rfl, _⟩ := h
            by_cases hj0 : j = 0
            · rw [if_pos hj0, if_neg (by simp), if_pos h4]
              exact ⟨4, by rw [Nat.min_eq_right (by omega)], fun _ => rfl⟩
            · rw [if_neg hj0, if_neg h3, if_pos h4]
              exact ⟨4, by rw [Nat.min_eq_right (by omega)], fun _ => rfl⟩
          · rw [if_neg h4] at h; simp at h

theorem sc_skip : ∀ (u v : List UInt8) (a : Nat), (∀ c ∈ u, blankB c = true) → sc (u ++ v) a = sc v (a + u.length)
  | [], v, a, _ => rfl
  | c :: u, v, a, h => by
    rw [List.cons_append, sc_blank (h c List.mem_cons_self), sc_skip u v (a + 1) (fun x hx => h x (List.mem_cons_of_mem _ hx)), List.length_cons, show a + 1 + u.length = a + (u.length + 1) by omega]
theorem sc_all_blank (u : List UInt8) (a : Nat) (h : ∀ c ∈ u, blankB c = true) : sc u a = ([], 0, 0) := by
  have := sc_skip u [] a h
  rw [List.append_nil] at this
  rw [this, sc_nil]

/-- Every token of a text stands within it. -/
theorem sc_ge : ∀ (n : Nat) (l : List UInt8) (a : Nat), l.length ≤ n → ∀ t ∈ (sc l a).1, (a : Int) ≤ t.f2 ∧ t.f2 + (t.f1.size : Int) ≤ (a : Int) + l.length := by
  intro n
  induction n with
  | zero =>
    intro l a h t ht
    cases l with
    | nil => rw [sc_nil] at ht; cases ht
    | cons => simp at h
  | succ n ih =>
    intro l a h t ht
    rcases sc_step l a with ⟨_, h2⟩ | ⟨b, r, _, _, _, _, _, h6⟩ | ⟨b, m, k, h1, h2, _, _, _, h6⟩
    · rw [h2] at ht; cases ht
    · rw [h6] at ht; cases ht
    · rw [h6] at ht
      rcases List.mem_cons.1 ht with rfl | ht
      · rw [tk_size, List.length_take, List.length_drop]; simp only [tk]; omega
      · have := ih (l.drop (b + m)) (a + b + m) (by rw [List.length_drop]; omega) t ht
        rw [List.length_drop] at this
        omega

def Cut (N : Int) : List S30 → List S30 → Prop
  | ts, [] => ∀ t ∈ ts, N < t.f2 + (t.f1.size : Int)
  | [], _ :: _ => False
  | t :: ts, m :: ms => t.f2 < N ∧ m.f2 = t.f2 ∧ (t.f2 + (t.f1.size : Int) ≤ N → m.f1.toList = t.f1.toList) ∧ Cut N ts ms
theorem Cut.len {N : Int} : ∀ {ts ms : List S30}, Cut N ts ms → ms.length ≤ ts.length
  | _, [], _ => by simp
  | [], _ :: _, h => by simp [Cut] at h
  | t :: ts, m :: ms, h => by
    simp only [Cut] at h
    simp only [List.length_cons]
    have := Cut.len h.2.2.2
    omega

theorem sc_take : ∀ (n : Nat) (l : List UInt8) (a j : Nat), l.length ≤ n → (sc l a).2.2 = 0 → (sc (l.take j) a).2.2 = 0 ∧ Cut ((a : Int) + (j : Int)) (sc l a).1 (sc (l.take j) a).1 := by
  intro n
  induction n with
  | zero =>
    intro l a j h h0
    cases l with
    | nil => rw [List.take_nil, sc_nil]; exact ⟨rfl, fun t ht => by cases ht⟩
    | cons => simp at h
  | succ n ih =>
    intro l a j h h0
    rcases sc_step l a with ⟨h1, h2⟩ | ⟨b, r, _, _, h3, _, _, h6⟩ | ⟨b, m, k, h1, h2, h3, h4, h5, h6⟩
    · rw [sc_all_blank (l.take j) a (fun c hc => h1 c (List.mem_of_mem_take hc)), h2]
      exact ⟨rfl, fun t ht => by cases ht⟩
    · rw [h6] at h0; exact absurd h0 h3
    · have hrest : ∀ t ∈ (sc (l.drop (b + m)) (a + b + m)).1, ((a + b + m : Nat) : Int) ≤ t.f2 := fun t ht => (sc_ge _ _ _ (Nat.le_refl _) t ht).1
      have hsz : (tk k ((l.drop b).take m) (a + b)).f1.size = m := by rw [tk_size, List.length_take, List.length_drop]; omega
      by_cases hjb : j ≤ b
      · have hbl : ∀ c ∈ l.take j, blankB c = true := fun c hc => h3 c (by
          have : l.take j = (l.take b).take j := by rw [List.take_take, Nat.min_eq_left hjb]
          rw [this] at hc; exact List.mem_of_mem_take hc)
        rw [sc_all_blank _ a hbl, h6]
        refine ⟨rfl, fun t ht => ?_⟩
        rcases List.mem_cons.1 ht with rfl | ht
        · rw [hsz]; simp only [tk]; omega
        · have := hrest t ht; omega
      · have hsp : l.take j = l.take b ++ (l.drop b).take (j - b) := by
          rw [← List.take_add, show b + (j - b) = j by omega]
        have hlb : (l.take b).length = b := by rw [List.length_take]; omega
        have e0 : sc (l.take j) a = sc ((l.drop b).take (j - b)) (a + b) := by rw [hsp, sc_skip _ _ a h3, hlb]
        obtain ⟨c, cs, hc, hcb⟩ := h5
        obtain ⟨k', hn, hk⟩ := nxt_take h4 h2 (j := j - b) (by omega)
        have hv : (l.drop b).take (j - b) = c :: cs.take (j - b - 1) := by
          rw [hc]
          obtain ⟨i, hi⟩ : ∃ i, j - b = i + 1 := ⟨j - b - 1, by omega⟩
          rw [hi, List.take_succ_cons, Nat.add_sub_cancel]
        have e1 : sc ((l.drop b).take (j - b)) (a + b) = (tk k' (((l.drop b).take (j - b)).take (min (j - b) m)) (a + b) :: (sc (((l.drop b).take (j - b)).drop (min (j - b) m)) (a + b + min (j - b) m)).1, (sc (((l.drop b).take (j - b)).drop (min (j - b) m)) (a + b + min (j - b) m)).2) := by
          have := sc_tok (c := c) (cs := cs.take (j - b - 1)) (a := a + b) hcb (by rw [← hv, hn])
          rw [← hv, hn] at this
          exact this
        rw [e0, e1, h6]
        by_cases hjm : m ≤ j - b
        · rw [Nat.min_eq_right hjm, List.drop_take, List.drop_drop]
          obtain ⟨g1, g2⟩ := ih (l.drop (b + m)) (a + b + m) (j - b - m) (by rw [List.length_drop]; omega) (by rw [h6] at h0; exact h0)
          refine ⟨g1, ?_⟩
          simp only [Cut]
          refine ⟨by simp only [tk]; omega, rfl, fun _ => ?_, ?_⟩
          · rw [tk_list, tk_list, List.take_take, Nat.min_eq_left hjm]
          · rw [show (a : Int) + (j : Int) = ((a + b + m : Nat) : Int) + ((j - b - m : Nat) : Int) by omega]
            exact g2
        · rw [Nat.min_eq_left (show j - b ≤ m by omega), List.drop_of_length_le (l := (l.drop b).take (j - b)) (i := j - b) (by rw [List.length_take]; omega), sc_nil]
          refine ⟨rfl, ?_⟩
          simp only [Cut]
          refine ⟨by simp only [tk]; omega, rfl, fun g => ?_, fun t ht => ?_⟩
          · rw [hsz] at g; simp only [tk] at g; omega
          · have := hrest t ht; omega

theorem pre_loop (ts ms : List S30) (N : Nat) (hts : ts.length ≤ 3000) (hb : ∀ t ∈ ts, 0 ≤ t.f2 ∧ t.f2 + (t.f1.size : Int) ≤ 3000) : ∀ (d i : Nat), i + d = ts.length → Cut (N : Int) (ts.drop i) (ms.drop i) →
    Ev (fun k => cylinderlaw35_LexerPrefix.l0 k ts (N : Int) ms ((ts.length : Nat) : Int) (i : Int)) true := by
  intro d
  induction d with
  | zero =>
    intro i hi _
    refine Ev.step (fun k => by rw [cylinderlaw35_LexerPrefix.l0]) ?_
    exact Ev.ifn (by omega) (Ev.val rfl)
  | succ d ih =>
    intro i hi hc
    refine Ev.step (fun k => by rw [cylinderlaw35_LexerPrefix.l0]) ?_
    refine Ev.ifp (by omega) (Ev.ifp (by omega) (Ev.ifp (by omega) ?_))
    have hlt : i < ts.length := by omega
    have hd : ts.drop i = ts[i] :: ts.drop (i + 1) := List.drop_eq_getElem_cons hlt
    have ht : rd_T30 ts (i : Int) = ts[i] := (rd_drop hd).1
    have hbt := hb ts[i] (List.getElem_mem hlt)
    have hwr : wrap64 ((i : Int) + 1) = ((i + 1 : Nat) : Int) := by rw [wrap_ok (by omega) (by omega)]; omega
    rw [ht, wrap_ok (show -9223372036854775808 ≤ ts[i].f2 + (ts[i].f1.size : Int) by omega) (by omega)]
    by_cases hm : i < ms.length
    · have hdm : ms.drop i = ms[i] :: ms.drop (i + 1) := List.drop_eq_getElem_cons hm
      have hmt : rd_T30 ms (i : Int) = ms[i] := (rd_drop hdm).1
      rw [hd, hdm] at hc
      simp only [Cut] at hc
      obtain ⟨c1, c2, c3, c4⟩ := hc
      have hgo : Ev (fun k => cylinderlaw35_LexerPrefix.j3 k ts (N : Int) ms (i : Int) ((ts.length : Nat) : Int) (i : Int) false) true := by
        refine Ev.step (fun k => by rw [cylinderlaw35_LexerPrefix.j3]) ?_
        refine Ev.ifn (by simp) (Ev.ifp (by omega) (Ev.ifp (by omega) ?_))
        rw [ht, hwr]
        exact Ev.ifn (by omega) (ih (i + 1) (by omega) c4)
      by_cases hin : ts[i].f2 + (ts[i].f1.size : Int) ≤ (N : Int)
      · refine Ev.ifp hin (Ev.ifn (by omega) (Ev.ifp (by omega) ?_))
        rw [hmt]
        refine Ev.ifp c2 ?_
        rw [c3 hin]
        simp only [bne_self_eq_false]
        exact hgo
      · exact Ev.ifn hin hgo
    · have hdm : ms.drop i = [] := List.drop_of_length_le (by omega)
      rw [hd, hdm] at hc
      simp only [Cut] at hc
      refine Ev.ifn (by have := hc ts[i] List.mem_cons_self; omega) ?_
      refine Ev.step (fun k => by rw [cylinderlaw35_LexerPrefix.j3]) ?_
      refine Ev.ifn (by simp) (Ev.ifp (by omega) (Ev.ifp (by omega) ?_))
      have hnext := ih (i + 1) (by omega) (by
        rw [List.drop_of_length_le (show ms.length ≤ i + 1 by omega)]
        simp only [Cut]
        exact fun t h => hc t (List.mem_cons_of_mem _ h))
      rw [ht, hwr]
      by_cases hge : ts[i].f2 ≥ (N : Int)
      · exact Ev.ifp hge (Ev.ifn (by omega) hnext)
      · exact Ev.ifn hge hnext

theorem LexerPrefix : cylinderlaw35_LexerPrefix.Pure := by
  intro s c _ hc
  refine Ev.rounds (g := fun k => cylinderlaw35_LexerPrefix.f k s c) ?_
  unfold cylinderlaw35_LexerPrefix.f
  refine Ev.bc awake_true (Ev.ifp rfl ?_)
  refine Ev.step (fun k => by rw [cylinderlaw35_LexerPrefix.j0]) ?_
  by_cases hs : s.size ≤ 3000
  · refine Ev.ifn (by simp; omega) ?_
    have hcw : 0 ≤ c ∧ c ≤ 65535 := by
      simpa [Lit.wf, IntKind.min, IntKind.max, IntKind.signed, IntKind.bits] using hc
    obtain ⟨N, hN, hNs⟩ : ∃ N : Nat, Int.tmod (wrap64 c) (wrap64 ((s.size : Int) + 1)) = (N : Int) ∧ N ≤ s.size := by
      rw [wrap_ok (x := c) (by omega) (by omega), wrap_ok (by omega) (by omega), Int.tmod_eq_emod_of_nonneg (by omega)]
      refine ⟨(c % ((s.size : Int) + 1)).toNat, ?_, ?_⟩
      · have := Int.emod_nonneg c (show (s.size : Int) + 1 ≠ 0 by omega); omega
      · have := Int.emod_nonneg c (show (s.size : Int) + 1 ≠ 0 by omega)
        have := Int.emod_lt_of_pos c (show 0 < (s.size : Int) + 1 by omega); omega
    have hw : wrap64 ((s.size : Int) + 1) = (s.size : Int) + 1 := wrap_ok (by omega) (by omega)
    have hpl : (s.extract 0 N).toList = s.toList.take N := take_ext s N
    have hps : (s.extract 0 N).size ≤ 4000 := by rw [← len_list, hpl, List.length_take, len_list]; omega
    obtain ⟨bt, hbt⟩ : ∃ bt, lexer_Lex.f (s.extract 0 N) = some bt := ⟨_, rfl⟩
    rw [hN]
    by_cases h0 : (sc s.toList 0).2.2 = 0
    · refine Ev.bc (lex_ok (show s.size ≤ 4000 by omega) h0) ?_
      refine Ev.ifn (by rw [hw]; omega) (Ev.ifp (by omega) (Ev.ifp (by omega) ?_))
      rw [Int.toNat_natCast]
      obtain ⟨g1, g2⟩ := sc_take _ s.toList 0 N (Nat.le_refl _) h0
      rw [← hpl] at g1 g2
      refine Ev.bc (lex_ok hps g1) (Ev.ifp rfl (Ev.ifp rfl ?_))
      refine Ev.step (fun k => by rw [cylinderlaw35_LexerPrefix.j1]) ?_
      have hl := g2.len
      refine Ev.ifn (by simp; omega) ?_
      have hts : (sc s.toList 0).1.length ≤ 3000 := by have := sc_len' s; omega
      refine pre_loop (sc s.toList 0).1 (sc (s.extract 0 N).toList 0).1 N hts (fun t ht => ?_) _ 0 (Nat.zero_add _) ?_
      · have := sc_ge _ s.toList 0 (Nat.le_refl _) t ht
        rw [len_list] at this
        omega
      · rw [List.drop_zero, List.drop_zero]
        rw [show (N : Int) = ((0 : Nat) : Int) + (N : Int) by omega]
        exact g2
    · refine Ev.bc (lex_bad (show s.size ≤ 4000 by omega) h0) ?_
      refine Ev.ifn (by rw [hw]; omega) (Ev.ifp (by omega) (Ev.ifp (by omega) ?_))
      rw [Int.toNat_natCast]
      exact Ev.bc hbt (Ev.ifn h0 (Ev.val rfl))
  · exact Ev.ifp (by simp; omega) (Ev.bc awake_true (Ev.val rfl))

end Go.Proofs.Ytkomgnaleocleaa.Pure
