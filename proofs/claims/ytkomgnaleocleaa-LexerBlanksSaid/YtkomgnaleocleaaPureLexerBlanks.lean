/- LexerBlanks: a blank more after any token, or before all, changes only offsets. -/
import Derived.Test.YtkomgnaleocleaaPAllx10
import Derived.Test.YtkomgnaleocleaaPureLexerPrefix
import Derived.Test.YtkomgnaleocleaaPureLexerTwo
namespace Go.Proofs.Ytkomgnaleocleaa.Pure
open Go.RowKit Go.Proofs.Ytkomgnaleocleaa.PAll Go.Proofs.YtkomgnaleocleaaW.PrintWords Go.Proofs.YtkomgnaleocleaaW.PrintLast

/-- Behind a token a text falls into two. -/
theorem sc_split : ∀ (n : Nat) (l : List UInt8) (a : Nat), l.length ≤ n → (sc l a).2.2 = 0 → ∀ (i : Nat) (h : i < (sc l a).1.length),
    ∃ p : Nat, p ≤ l.length ∧ ((a + p : Nat) : Int) = ((sc l a).1[i]).f2 + (((sc l a).1[i]).f1.size : Int) ∧
      (sc (l.take p) a).1 = (sc l a).1.take (i + 1) ∧ (sc (l.take p) a).2.2 = 0 ∧ (sc (l.drop p) (a + p)).1 = (sc l a).1.drop (i + 1) ∧ (sc (l.drop p) (a + p)).2.2 = 0 := by
  intro n
  induction n with
  | zero =>
    intro l a h h0 i hi
    cases l with
    | nil => rw [sc_nil] at hi; simp at hi
    | cons => simp at h
  | succ n ih =>
    intro l a h h0 i hi
    rcases sc_step l a with ⟨h1, h2⟩ | ⟨b, r, _, _, h3, _, _, h6⟩ | ⟨b, m, k, h1, h2, h3, h4, h5, h6⟩
    · rw [h2] at hi; simp at hi
    · rw [h6] at h0; exact absurd h0 h3
    · have hsz : (tk k ((l.drop b).take m) (a + b)).f1.size = m := by rw [tk_size, List.length_take, List.length_drop]; omega
      have hlb : (l.take b).length = b := by rw [List.length_take]; omega
      obtain ⟨c, cs, hc, hcb⟩ := h5
      -- the beginning of length b + m + q
      have hbeg : ∀ q, sc (l.take (b + m + q)) a = (tk k ((l.drop b).take m) (a + b) :: (sc ((l.drop (b + m)).take q) (a + b + m)).1, (sc ((l.drop (b + m)).take q) (a + b + m)).2) := by
        intro q
        have hsp : l.take (b + m + q) = l.take b ++ (l.drop b).take (m + q) := by rw [← List.take_add, show b + (m + q) = b + m + q by omega]
        obtain ⟨k', hn, hk⟩ := nxt_take h4 h2 (j := m + q) (by omega)
        rw [hk (by omega), Nat.min_eq_right (show m ≤ m + q by omega)] at hn
        have hv : (l.drop b).take (m + q) = c :: cs.take (m + q - 1) := by
          rw [hc]
          obtain ⟨j, hj⟩ : ∃ j, m + q = j + 1 := ⟨m + q - 1, by omega⟩
          rw [hj, List.take_succ_cons, Nat.add_sub_cancel]
        have ht := sc_tok (c := c) (cs := cs.take (m + q - 1)) (a := a + b) hcb (by rw [← hv, hn])
        rw [← hv, hn] at ht
        rw [hsp, sc_skip _ _ a h3, hlb, ht, List.take_take, Nat.min_eq_left (show m ≤ m + q by omega), List.drop_take, List.drop_drop, show m + q - m = q by omega]
        rfl
      cases i with
      | zero =>
        refine ⟨b + m, by omega, ?_, ?_, ?_, ?_, ?_⟩
        · simp only [h6, List.getElem_cons_zero]; rw [hsz]; simp only [tk]; omega
        · have := hbeg 0
          rw [Nat.add_zero, List.take_zero, sc_nil] at this
          rw [this, h6]; rfl
        · have := hbeg 0
          rw [Nat.add_zero, List.take_zero, sc_nil] at this
          rw [this]
        · rw [h6, show a + (b + m) = a + b + m by omega]; rfl
        · rw [h6] at h0
          rw [show a + (b + m) = a + b + m by omega]
          exact h0
      | succ i =>
        have hi' : i < (sc (l.drop (b + m)) (a + b + m)).1.length := by rw [h6] at hi; simpa using hi
        have h0' : (sc (l.drop (b + m)) (a + b + m)).2.2 = 0 := by rw [h6] at h0; exact h0
        obtain ⟨q, q1, q2, q3, q4, q5, q6⟩ := ih (l.drop (b + m)) (a + b + m) (by rw [List.length_drop]; omega) h0' i hi'
        rw [List.length_drop] at q1
        refine ⟨b + m + q, by omega, ?_, ?_, ?_, ?_, ?_⟩
        · simp only [h6, List.getElem_cons_succ]
          rw [← q2]; omega
        · rw [hbeg q, h6]
          simp only [q3, List.take_succ_cons]
        · rw [hbeg q]; exact q4
        · rw [h6]
          simp only [List.drop_succ_cons]
          rw [← q5, List.drop_drop, show a + (b + m + q) = a + b + m + q by omega]
        · rw [← q6, List.drop_drop, show a + (b + m + q) = a + b + m + q by omega]

/-- The tokens with a blank more behind the i-th. -/
def more (i : Nat) (ts : List S30) : List S30 := ts.take i ++ (ts.drop i).map (shiftT 1)
theorem more_len (i : Nat) (ts : List S30) : (more i ts).length = ts.length := by simp [more]; omega
theorem more_at (i : Nat) (ts : List S30) {j : Nat} (h : j < ts.length) : rd_T30 (more i ts) (j : Int) = if j < i then rd_T30 ts (j : Int) else shiftT 1 (rd_T30 ts (j : Int)) := by
  by_cases hj : j < i
  · rw [if_pos hj]
    unfold more
    rw [rd_left _ _ (by rw [List.length_take]; omega)]
    simp only [rd_T30, Int.toNat_natCast, List.getD_eq_getElem?_getD, List.getElem?_take, if_pos hj]
  · rw [if_neg hj]
    have hl : (ts.take i).length = i := by rw [List.length_take]; omega
    unfold more
    rw [rd_right _ _ (by omega), hl, rd_shift _ _ (by rw [List.length_drop]; omega)]
    simp only [rd_T30, Int.toNat_natCast, List.getD_eq_getElem?_getD, List.getElem?_drop]
    rw [show i + (j - i) = j by omega]

theorem same_more (ts : List S30) (n : Nat) (hx : ts.length ≤ 5000) : Ev (fun k => cylinderref35_Same.f k ts (more n ts) false) true := by
  have hml := more_len n ts
  unfold cylinderref35_Same.f
  refine Ev.ifp (by rw [hml]) ?_
  suffices h : ∀ (d i : Nat), i + d = ts.length → Ev (fun k => cylinderref35_Same.l0 k ts (more n ts) false ((ts.length : Nat) : Int) (i : Int)) true by exact h ts.length 0 (Nat.zero_add _)
  intro d
  induction d with
  | zero =>
    intro i hi
    refine Ev.step (fun k => by rw [cylinderref35_Same.l0]) ?_
    exact Ev.ifn (by omega) (Ev.val rfl)
  | succ d ih =>
    intro i hi
    have hn := ih (i + 1) (by omega)
    rw [show ((i + 1 : Nat) : Int) = (i : Int) + 1 by omega] at hn
    have hm := more_at n ts (j := i) (by omega)
    have e0 : (rd_T30 ts (i : Int)).f0 = (rd_T30 (more n ts) (i : Int)).f0 := by rw [hm]; split <;> rfl
    have e1 : (rd_T30 ts (i : Int)).f1 = (rd_T30 (more n ts) (i : Int)).f1 := by rw [hm]; split <;> rfl
    refine Ev.step (fun k => by rw [cylinderref35_Same.l0]) ?_
    rw [wrap_ok (by omega) (by omega)]
    exact Ev.ifp (by omega) (Ev.ifp (by omega) (Ev.ifp (by omega) (Ev.ifp (by rw [hml]; omega) (Ev.ifp e0 (Ev.ifp (by rw [e1]) (Ev.ifn (by simp) hn))))))

theorem blanks_loop (ts : List S30) (n : Nat) (hx : ts.length ≤ 3000) (hb : ∀ t ∈ ts, 0 ≤ t.f2 ∧ t.f2 ≤ 3000) : ∀ (d i : Nat), i + d = ts.length →
    Ev (fun k => cylinderlaw35_LexerBlanks.l0 k ts (n : Int) (more n ts) ((ts.length : Nat) : Int) (i : Int)) true := by
  have hml := more_len n ts
  intro d
  induction d with
  | zero =>
    intro i hi
    refine Ev.step (fun k => by rw [cylinderlaw35_LexerBlanks.l0]) ?_
    exact Ev.ifn (by omega) (Ev.val rfl)
  | succ d ih =>
    intro i hi
    have hn := ih (i + 1) (by omega)
    rw [show ((i + 1 : Nat) : Int) = (i : Int) + 1 by omega] at hn
    have hlt : i < ts.length := by omega
    have hm := more_at n ts hlt
    have hr : rd_T30 ts (i : Int) = ts[i] := (rd_drop (List.drop_eq_getElem_cons hlt)).1
    have hbt := hb ts[i] (List.getElem_mem hlt)
    refine Ev.step (fun k => by rw [cylinderlaw35_LexerBlanks.l0]) ?_
    rw [wrap_ok (x := (i : Int) + 1) (by omega) (by omega), hm, hr, wrap_ok (x := ts[i].f2 + 1) (by omega) (by omega), wrap_ok (x := ts[i].f2 + 0) (by omega) (by omega)]
    refine Ev.ifp (by omega) ?_
    by_cases h : i < n
    · refine Ev.ifn (by omega) (Ev.ifp (by omega) (Ev.ifp (by rw [hml]; omega) (Ev.ifp (by omega) (Ev.ifp ?_ hn))))
      rw [if_pos h]; omega
    · refine Ev.ifp (by omega) (Ev.ifp (by omega) (Ev.ifp (by rw [hml]; omega) (Ev.ifp (by omega) (Ev.ifp ?_ hn))))
      rw [if_neg h]; simp only [shiftT]; omega

theorem put_list (s : ByteArray) (c : UInt8) (p : Nat) : ((s.extract 0 p ++ (⟨#[c]⟩ : ByteArray)) ++ s.extract p s.size).toList = s.toList.take p ++ c :: s.toList.drop p := by
  have h1 := take_ext s p
  have h2 : (s.extract p s.size).toList = s.toList.drop p := by rw [mid_list, ← len_list, List.take_length]
  have e : ∀ a b : ByteArray, (a ++ b).toList = a.toList ++ b.toList := fun a b => by simp [ByteArray.toList_eq]
  rw [e, e, h1, h2, lit_list]
  simp

theorem room3 {n : Nat} (h : n ≤ 3000) : n + 1 ≤ 9223372036854775807 := by omega
theorem last_part (s : ByteArray) (hs : s.size ≤ 3000) (a2 : Int) (ha : 0 ≤ a2 ∧ a2 ≤ 255) (p n : Nat) (hp : p ≤ s.size)
    (t1 : (sc (s.toList.take p) 0).1 = (sc s.toList 0).1.take n) (t2 : (sc (s.toList.take p) 0).2.2 = 0) (t3 : (sc (s.toList.drop p) p).1 = (sc s.toList 0).1.drop n) (t4 : (sc (s.toList.drop p) p).2.2 = 0) :
    Ev (fun k => cylinderlaw35_LexerBlanks.j2 k s a2 (sc s.toList 0).1 (p : Int) (n : Int)) true := by
  have hz := len_list s
  refine Ev.step (fun k => by rw [cylinderlaw35_LexerBlanks.j2]) ?_
  refine Ev.bc rfl ?_
  obtain ⟨c, hc, hcb⟩ : ∃ c : UInt8, Utf8.encode (wrap32 (rd ([9, 10, 13, 32] : List Int) (Int.tmod a2 4))) = ⟨#[c]⟩ ∧ blankB c = true := by
    rw [Int.tmod_eq_emod_of_nonneg ha.1]
    rcases (show a2 % 4 = 0 ∨ a2 % 4 = 1 ∨ a2 % 4 = 2 ∨ a2 % 4 = 3 by omega) with h | h | h | h <;> rw [h]
    · exact ⟨9, by rw [show rd ([9, 10, 13, 32] : List Int) 0 = 9 from rfl, show wrap32 9 = 9 from by unfold wrap32; omega]; rfl, rfl⟩
    · exact ⟨10, by rw [show rd ([9, 10, 13, 32] : List Int) 1 = 10 from rfl, show wrap32 10 = 10 from by unfold wrap32; omega]; rfl, rfl⟩
    · exact ⟨13, by rw [show rd ([9, 10, 13, 32] : List Int) 2 = 13 from rfl, show wrap32 13 = 13 from by unfold wrap32; omega]; rfl, rfl⟩
    · exact ⟨32, by rw [show rd ([9, 10, 13, 32] : List Int) 3 = 32 from rfl, show wrap32 32 = 32 from by unfold wrap32; omega]; rfl, rfl⟩
  have hm : 0 ≤ Int.tmod a2 4 ∧ Int.tmod a2 4 < 4 := by rw [Int.tmod_eq_emod_of_nonneg ha.1]; omega
  rw [hc, Int.toNat_natCast]
  have z1 : (s.extract 0 p).size = p := by rw [ByteArray.size_extract]; omega
  have z2 : (s.extract p s.size).size = s.size - p := by rw [ByteArray.size_extract]; omega
  have z3 : (⟨#[c]⟩ : ByteArray).size = 1 := rfl
  have z4 : (s.extract 0 p ++ (⟨#[c]⟩ : ByteArray)).size = p + 1 := by rw [ByteArray.size_append, z1, z3]
  have hl := put_list s c p
  have z5 : ((s.extract 0 p ++ (⟨#[c]⟩ : ByteArray)) ++ s.extract p s.size).size ≤ 4000 := by rw [ByteArray.size_append, z4, z2]; omega
  refine Ev.ifp hm.1 (Ev.ifp hm.2 (Ev.ifp (by omega) (Ev.ifp (by omega) (Ev.ifp (by rw [z1, z3]; exact room3 (by omega)) (Ev.ifp (by rw [z4, z2]; omega) ?_)))))
  obtain ⟨g, _⟩ := sc_two hcb (s.toList.drop p) (s.toList.take p).length (s.toList.take p) 0 (Nat.le_refl _)
  have g := g t2
  have hlp : (s.toList.take p).length = p := by rw [List.length_take]; omega
  rw [hlp, Nat.zero_add, ← hl] at g
  obtain ⟨q1, q2, _, _⟩ := sc_shift (s.toList.drop p).length (s.toList.drop p) p 1 (Nat.le_refl _)
  have e1 : (sc ((s.extract 0 p ++ (⟨#[c]⟩ : ByteArray)) ++ s.extract p s.size).toList 0).1 = more n (sc s.toList 0).1 := by
    rw [g]; simp only; rw [t1, q1, t3]; rfl
  have e2 : (sc ((s.extract 0 p ++ (⟨#[c]⟩ : ByteArray)) ++ s.extract p s.size).toList 0).2.2 = 0 := by
    rw [g]; simp only; rw [q2]; exact t4
  refine Ev.bc (lex_ok z5 e2) (Ev.ifp rfl ?_)
  have hlen := sc_len' s
  rw [e1]
  refine Ev.bind (same_more (sc s.toList 0).1 n (by omega)) (Ev.step (fun k => by rw [cylinderlaw35_LexerBlanks.j3]) (Ev.ifn (by simp) ?_))
  refine blanks_loop (sc s.toList 0).1 n (by omega) (fun t ht => ?_) _ 0 (Nat.zero_add _)
  have := sc_ge _ s.toList 0 (Nat.le_refl _) t ht
  rw [hz] at this
  omega

theorem LexerBlanks : cylinderlaw35_LexerBlanks.Pure := by
  intro s a1 a2 _ w1 w2
  refine Ev.rounds (g := fun k => cylinderlaw35_LexerBlanks.f k s a1 a2) ?_
  unfold cylinderlaw35_LexerBlanks.f
  have ha1 : 0 ≤ a1 ∧ a1 ≤ 255 := by simpa [Lit.wf, IntKind.min, IntKind.max, IntKind.signed, IntKind.bits] using w1
  have ha2 : 0 ≤ a2 ∧ a2 ≤ 255 := by simpa [Lit.wf, IntKind.min, IntKind.max, IntKind.signed, IntKind.bits] using w2
  refine Ev.bc awake_true (Ev.ifp rfl ?_)
  refine Ev.step (fun k => by rw [cylinderlaw35_LexerBlanks.j0]) ?_
  by_cases hs : s.size ≤ 3000
  · refine Ev.ifn (by simp; omega) ?_
    by_cases h0 : (sc s.toList 0).2.2 = 0
    · refine Ev.bc (lex_ok (show s.size ≤ 4000 by omega) h0) (Ev.ifp rfl ?_)
      have hlen := sc_len' s
      have hfirst : Ev (fun k => cylinderlaw35_LexerBlanks.j1 k s a1 a2 (sc s.toList 0).1 0 0 false) true := by
        refine Ev.step (fun k => by rw [cylinderlaw35_LexerBlanks.j1]) (Ev.ifn (by simp) ?_)
        exact last_part s hs a2 ha2 0 0 (Nat.zero_le _) (by rw [List.take_zero, List.take_zero, sc_nil]) (by rw [List.take_zero, sc_nil]) (by rw [List.drop_zero, List.drop_zero]) (by rw [List.drop_zero]; exact h0)
      by_cases hl0 : (((sc s.toList 0).1.length : Nat) : Int) > 0
      · refine Ev.ifp hl0 ?_
        by_cases hw : a1 > 0
        · rw [decide_eq_true hw]
          refine Ev.step (fun k => by rw [cylinderlaw35_LexerBlanks.j1]) (Ev.ifp rfl (Ev.ifn (by simp only; omega) ?_))
          obtain ⟨m, hm, hml⟩ : ∃ m : Nat, Int.tmod (wrap64 a1) (((sc s.toList 0).1.length : Nat) : Int) = (m : Int) ∧ m < (sc s.toList 0).1.length := by
            rw [wrap_ok (x := a1) (by omega) (by omega), Int.tmod_eq_emod_of_nonneg (by omega)]
            have g1 := Int.emod_nonneg a1 (show (((sc s.toList 0).1.length : Nat) : Int) ≠ 0 by omega)
            have g2 := Int.emod_lt_of_pos a1 hl0
            exact ⟨(a1 % (((sc s.toList 0).1.length : Nat) : Int)).toNat, by omega, by omega⟩
          have e1 : wrap64 (1 + Int.tmod (wrap64 a1) (((sc s.toList 0).1.length : Nat) : Int)) = ((m + 1 : Nat) : Int) := by rw [hm, wrap_ok (by omega) (by omega)]; omega
          have e2 : wrap64 (((m + 1 : Nat) : Int) - 1) = (m : Int) := by rw [wrap_ok (by omega) (by omega)]; omega
          simp only [e1, e2]
          refine Ev.ifp (by omega) (Ev.ifp (by omega) ?_)
          obtain ⟨p, p1, p2, p3, p4, p5, p6⟩ := sc_split _ s.toList 0 (Nat.le_refl _) h0 m hml
          rw [Nat.zero_add] at p2 p5 p6
          rw [len_list] at p1
          have hr : rd_T30 (sc s.toList 0).1 (m : Int) = (sc s.toList 0).1[m] := (rd_drop (List.drop_eq_getElem_cons hml)).1
          rw [hr, ← p2, wrap_ok (by omega) (by omega)]
          exact last_part s hs a2 ha2 p (m + 1) p1 p3 p4 p5 p6
        · rw [decide_eq_false hw]
          exact hfirst
      · exact Ev.ifn hl0 hfirst
    · exact Ev.bc (lex_bad (show s.size ≤ 4000 by omega) h0) (Ev.ifn h0 (Ev.val rfl))
  · exact Ev.ifp (by simp; omega) (Ev.bc awake_true (Ev.val rfl))

end Go.Proofs.Ytkomgnaleocleaa.Pure
