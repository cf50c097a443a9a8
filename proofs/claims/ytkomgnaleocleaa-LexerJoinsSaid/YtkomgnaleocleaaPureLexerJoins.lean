/- LexerJoins: Join accepts exactly lists of tokens, and the tokens of its result are the list. -/
import Derived.Test.YtkomgnaleocleaaPAllx12
import Derived.Test.YtkomgnaleocleaaLexS
namespace Go.Proofs.Ytkomgnaleocleaa.Pure
set_option linter.unusedVariables false
set_option linter.unusedSimpArgs false
open Go.RowKit Go.Proofs.Ytkomgnaleocleaa.PAll Go.Proofs.YtkomgnaleocleaaW.PrintWords Go.Proofs.YtkomgnaleocleaaW.PrintLast

theorem kind_head {c : UInt8} {cs : List UInt8} (h : kindL (c :: cs) ≠ 0) : blankB c = false ∧ lonL (c :: cs) = (c :: cs).length := by
  have hp := (kind_pos (c := c) (cs := cs) (n := (c :: cs).length) (by simp) (Nat.le_refl _)).1 (by rw [List.take_length]; exact h)
  have hle := lon_le (c :: cs)
  refine ⟨?_, by omega⟩
  cases hb : blankB c with
  | false => rfl
  | true =>
    exfalso
    have hn : lonL (c :: cs) ≠ 0 := by simp only [List.length_cons] at hp; omega
    have key : ∀ c : UInt8, blankB c = true → digB c = false ∧ letterI c.toNat = false ∧ c ∉ ([43, 45, 42, 94, 40, 41, 61, 60, 62, 44, 46] : List UInt8) ∧ c ≠ 60 ∧ c ≠ 62 := by
      intro c hc
      unfold blankB at hc
      simp only [Bool.or_eq_true, beq_iff_eq] at hc
      rcases hc with ((rfl | rfl) | rfl) | rfl <;> decide
    obtain ⟨k1, k2, k3, k4, k5⟩ := key c hb
    apply hn
    simp only [lonL]
    rw [if_neg (by rw [k1]; decide), if_neg (by rw [k2]; decide), if_neg, if_neg k3]
    intro h'
    rcases h' with h' | h' | h' <;> (cases cs <;> simp at h' <;> simp_all)

/-- A text that the reference calls a token is scanned as that one token. -/
theorem tok_sc {l : List UInt8} {K : Int} (h1 : kindL l ≠ 0) (h2 : kindL l = K) (h3 : wroL l = 0) (a : Nat) : sc l a = ([tk K l a], 0, 0) := by
  cases l with
  | nil => exact absurd rfl h1
  | cons c cs =>
    obtain ⟨hb, hl⟩ := kind_head h1
    have hn := (nxt_ref (c := c) (cs := cs)).2.2 (by rw [hl]; simp) (by rw [hl, List.take_length]; exact h3)
    rw [hl, List.take_length, h2] at hn
    rw [sc_tok hb (by rw [hn]), hn]
    simp only
    rw [List.take_length, List.drop_length, sc_nil]
    rfl
theorem sc_tok1 {l : List UInt8} {K : Int} {t : S30} (h0 : (sc l 0).2.2 = 0) (h1 : (sc l 0).1 = [t]) (h2 : t.f0 = K) (h3 : t.f1.toList = l) : kindL l ≠ 0 ∧ kindL l = K ∧ wroL l = 0 := by
  rcases sc_step l 0 with ⟨_, g2⟩ | ⟨b, r, _, _, _, _, _, g6⟩ | ⟨b, n, k, g1, g2, _, g4, g5, g6⟩
  · rw [g2] at h1; cases h1
  · rw [g6] at h1; cases h1
  · rw [g6] at h1
    obtain ⟨e1, e2⟩ := List.cons.inj h1
    subst e1
    rw [tk_list] at h3
    have e3 := congrArg List.length h3
    simp only [List.length_take, List.length_drop] at e3
    obtain rfl : b = 0 := by omega
    obtain rfl : n = l.length := by omega
    rw [List.drop_zero] at g4 g5
    obtain ⟨c, cs, rfl, hb⟩ := g5
    have hr := nxt_ref (c := c) (cs := cs)
    by_cases q1 : lonL (c :: cs) = 0
    · rw [hr.1 q1] at g4; simp at g4
    by_cases q2 : wroL ((c :: cs).take (lonL (c :: cs))) = 0
    · rw [hr.2.2 q1 q2] at g4
      simp only [Prod.mk.injEq, and_true] at g4
      have hl := g4.2
      rw [hl, List.take_length] at q2
      have hk := g4.1
      rw [hl, List.take_length] at hk
      refine ⟨?_, by rw [hk]; exact h2, q2⟩
      have := (kind_pos (c := c) (cs := cs) (n := (c :: cs).length) (by simp) (Nat.le_refl _)).2 (by omega)
      rwa [List.take_length] at this
    · have := hr.2.1 q1 q2
      rw [g4] at this
      exact absurd this.symm q2
theorem ok_iff (t : S30) (hs : t.f1.size ≤ 60) : okTok t ↔ (kindL t.f1.toList ≠ 0 ∧ kindL t.f1.toList = t.f0 ∧ wroL t.f1.toList = 0) := by
  unfold okTok lexOf
  rw [if_neg (by omega)]
  constructor
  · rintro ⟨h1, h2, h3, h4⟩
    by_cases he : (sc t.f1.toList 0).2.2 = 0
    · rw [if_pos he] at h1 h2 h3 h4
      obtain ⟨u, hu⟩ := List.length_eq_one_iff.1 h2
      simp only at h2 h3 h4 hu
      rw [hu] at h3 h4
      exact sc_tok1 he hu h3 (by have := congrArg ByteArray.toList h4; exact this)
    · rw [if_neg he] at h2; simp at h2
  · rintro ⟨h1, h2, h3⟩
    rw [tok_sc h1 h2 h3 0]
    refine ⟨rfl, rfl, rfl, ?_⟩
    show (⟨t.f1.toList.toArray⟩ : ByteArray) = t.f1
    rw [ByteArray.toList_eq]

/-! ### the joined text's tokens -/
def KT (t : S30) : Int × List UInt8 := (t.f0, t.f1.toList)
theorem join_sc : ∀ (r : List S30) (i : Nat) (acc b : List UInt8) (us : List S30), (∀ t ∈ r, t.f1.size ≤ 60) → sc acc 0 = (us, 0, 0) → (i = 0 → acc = []) → joinFrom i acc r = some b →
    ∃ us', sc b 0 = (us ++ us', 0, 0) ∧ us'.map KT = r.map KT := by
  intro r
  induction r with
  | nil =>
    intro i acc b us _ h0 _ h
    simp only [joinFrom, Option.some.injEq] at h
    subst h
    exact ⟨[], by rw [h0]; simp, rfl⟩
  | cons t r ih =>
    intro i acc b us hr h0 hi h
    rw [joinFrom] at h
    by_cases ht : okTok t
    · rw [if_pos ht] at h
      obtain ⟨k1, k2, k3⟩ := (ok_iff t (hr t (List.mem_cons_self))).1 ht
      have hstep : ∃ a, sc ((if 0 < i then acc ++ [32] else acc) ++ t.f1.toList) 0 = (us ++ [tk t.f0 t.f1.toList a], 0, 0) := by
        by_cases hi0 : 0 < i
        · rw [if_pos hi0]
          have hw := (sc_two (c := 32) rfl t.f1.toList acc.length acc 0 (Nat.le_refl _)).1 (by rw [h0])
          rw [List.append_assoc]
          refine ⟨0 + acc.length + 1, ?_⟩
          show sc (acc ++ 32 :: t.f1.toList) 0 = _
          rw [hw, tok_sc k1 k2 k3, h0]
        · rw [if_neg hi0]
          have : acc = [] := hi (by omega)
          subst this
          rw [sc_nil] at h0
          have hu : us = [] := by have := congrArg (·.1) h0; exact this.symm
          subst hu
          exact ⟨0, by rw [List.nil_append, tok_sc k1 k2 k3]; rfl⟩
      obtain ⟨a, hstep⟩ := hstep
      obtain ⟨us', e1, e2⟩ := ih (i + 1) _ b _ (fun t ht => hr t (List.mem_cons_of_mem _ ht)) hstep (by omega) h
      refine ⟨tk t.f0 t.f1.toList a :: us', by rw [e1]; simp, ?_⟩
      rw [List.map_cons, List.map_cons, e2]
      congr 1
      simp only [KT, tk_list]
      rfl
    · rw [if_neg ht] at h; cases h

/-! ### the reference's Join -/
theorem isTok_ev (t : S30) (hs : t.f1.size ≤ 60) : Ev (fun k => cylinderref35_IsToken.f k t.f0 t.f1 t.f2) (decide (okTok t)) := by
  have hi := ok_iff t hs
  unfold cylinderref35_IsToken.f
  refine Ev.bind (kind_ev t.f1 (by omega)) ?_
  by_cases h1 : kindL t.f1.toList = 0
  · exact Ev.ifp h1 (Ev.val (decide_eq_false (fun h => (hi.1 h).1 h1)).symm)
  · refine Ev.ifn h1 (Ev.bind (kind_ev t.f1 (by omega)) ?_)
    by_cases h2 : kindL t.f1.toList = t.f0
    · refine Ev.ifp h2 (Ev.bind (wrong_ev t.f1 (by omega)) (Ev.val ?_))
      by_cases h3 : wroL t.f1.toList = 0
      · rw [decide_eq_true (hi.2 ⟨h1, h2, h3⟩), h3]; rfl
      · rw [decide_eq_false (fun h => h3 (hi.1 h).2.2)]
        exact beq_eq_false_iff_ne.2 h3
    · exact Ev.ifn h2 (Ev.val (decide_eq_false (fun h => h2 (hi.1 h).2.1)).symm)

def fin (o : Option (List UInt8)) : ByteArray × Int := match o with
  | none => (⟨#[]⟩, 9)
  | some b => if 4000 < b.length then (⟨#[]⟩, 9) else (⟨b.toArray⟩, 0)

theorem mk_app (a : List UInt8) (s : ByteArray) : (⟨a.toArray⟩ : ByteArray) ++ s = ⟨(a ++ s.toList).toArray⟩ := by
  apply ByteArray.ext
  simp [ByteArray.toList_eq]
theorem mk_sp (a : List UInt8) : (⟨a.toArray⟩ : ByteArray) ++ (⟨#[32]⟩ : ByteArray) = ⟨(a ++ [32]).toArray⟩ := by
  apply ByteArray.ext
  simp
theorem mk_size (a : List UInt8) : (⟨a.toArray⟩ : ByteArray).size = a.length := by simp [ByteArray.size]

theorem refJoin_loop (l0 : List S30) (hl : l0.length ≤ 200) (hs : ∀ t ∈ l0, t.f1.size ≤ 60) : ∀ (d i : Nat) (acc : List UInt8), i + d = l0.length → acc.length ≤ 61 * i →
    Ev (fun k => cylinderref35_Join.l0 k l0 ⟨acc.toArray⟩ (l0.length : Int) (i : Int)) (fin (joinFrom i acc (l0.drop i))) := by
  intro d
  induction d with
  | zero =>
    intro i acc hi ha
    refine Ev.step (fun k => by rw [cylinderref35_Join.l0]) ?_
    refine Ev.ifn (by omega) ?_
    obtain rfl : i = l0.length := by omega
    rw [List.drop_length, joinFrom, mk_size]
    unfold fin
    by_cases h : 4000 < acc.length
    · exact Ev.ifp (by omega) (Ev.val (if_pos h).symm)
    · exact Ev.ifn (by omega) (Ev.val (if_neg h).symm)
  | succ d ih =>
    intro i acc hi ha
    have hlt : i < l0.length := by omega
    have hrd : rd_T30 l0 (i : Int) = l0[i] := by simp [rd_T30, hlt]
    obtain ⟨t, ht⟩ : ∃ t, l0[i] = t := ⟨_, rfl⟩
    have hz : t.f1.size ≤ 60 := hs t (ht ▸ List.getElem_mem hlt)
    have hz2 := len_list t.f1
    have hd : joinFrom i acc (l0.drop i) = if okTok t then joinFrom (i + 1) ((if 0 < i then acc ++ [32] else acc) ++ t.f1.toList) (l0.drop (i + 1)) else none := by
      rw [List.drop_eq_getElem_cons hlt, ht, joinFrom]
    rw [hd]
    refine Ev.step (fun k => by rw [cylinderref35_Join.l0]) ?_
    rw [hrd, ht]
    refine Ev.ifp (by omega) (Ev.ifp (by omega) (Ev.ifp (by omega) (Ev.bind (isTok_ev t hz) ?_)))
    by_cases hk : okTok t
    · rw [if_pos hk]
      refine Ev.ifp (decide_eq_true hk) ?_
      rw [wrap_ok (by omega) (by omega)]
      by_cases h0 : 0 < i
      · have := ih (i + 1) ((acc ++ [32]) ++ t.f1.toList) (by omega) (by simp only [List.length_append, List.length_cons, List.length_nil]; omega)
        rw [if_pos h0]
        refine Ev.ifp (by omega) (Ev.ifp (by rw [mk_size]; omega) (Ev.ifp (by rw [mk_sp, mk_size]; simp only [List.length_append, List.length_cons, List.length_nil]; omega) ?_))
        rw [mk_sp, mk_app, show (i : Int) + 1 = ((i + 1 : Nat) : Int) by omega]
        exact this
      · have := ih (i + 1) (acc ++ t.f1.toList) (by omega) (by simp only [List.length_append]; omega)
        rw [if_neg h0]
        refine Ev.ifn (by omega) (Ev.ifp (by rw [mk_size]; omega) ?_)
        rw [mk_app, show (i : Int) + 1 = ((i + 1 : Nat) : Int) by omega]
        exact this
    · rw [if_neg hk]
      exact Ev.ifn (by rw [decide_eq_false hk]; decide) (Ev.val rfl)
theorem refJoin_ev (l0 : List S30) (hl : l0.length ≤ 200) (hs : ∀ t ∈ l0, t.f1.size ≤ 60) : Ev (fun k => cylinderref35_Join.f k l0) (joinOf l0) := by
  have := refJoin_loop l0 hl hs l0.length 0 [] (Nat.zero_add _) (by simp)
  rw [List.drop_zero] at this
  have e : joinOf l0 = fin (joinFrom 0 [] l0) := rfl
  rw [e]
  exact this

/-! ### Same, of two lists of one reading -/
theorem same2_loop (xs ys : List S30) (hx : xs.length ≤ 5000) (h : xs.map KT = ys.map KT) : ∀ (d i : Nat), i + d = xs.length → Ev (fun k => cylinderref35_Same.l0 k xs ys false ((xs.length : Nat) : Int) (i : Int)) true := by
  have hl : xs.length = ys.length := by have := congrArg List.length h; simpa using this
  intro d
  induction d with
  | zero =>
    intro i hi
    refine Ev.step (fun k => by rw [cylinderref35_Same.l0]) ?_
    exact Ev.ifn (by omega) (Ev.val rfl)
  | succ d ih =>
    intro i hi
    have hn := ih (i + 1) (by omega)
    rw [show ((i + 1 : Nat) : Int) = (i : Int) + 1 by omega] at hn
    have hi1 : i < xs.length := by omega
    have hi2 : i < ys.length := by omega
    have e : KT (rd_T30 xs (i : Int)) = KT (rd_T30 ys (i : Int)) := by
      have e0 := congrArg (fun l => l[i]?) h
      simp only [List.getElem?_map, List.getElem?_eq_getElem hi1, List.getElem?_eq_getElem hi2, Option.map_some, Option.some.injEq] at e0
      simpa [rd_T30, hi1, hi2] using e0
    simp only [KT, Prod.mk.injEq] at e
    refine Ev.step (fun k => by rw [cylinderref35_Same.l0]) ?_
    rw [wrap_ok (by omega) (by omega)]
    exact Ev.ifp (by omega) (Ev.ifp (by omega) (Ev.ifp (by omega) (Ev.ifp (by omega) (Ev.ifp e.1 (Ev.ifp e.2 (Ev.ifn (by decide) hn))))))
theorem same2_ev (xs ys : List S30) (hx : xs.length ≤ 5000) (h : xs.map KT = ys.map KT) : Ev (fun k => cylinderref35_Same.f k xs ys false) true := by
  have hl : xs.length = ys.length := by have := congrArg List.length h; simpa using this
  unfold cylinderref35_Same.f
  exact Ev.ifp (by omega) (same2_loop xs ys hx h xs.length 0 (Nat.zero_add _))

/-! ### the law -/
theorem joins_end (l0 : List S30) (hl : l0.length ≤ 200) (hs : ∀ t ∈ l0, t.f1.size ≤ 60) :
    Ev (fun k => (lexer_Join.f l0).bind fun bt285 => ((cylinderref35_Join.f k l0).bind fun bt287 => (if bt285.2 = bt287.2 then (cylinderlaw35_LexerJoins.j2 k l0 bt285.1 bt285.2 (bt285.1.toList != bt287.1.toList)) else (cylinderlaw35_LexerJoins.j2 k l0 bt285.1 bt285.2 true)))) true := by
  have hj : lexer_Join.f l0 = some (joinOf l0) := by unfold lexer_Join.f; rw [if_pos (by omega)]
  refine Ev.bc hj (Ev.bind (refJoin_ev l0 hl hs) (Ev.ifp rfl ?_))
  have hne : ((joinOf l0).1.toList != (joinOf l0).1.toList) = false := bne_self_eq_false _
  rw [hne]
  refine Ev.step (fun k => by rw [cylinderlaw35_LexerJoins.j2]) ?_
  refine Ev.ifn (by decide) ?_
  cases hJ : joinFrom 0 [] l0 with
  | none =>
    have e : joinOf l0 = (⟨#[]⟩, 9) := by unfold joinOf; rw [hJ]
    rw [e]
    exact Ev.ifn (by decide) (Ev.val rfl)
  | some b =>
    by_cases hb : 4000 < b.length
    · have e : joinOf l0 = (⟨#[]⟩, 9) := by unfold joinOf; rw [hJ]; exact if_pos hb
      rw [e]
      exact Ev.ifn (by decide) (Ev.val rfl)
    · have e : joinOf l0 = (⟨b.toArray⟩, 0) := by unfold joinOf; rw [hJ]; exact if_neg hb
      obtain ⟨us, e1, e2⟩ := join_sc l0 0 [] b [] hs (sc_nil 0) (fun _ => rfl) hJ
      rw [List.nil_append] at e1
      have hbl : (⟨b.toArray⟩ : ByteArray).toList = b := by rw [ByteArray.toList_eq]
      have hx : lexer_Lex.f ⟨b.toArray⟩ = some (us, 0, 0) := by
        have := lex_ok (s := ⟨b.toArray⟩) (by rw [mk_size]; omega) (by rw [hbl, e1])
        rw [hbl, e1] at this
        exact this
      rw [e]
      have hul : us.length ≤ 200 := by have := congrArg List.length e2; simp only [List.length_map] at this; omega
      exact Ev.ifp rfl (Ev.bc hx (Ev.ifp rfl (Ev.ifp rfl (Ev.bind (same2_ev us l0 (by omega) e2) (Ev.val rfl)))))

theorem joins_loop (l0 : List S30) (hl : l0.length ≤ 200) : ∀ (d i : Nat), i + d = l0.length → (∀ j (h : j < i) (h' : j < l0.length), (l0[j]).f1.size ≤ 60) → Ev (fun k => cylinderlaw35_LexerJoins.l0 k l0 (l0.length : Int) (i : Int)) true := by
  intro d
  induction d with
  | zero =>
    intro i hi hs
    refine Ev.step (fun k => by rw [cylinderlaw35_LexerJoins.l0]) ?_
    refine Ev.ifn (by omega) (joins_end l0 hl ?_)
    intro t ht
    obtain ⟨j, hj, rfl⟩ := List.getElem_of_mem ht
    exact hs j (by omega) hj
  | succ d ih =>
    intro i hi hs
    have hlt : i < l0.length := by omega
    have hrd : rd_T30 l0 (i : Int) = l0[i] := by simp [rd_T30, hlt]
    refine Ev.step (fun k => by rw [cylinderlaw35_LexerJoins.l0]) ?_
    rw [hrd]
    refine Ev.ifp (by omega) (Ev.ifp (by omega) (Ev.ifp (by omega) ?_))
    by_cases h : 60 < (l0[i]).f1.size
    · exact Ev.ifp (by omega) (Ev.val rfl)
    · refine Ev.ifn (by omega) ?_
      rw [wrap_ok (by omega) (by omega), show (i : Int) + 1 = ((i + 1 : Nat) : Int) by omega]
      refine ih (i + 1) (by omega) (fun j hj hj' => ?_)
      rcases Nat.lt_or_ge j i with h' | h'
      · exact hs j h' hj'
      · obtain rfl : j = i := by omega
        omega

theorem LexerJoins (l0 : List S30) : ∃ k, cylinderlaw35_LexerJoins.f k l0 = some true := by
  refine Ev.rounds ?_
  unfold cylinderlaw35_LexerJoins.f
  refine Ev.bc awake_true (Ev.ifp rfl ?_)
  refine Ev.step (fun k => by rw [cylinderlaw35_LexerJoins.j0]) ?_
  by_cases h : 200 < l0.length
  · exact Ev.ifp (decide_eq_true (by omega)) (Ev.bc awake_true (Ev.val rfl))
  · refine Ev.ifn (by rw [decide_eq_false (by omega)]; decide) ?_
    exact joins_loop l0 (by omega) l0.length 0 (Nat.zero_add _) (fun j hj => absurd hj (Nat.not_lt_zero _))
end Go.Proofs.Ytkomgnaleocleaa.Pure
