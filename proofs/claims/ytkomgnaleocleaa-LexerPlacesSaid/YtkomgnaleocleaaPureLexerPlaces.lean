/- LexerPlaces: for every text, each token stands at its offset, and only blanks stand between, before and after tokens. -/
import Derived.Test.YtkomgnaleocleaaPAllx5
import Derived.Test.YtkomgnaleocleaaLexQ
namespace Go.Proofs.Ytkomgnaleocleaa.Pure
open Go.RowKit Go.Proofs.Ytkomgnaleocleaa.PAll Go.Proofs.YtkomgnaleocleaaW.PrintWords Go.Proofs.YtkomgnaleocleaaW.PrintLast

theorem places_gap (s : ByteArray) (hs : s.size ≤ 4000) (ts : List S30) (i en : Nat) (r : Bool) (hto : en ≤ s.size)
    (h : Ev (fun k => cylinderlaw35_LexerPlaces.l1 k s ts (i : Int) (en : Int) (en : Int)) r) :
    ∀ (d x : Nat), x + d = en → (∀ c ∈ (s.toList.drop x).take d, blankB c = true) → Ev (fun k => cylinderlaw35_LexerPlaces.l1 k s ts (i : Int) (en : Int) (x : Int)) r
  | 0, x, hx, _ => by
    obtain rfl : x = en := by omega
    exact h
  | d + 1, x, hx, hb => by
    have hxs : x < s.toList.length := by rw [len_list]; omega
    refine Ev.step (fun k => by rw [cylinderlaw35_LexerPlaces.l1]) ?_
    refine Ev.ifp (by omega) (Ev.ifp (by omega) (Ev.ifp (by omega) ?_))
    have hbx : blankB s.toList[x] = true := hb _ (by rw [List.drop_eq_getElem_cons hxs, List.take_succ_cons]; exact List.mem_cons_self)
    have e : cylinderref35_Blank.f (bt s (x : Int)) = some true := by rw [bt_list s (by omega), blank_f, hbx]
    simp only [e, Option.bind_some, if_true]
    rw [wrap_ok (by omega) (by omega)]
    exact places_gap s hs ts i en r hto h d (x + 1) (by omega) (fun c hc => hb c (by rw [List.drop_eq_getElem_cons hxs, List.take_succ_cons]; exact List.mem_cons_of_mem _ hc))

theorem places_loop (s : ByteArray) (hs : s.size ≤ 4000) (ts : List S30) (hts : ts.length ≤ 4000) : ∀ (d x i : Nat), i + d = ts.length → x ≤ s.size →
    ts.drop i = (sc (s.toList.drop x) x).1 → (sc (s.toList.drop x) x).2.2 = 0 → Ev (fun k => cylinderlaw35_LexerPlaces.l0 k s ts (x : Int) (i : Int)) true := by
  intro d
  induction d with
  | zero =>
    intro x i hi hx hd h0
    refine Ev.step (fun k => by rw [cylinderlaw35_LexerPlaces.l0]) ?_
    refine Ev.ifp (by omega) (Ev.ifn (by omega) ?_)
    rw [show i = ts.length by omega, List.drop_length] at hd
    rcases sc_step (s.toList.drop x) x with ⟨h1, h2⟩ | ⟨b, r, h1, h2, h3, h4, h5, h6⟩ | ⟨b, n, k, h1, h2, h3, h4, h5, h6⟩
    · refine Ev.step (fun k => by rw [cylinderlaw35_LexerPlaces.j2]) ?_
      refine Ev.ifn (by omega) ?_
      refine Ev.step (fun k => by rw [cylinderlaw35_LexerPlaces.j3]) ?_
      refine Ev.ifn (by simp) ?_
      refine places_gap s hs ts i s.size true (Nat.le_refl _) ?_ (s.size - x) x (by omega) (fun c hc => h1 c (List.mem_of_mem_take hc))
      refine Ev.step (fun k => by rw [cylinderlaw35_LexerPlaces.l1]) ?_
      exact Ev.ifn (by omega) (Ev.ifp (by omega) (Ev.some rfl))
    · rw [h6] at h0; exact absurd h0 h3
    · rw [h6] at hd; cases hd
  | succ d ih =>
    intro x i hi hx hd h0
    refine Ev.step (fun k => by rw [cylinderlaw35_LexerPlaces.l0]) ?_
    refine Ev.ifp (by omega) (Ev.ifp (by omega) (Ev.ifp (by omega) ?_))
    rcases sc_step (s.toList.drop x) x with ⟨h1, h2⟩ | ⟨b, r, h1, h2, h3, h4, h5, h6⟩ | ⟨b, n, k, h1, h2, h3, h4, h5, h6⟩
    · rw [h2] at hd
      have := congrArg List.length hd
      rw [List.length_drop] at this
      simp at this; omega
    · rw [h6] at h0; exact absurd h0 h3
    · rw [h6] at hd h0
      obtain ⟨e1, e2, e3⟩ := rd_drop hd
      rw [List.length_drop, len_list] at h1
      have ez : ((s.toList.drop x).drop b).take n = ((s.toList.take (x + b + n)).drop (x + b)) := by
        rw [List.drop_drop, List.drop_take, show x + b + n - (x + b) = n by omega]
      have el : (((s.toList.drop x).drop b).take n).length = n := by
        rw [List.length_take, List.length_drop, List.length_drop, len_list]; omega
      have ef2 : (rd_T30 ts (i : Int)).f2 = ((x + b : Nat) : Int) := by rw [e1]; rfl
      have ef1 : ((rd_T30 ts (i : Int)).f1.size : Int) = (n : Int) := by rw [e1, tk_size, el]
      have ef3 : (rd_T30 ts (i : Int)).f1.toList = (s.toList.take (x + b + n)).drop (x + b) := by rw [e1, tk_list, ez]
      simp only [ef2]
      refine Ev.step (fun k => by rw [cylinderlaw35_LexerPlaces.j2]) ?_
      refine Ev.ifn (by omega) ?_
      refine Ev.step (fun k => by rw [cylinderlaw35_LexerPlaces.j3]) ?_
      refine Ev.ifn (by simp; omega) ?_
      refine places_gap s hs ts i (x + b) true (by omega) ?_ b x rfl h3
      refine Ev.step (fun k => by rw [cylinderlaw35_LexerPlaces.l1]) ?_
      refine Ev.ifn (by omega) (Ev.ifn (by omega) (Ev.ifp (by omega) (Ev.ifp (by omega) ?_)))
      simp only [ef1, ef3]
      rw [wrap_ok (show -9223372036854775808 ≤ (s.size : Int) - ((x + b : Nat) : Int) by omega) (by omega), wrap_ok (show -9223372036854775808 ≤ ((x + b : Nat) : Int) + (n : Int) by omega) (by omega), wrap_ok (show -9223372036854775808 ≤ (i : Int) + 1 by omega) (by omega)]
      refine Ev.ifn (by omega) (Ev.ifn (by omega) (Ev.ifp (by omega) (Ev.ifp (by omega) (Ev.ifp (by omega) (Ev.ifp ?_ ?_)))))
      · rw [mid_list]
        have g1 : (((x + b : Nat) : Int) + (n : Int)).toNat = x + b + n := by omega
        rw [g1, Int.toNat_natCast]
      · have := ih (x + b + n) (i + 1) (by omega) (by omega) (by rw [e3, List.drop_drop, show x + (b + n) = x + b + n by omega]) (by have h0' : (sc ((s.toList.drop x).drop (b + n)) (x + b + n)).2.2 = 0 := h0; rw [List.drop_drop, show x + (b + n) = x + b + n by omega] at h0'; exact h0')
        rw [show ((x + b + n : Nat) : Int) = ((x + b : Nat) : Int) + (n : Int) by omega, show ((i + 1 : Nat) : Int) = (i : Int) + 1 by omega] at this
        exact this

theorem LexerPlaces : cylinderlaw35_LexerPlaces.Pure := by
  intro s _
  refine Ev.rounds (g := fun k => cylinderlaw35_LexerPlaces.f k s) ?_
  unfold cylinderlaw35_LexerPlaces.f
  simp only [awake_true, Option.bind_some, if_true]
  refine Ev.step (fun k => by rw [cylinderlaw35_LexerPlaces.j0]) ?_
  simp only [awake_true, Option.bind_some]
  by_cases hs : s.size ≤ 4000
  · refine Ev.ifn (by simp; omega) ?_
    by_cases h0 : (sc s.toList 0).2.2 = 0
    · simp only [lex_ok hs h0, Option.bind_some, if_true]
      exact places_loop s hs _ (by have := sc_len' s; omega) _ 0 0 (Nat.zero_add _) (Nat.zero_le _) (by rw [List.drop_zero, List.drop_zero]) (by rw [List.drop_zero]; exact h0)
    · simp only [lex_bad hs h0, Option.bind_some]
      exact Ev.ifn h0 (Ev.some rfl)
  · exact Ev.ifp (by simp; omega) (Ev.some rfl)

end Go.Proofs.Ytkomgnaleocleaa.Pure
