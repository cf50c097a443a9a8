/- cylinderref34.Parts, Bound; texts: what they answer. -/
import Derived.Test.YtddpojinlapmfaaPRefRG
import Derived.Test.YtddpojinlapmfaaPRefRI
import Derived.Test.YtddpojinlapmfaaLinkA
namespace Go.Proofs.Ytddpojinlapmfaa.PRef
set_option linter.unusedVariables false
set_option linter.unusedSimpArgs false
open Go.RowKit Go.Proofs.YtddpojinlapmfaaW.PrintWords Go.Proofs.YtddpojinlapmfaaW.PrintLast Go.Proofs.YtddpojinlapmfaaW.PrintMore

theorem fstL_at (l : List (S29 × Int)) (i : Nat) (h : i < l.length) : rd_T29 (fstL l) (i : Int) = l[i].1 := by simp [rd_T29, fstL, h]
theorem sndL_at (l : List (S29 × Int)) (i : Nat) (h : i < l.length) : rd (sndL l) (i : Int) = l[i].2 := by simp [rd, sndL, h]
theorem partL_len (x : S29) (d : Int) : (partL x d).length ≤ sizeS x := Nat.le_trans (List.length_filter_le _ _) (by rw [listS_len]; exact Nat.le_refl _)

theorem partsL_ev (l : List (S29 × Int)) (hl : l.length ≤ 1000000) : ∀ (m i : Nat), i + m = l.length →
    Ev (fun k => cylinderref34_Parts.l0 k (fstL l) (sndL l) (fstL ((l.take i).filter (fun p => !isT p.1.f0))) (sndL ((l.take i).filter (fun p => !isT p.1.f0))) (l.length : Int) (i : Int)) (fstL (l.filter (fun p => !isT p.1.f0)), sndL (l.filter (fun p => !isT p.1.f0))) := by
  have e1 : (fstL l).length = l.length := by simp [fstL]
  have e2 : (sndL l).length = l.length := by simp [sndL]
  intro m
  induction m with
  | zero =>
    intro i hi
    rw [List.take_of_length_le (by omega)]
    exact Ev.step (fun k => by rw [cylinderref34_Parts.l0]) (Ev.ifn (by omega) (Ev.val rfl))
  | succ m ih =>
    intro i hi
    have hlt : i < l.length := by omega
    have hf : ((l.take i).filter (fun p => !isT p.1.f0)).length ≤ 1000000 := Nat.le_trans (List.length_filter_le _ _) (by simp; omega)
    have h1 : (fstL ((l.take i).filter (fun p => !isT p.1.f0))).length ≤ 1000000 := by simpa [fstL] using hf
    have h2 : (sndL ((l.take i).filter (fun p => !isT p.1.f0))).length ≤ 1000000 := by simpa [sndL] using hf
    have hn := ih (i + 1) (by omega)
    rw [List.take_succ_eq_append_getElem hlt, List.filter_append] at hn
    refine Ev.step (fun k => by rw [cylinderref34_Parts.l0]) (Ev.ifp (by omega) (Ev.ifp (by omega) (Ev.ifp (by omega) (Ev.bc (isTerm_is _) ?_))))
    rw [fstL_at _ _ hlt, wrap_succ (by omega)]
    cases ht : isT l[i].1.f0 with
    | true =>
      refine Ev.ifp rfl ?_
      simpa [ht, fstL, sndL] using hn
    | false =>
      refine Ev.ifn (by decide) (Ev.ifp (by omega) (Ev.ifp (by omega) (Ev.ifp (by omega) ?_)))
      rw [sndL_at _ _ hlt]
      simp only [eta29]
      simpa [ht, fstL, sndL] using hn
abbrev partsF (k : Nat) (x : S29) := cylinderref34_Parts.f k x.f0 x.f1.f0 x.f1.f1 x.f2 x.f3 x.f4 x.f5 x.f6 x.f7
theorem parts_ev (x : S29) (hx : sizeS x ≤ 1000000) : Ev (fun k => partsF k x) (fstL (partL x 0), sndL (partL x 0)) := by
  refine Ev.congr (fun k => by unfold partsF; rw [cylinderref34_Parts.f]) (Ev.bind (list_ev x 0 hx (by omega) (by omega)) ?_)
  have := partsL_ev (listS x 0) (by rw [listS_len]; exact hx) (listS x 0).length 0 (by omega)
  have e1 : (fstL (listS x 0)).length = (listS x 0).length := by simp [fstL]
  dsimp only
  rw [e1]
  simp only [List.take_zero, List.filter_nil] at this
  exact this
theorem boundL_ev (l : List S29) (hl : l.length ≤ 1000000) : ∀ (m i : Nat), i + m = l.length →
    Ev (fun k => cylinderref34_Bound.l0 k (((l.take i).filter (fun y => decide (y.f0 = 15))).map (fun y => y.f2)) l (l.length : Int) (i : Int)) ((l.filter (fun y => decide (y.f0 = 15))).map (fun y => y.f2)) := by
  intro m
  induction m with
  | zero =>
    intro i hi
    rw [List.take_of_length_le (by omega)]
    exact Ev.step (fun k => by rw [cylinderref34_Bound.l0]) (Ev.ifn (by omega) (Ev.val rfl))
  | succ m ih =>
    intro i hi
    have hlt : i < l.length := by omega
    have h1 : (((l.take i).filter (fun y => decide (y.f0 = 15))).map (fun y => y.f2)).length ≤ 1000000 := by
      rw [List.length_map]; exact Nat.le_trans (List.length_filter_le _ _) (by simp; omega)
    have hn := ih (i + 1) (by omega)
    rw [List.take_succ_eq_append_getElem hlt, List.filter_append, List.map_append] at hn
    refine Ev.step (fun k => by rw [cylinderref34_Bound.l0]) (Ev.ifp (by omega) (Ev.ifp (by omega) (Ev.ifp (by omega) ?_)))
    rw [rd29_at _ _ hlt, wrap_succ (by omega)]
    by_cases h15 : l[i].f0 = 15
    · refine Ev.ifp h15 (Ev.ifp (by omega) ?_)
      simpa [h15] using hn
    · refine Ev.ifn h15 ?_
      simpa [h15] using hn
abbrev boundF (k : Nat) (x : S29) := cylinderref34_Bound.f k x.f0 x.f1.f0 x.f1.f1 x.f2 x.f3 x.f4 x.f5 x.f6 x.f7
theorem bound_ev (x : S29) (hx : sizeS x ≤ 1000000) : Ev (fun k => boundF k x) (boundS x) := by
  refine Ev.congr (fun k => by unfold boundF; rw [cylinderref34_Bound.f]) (Ev.bind (parts_ev x hx) ?_)
  have := boundL_ev (fstL (partL x 0)) (by have := partL_len x 0; simp [fstL]; omega) (fstL (partL x 0)).length 0 (by omega)
  exact this
theorem texts_ev (l m : List ByteArray) (hl : l.length ≤ 1000000) : Ev (fun k => cylinderlaw34_texts.f k l m) (decide (l = m)) := by
  by_cases hlm : l.length = m.length
  · refine Ev.congr (fun k => by rw [cylinderlaw34_texts.f]) (Ev.ifp (by omega) ?_)
    have key : ∀ (n i : Nat), i + n = l.length → Ev (fun k => cylinderlaw34_texts.l0 k l m (l.length : Int) (i : Int)) (decide (l.drop i = m.drop i)) := by
      intro n
      induction n with
      | zero =>
        intro i hi
        rw [List.drop_of_length_le (by omega), List.drop_of_length_le (by omega)]
        exact Ev.step (fun k => by rw [cylinderlaw34_texts.l0]) (Ev.ifn (by omega) (Ev.val (by simp)))
      | succ n ih =>
        intro i hi
        have hlt : i < l.length := by omega
        have hmt : i < m.length := by omega
        rw [List.drop_eq_getElem_cons hlt, List.drop_eq_getElem_cons hmt]
        refine Ev.step (fun k => by rw [cylinderlaw34_texts.l0]) (Ev.ifp (by omega) (Ev.ifp (by omega) (Ev.ifp (by omega) (Ev.ifp (by omega) ?_))))
        rw [rdOf_at (d := ByteArray.empty) l i hlt, rdOf_at (d := ByteArray.empty) m i hmt, wrap_succ (by omega)]
        by_cases hs : l[i] = m[i]
        · refine Ev.ifp (toList_inj.2 hs) (Ev.to ?_ (ih (i + 1) (by omega)))
          rw [hs]; simp only [List.cons.injEq, true_and]
        · exact Ev.ifn (fun h => hs (toList_inj.1 h)) (Ev.val (by simp only [List.cons.injEq, hs, false_and, decide_false]))
    have := key l.length 0 (by omega)
    simpa using this
  · exact Ev.congr (fun k => by rw [cylinderlaw34_texts.f]) (Ev.ifn (by omega) (Ev.val (by simp; intro h; exact hlm (by rw [h]))))

variable {x : S29} {A2 A8 : Option Addr} {c2 c8 : Nat} {w : World}
theorem refBound_any (hR : ReadR w x A2 c2 A8 c8) (hx : sizeS x ≤ 1000000) :
    Calls Try.prog 30 #[treeV x (.slice A2 x.f1.f1.length c2) (.slice A8 x.f7.length c8)] w fun e w' => ∃ A c, e = .returned (.slice A (boundS x).length c) ∧ Kd.string.R 9 w' w.heap.size (fun _ => True) (.slice A (boundS x).length c) (boundS x) ∧ Below w.heap.size w w' := by
  obtain ⟨k, hk⟩ := (bound_ev x hx).rounds
  refine (cylinderref34_Bound.calls k _ _ A2 c2 _ _ _ _ _ _ A8 c8 _ _ w hR.g2 hR.l2 hR.g8 hR.l8 hk).mono ?_
  rintro e w' ⟨v, rfl, h1, h2⟩
  obtain ⟨A, c, rfl⟩ := str_slice h1
  exact ⟨A, c, rfl, h1, h2⟩
theorem texts_any (A : Option Addr) (c : Nat) (l : List ByteArray) (B : Option Addr) (d : Nat) (m : List ByteArray) (w : World) (h1 : Kd.C Kd.string w A l.length l) (k1 : l.length ≤ c) (h2 : Kd.C Kd.string w B m.length m) (k2 : m.length ≤ d) (hl : l.length ≤ 1000000) :
    Calls Try.prog 26 #[.slice A l.length c, .slice B m.length d] w fun e w' => e = .returned (.bool (decide (l = m))) ∧ ∃ n, w' = w.drewN n := by
  obtain ⟨k, hk⟩ := (texts_ev l m hl).rounds
  exact (cylinderlaw34_texts.calls k A c l B d m _ w h1 k1 h2 k2 hk).mono fun _ _ h => ⟨h.1, h.2.out⟩
end Go.Proofs.Ytddpojinlapmfaa.PRef
