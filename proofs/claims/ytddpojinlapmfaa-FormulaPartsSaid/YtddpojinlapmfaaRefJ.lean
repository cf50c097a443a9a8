/- cylinderref34.Parts, Atoms, Nodes: contracts. -/
import Derived.Test.YtddpojinlapmfaaPRefRI
import Derived.Test.YtddpojinlapmfaaPRefRJ
import Derived.Test.YtddpojinlapmfaaRefI
import Derived.Test.YtddpojinlapmfaaLinkB
namespace Go.Proofs.Ytddpojinlapmfaa.PRef
set_option linter.unusedVariables false
set_option linter.unusedSimpArgs false
open Go.RowKit Go.Proofs.YtddpojinlapmfaaW.PrintWords Go.Proofs.YtddpojinlapmfaaW.PrintLast Go.Proofs.YtddpojinlapmfaaW.PrintMore

theorem atomsL_ev (l : List S29) (hl : l.length ≤ 1000000) : ∀ (m i : Nat), i + m = l.length →
    Ev (fun k => cylinderref34_Atoms.l0 k (((l.take i).countP (fun y => decide (y.f0 = 9)) : Nat) : Int) l (l.length : Int) (i : Int)) ((l.countP (fun y => decide (y.f0 = 9)) : Nat) : Int) := by
  intro m
  induction m with
  | zero =>
    intro i hi
    rw [List.take_of_length_le (by omega)]
    exact Ev.step (fun k => by rw [cylinderref34_Atoms.l0]) (Ev.ifn (by omega) (Ev.val rfl))
  | succ m ih =>
    intro i hi
    have hlt : i < l.length := by omega
    have hc := List.countP_le_length (p := fun y : S29 => decide (y.f0 = 9)) (l := l.take i)
    rw [List.length_take] at hc
    have hn := ih (i + 1) (by omega)
    rw [List.take_succ_eq_append_getElem hlt, List.countP_append] at hn
    refine Ev.step (fun k => by rw [cylinderref34_Atoms.l0]) (Ev.ifp (by omega) (Ev.ifp (by omega) (Ev.ifp (by omega) ?_)))
    rw [rd29_at _ _ hlt]
    by_cases h9 : l[i].f0 = 9
    · refine Ev.ifp h9 ?_
      rw [wrap_ok (by omega) (by omega), wrap_ok (by omega) (by omega)]
      simpa [h9] using hn
    · refine Ev.ifn h9 ?_
      rw [wrap_ok (by omega) (by omega)]
      simpa [h9] using hn
theorem refAtoms_ev (x : S29) (hx : sizeS x ≤ 1000000) : Ev (fun k => cylinderref34_Atoms.f k x.f0 x.f1.f0 x.f1.f1 x.f2 x.f3 x.f4 x.f5 x.f6 x.f7) (((fstL (partL x 0)).countP (fun y => decide (y.f0 = 9)) : Nat) : Int) := by
  refine Ev.congr (fun k => by rw [cylinderref34_Atoms.f]) (Ev.bind (parts_ev x hx) ?_)
  have := atomsL_ev (fstL (partL x 0)) (by have := partL_len x 0; simp [fstL]; omega) (fstL (partL x 0)).length 0 (by omega)
  exact this
theorem refNodes_ev (x : S29) (hx : sizeS x ≤ 1000000) : Ev (fun k => cylinderref34_Nodes.f k x.f0 x.f1.f0 x.f1.f1 x.f2 x.f3 x.f4 x.f5 x.f6 x.f7) ((sizeS x : Nat) : Int) := by
  refine Ev.congr (fun k => by rw [cylinderref34_Nodes.f]) (Ev.bind (list_ev x 0 hx (by omega) (by omega)) (Ev.val ?_))
  simp [fstL, listS_len]
/-- Kinds of the formulas of the parts. -/
theorem atoms_form (x : S29) (h : (formOf x).2 = true) (hx : sizeS x ≤ 1000000) : cntA ((wk (formOf x).1 0).map Prod.snd) = (((fstL (partL x 0)).countP (fun y => decide (y.f0 = 9)) : Nat) : Int) := by
  obtain ⟨h1, h2⟩ := part_form x h 0
  rw [cntA_eq _ (by rw [List.length_map]; exact Nat.le_trans (wk_size x h 0) hx), ← h1]
  clear h1
  congr 1
  revert h2
  generalize partL x 0 = l
  intro h2
  induction l with
  | nil => rfl
  | cons p l ih =>
    have hp := h2 p (by simp)
    have ih := ih (fun q hq => h2 q (by simp [hq]))
    simp only [fstL, List.map_cons, List.countP_cons] at ih ⊢
    rw [ih]
    congr 1
    rcases form_inv p.1 hp with ⟨h0, h7, e⟩ | ⟨a, b, h7, ha, hb, h0, -, e⟩ | ⟨a, h7, ha, h0⟩ | ⟨a, b, h7, ha, hb, h0⟩
    · simp [h0, e, isAtom]
    · simp [h0, e, isAtom]
    · rcases h0 with ⟨h0, e⟩ | ⟨h0, e⟩ <;> simp [h0, e, isAtom]
    · rcases h0 with ⟨h0, e⟩ | ⟨h0, e⟩ | ⟨h0, e⟩ | ⟨h0, e⟩ <;> simp [h0, e, isAtom]

variable {x : S29} {A2 A8 : Option Addr} {c2 c8 : Nat} {w : World}
theorem refAtoms_any (hR : ReadR w x A2 c2 A8 c8) (hx : sizeS x ≤ 1000000) (h : (formOf x).2 = true) :
    Calls Try.prog 34 #[treeV x (.slice A2 x.f1.f1.length c2) (.slice A8 x.f7.length c8)] w fun e w' => e = .returned (.int .i64 (cntA ((wk (formOf x).1 0).map Prod.snd))) ∧ Below w.heap.size w w' := by
  obtain ⟨k, hk⟩ := (refAtoms_ev x hx).rounds
  rw [atoms_form x h hx]
  exact cylinderref34_Atoms.calls k _ _ A2 c2 _ _ _ _ _ _ A8 c8 _ _ w hR.g2 hR.l2 hR.g8 hR.l8 hk
theorem refNodes_any (hR : ReadR w x A2 c2 A8 c8) (hx : sizeS x ≤ 1000000) (h : (formOf x).2 = true) :
    Calls Try.prog 36 #[treeV x (.slice A2 x.f1.f1.length c2) (.slice A8 x.f7.length c8)] w fun e w' => e = .returned (.int .i64 (cntN ((wk (formOf x).1 0).map Prod.snd))) ∧ Below w.heap.size w w' := by
  obtain ⟨k, hk⟩ := (refNodes_ev x hx).rounds
  have e := cntN_eq (subF (formOf x).1) (by rw [nodes_size x h]; exact hx)
  rw [nodes_size x h] at e
  rw [show (wk (formOf x).1 0).map Prod.snd = subF (formOf x).1 from rfl, e]
  exact cylinderref34_Nodes.calls k _ _ A2 c2 _ _ _ _ _ _ A8 c8 _ _ w hR.g2 hR.l2 hR.g8 hR.l8 hk
theorem refParts_any (hR : ReadR w x A2 c2 A8 c8) (hx : sizeS x ≤ 1000000) :
    Calls Try.prog 31 #[treeV x (.slice A2 x.f1.f1.length c2) (.slice A8 x.f7.length c8)] w fun e w' => ∃ A c B d, e = .returned (.tuple #[.slice A (partL x 0).length c, .slice B (partL x 0).length d]) ∧ (partL x 0).length ≤ c ∧ (partL x 0).length ≤ d ∧
      (∀ W, Below w'.heap.size w' W → Kd.C k29 W A (partL x 0).length (fstL (partL x 0)) ∧ Kd.C (Kd.int .i64) W B (partL x 0).length (sndL (partL x 0))) ∧ Below w.heap.size w w' := by
  obtain ⟨k, hk⟩ := (parts_ev x hx).rounds
  refine (cylinderref34_Parts.calls k _ _ (fun k_ => k_ < w.heap.size) A2 c2 _ _ _ _ _ _ (fun k_ => k_ < w.heap.size) A8 c8 _ _ _ w (Kd.V_mk hR.l2 (Kd.C_F (Kd.heap_int .u32) hR.g2)) (Kd.V_mk hR.l8 (Kd.C_F k29_heap hR.g8)) hk).mono ?_
  rintro e w' ⟨v0, v1, rfl, h0, h1, hb⟩
  obtain ⟨A, c, rfl⟩ := Kd.N_slice h0
  obtain ⟨B, d, rfl⟩ := Kd.R_slice h1
  have e1 : (fstL (partL x 0)).length = (partL x 0).length := by simp [fstL]
  have e2 : (sndL (partL x 0)).length = (partL x 0).length := by simp [sndL]
  have i1 := (Kd.N_reads' h0).2.1
  have i2 := (Kd.R_reads' h1).2.1
  rw [e1] at h0 i1
  rw [e2] at h1 i2
  refine ⟨A, c, B, d, by rw [e1, e2], i1, i2, fun W hW => ⟨?_, ?_⟩, hb⟩
  · have := (Kd.N_reads' (Kd.N_below h0 hW)).2.2
    rwa [e1] at this
  · have := (Kd.R_reads' (Kd.R_below h1 hW)).2.2
    rwa [e2] at this
end Go.Proofs.Ytddpojinlapmfaa.PRef
