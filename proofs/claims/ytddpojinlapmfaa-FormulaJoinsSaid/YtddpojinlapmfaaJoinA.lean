/- formula.All, Any: folds from the left; cylinderref34.Fold, FewList. -/
import Derived.Test.YtddpojinlapmfaaPushA
import Derived.Test.YtddpojinlapmfaaPRefRK
import Derived.Test.YtddpojinlapmfaaPRefRL
import Derived.Test.YtddpojinlapmfaaRefK
import Derived.Test.YtddpojinlapmfaaFormA
import Derived.WalkKit
namespace Go.Proofs.Ytddpojinlapmfaa.PRef
set_option linter.unusedVariables false
set_option linter.unusedSimpArgs false
open Go.RowKit Go.Proofs.YtddpojinlapmfaaW.PrintWords Go.Proofs.YtddpojinlapmfaaW.PrintLast Go.Proofs.YtddpojinlapmfaaW.PrintMore

/-- A list of formulas that lies at A. -/
structure SeqF (w : World) (A : Option Addr) (l : List Fm) (vs : List Value) : Prop where
  len : vs.length = l.length
  fm : ∀ j (h : j < l.length) (h' : j < vs.length), IsFm w l[j] vs[j]
  at_ : 0 < l.length → ∃ g, A = some ⟨g, 0, none⟩ ∧ ∀ j (h : j < vs.length), w.cell? ⟨g, j, none⟩ = some vs[j]
theorem SeqF.below {w w' : World} {A : Option Addr} {l : List Fm} {vs : List Value} (h : SeqF w A l vs) (hb : Below w.heap.size w w') : SeqF w' A l vs :=
  ⟨h.len, fun j h1 h2 => (h.fm j h1 h2).below hb, fun h0 => by
    obtain ⟨g, e, hc⟩ := h.at_ h0
    exact ⟨g, e, fun j hj => pw_cell_below hb (hc j hj)⟩⟩

/-- formula.All -/
def joinAll : List Fm → Fm
  | [] => .truth true
  | a :: l => l.foldl Fm.and a
set_option maxRecDepth 100000 in
set_option maxHeartbeats 1600000 in
theorem all_any (A : Option Addr) (c : Nat) (l : List Fm) (vs : List Value) (w : World) (hc : l.length ≤ c) (hl : l.length ≤ 1000) (h : SeqF w A l vs) :
    Calls Try.prog 38 #[.slice A l.length c] w fun e w' => ∃ v, e = .returned v ∧ IsFm w' (joinAll l) v ∧ Below w.heap.size w w' := by
  cases l with
  | nil =>
    go_enter Try.func38, Try.ntmps38
    go_wp2_with fail
    go_ret
    exact ⟨_, rfl, rfl, Below.refl _ _⟩
  | cons a r =>
    obtain ⟨g, rfl, hcell⟩ := h.at_ (by simp)
    have hvl := h.len
    obtain ⟨va, vr, rfl⟩ : ∃ va vr, vs = va :: vr := by
      cases vs with
      | nil => simp at hvl
      | cons va vr => exact ⟨va, vr, rfl⟩
    have hlr : vr.length = r.length := by simpa using hvl
    have c0 : w.cell? ⟨g, 0, none⟩ = some va := hcell 0 (by simp)
    have fa : IsFm w a va := h.fm 0 (by simp) (by simp)
    have cr : ∀ k (hk : k < vr.length), w.cell? ⟨g, 1 + k, none⟩ = some vr[k] := fun k hk => by
      have := hcell (k + 1) (by simp; omega)
      rw [Nat.add_comm 1 k]
      simpa using this
    have fr : ∀ k (hk : k < r.length) (hk' : k < vr.length), IsFm w r[k] vr[k] := fun k hk hk' => h.fm (k + 1) (by simp; omega) (by simp; omega)
    have HC := Lib.hid cr
    have HF := Lib.hid fr
    clear h hcell cr fr hvl
    have hlen : (a :: r).length = r.length + 1 := rfl
    rw [hlen] at hc hl ⊢
    have hz : ((((r.length + 1 : Nat) : Int)) == 0) = false := beq_eq_false_iff_ne.2 (by omega)
    have h1c : (1 : Int) ≤ ((r.length + 1 : Nat) : Int) := by omega
    have hcc : (((r.length + 1 : Nat) : Int)) ≤ (c : Int) := by omega
    by_cases hr0 : r = []
    · subst hr0
      by_cases hc1 : c = 1
      · subst hc1
        go_enter Try.func38, Try.ntmps38
        go_wp2_with fail
        go_loopw [17, 3] (fun i o wr => i = .int .i64 0 ∧ o = va ∧ wr = w) (fun i _ _ => 0)
        case atStart => exact ⟨rfl, rfl, rfl⟩
        case round =>
          obtain ⟨rfl, rfl, rfl⟩ := hrel
          go_wp2
          go_ret
          exact ⟨_, rfl, fa, Below.refl _ _⟩
      · go_enter Try.func38, Try.ntmps38
        go_wp2_with fail
        go_loopw [17, 3] (fun i o wr => i = .int .i64 0 ∧ o = va ∧ wr = w) (fun i _ _ => 0)
        case atStart => exact ⟨rfl, rfl, rfl⟩
        case round =>
          obtain ⟨rfl, rfl, rfl⟩ := hrel
          go_wp2
          go_ret
          exact ⟨_, rfl, fa, Below.refl _ _⟩
    have hc1 : ¬ c = 1 := by
      have : 0 < r.length := by cases r with
        | nil => exact absurd rfl hr0
        | cons => simp
      omega
    go_enter Try.func38, Try.ntmps38
    go_wp2_with fail
    go_loopw [17, 3] (fun i o wr => ∃ k : Nat, k ≤ r.length ∧ i = .int .i64 k ∧ IsFm w ((r.take k).foldl Fm.and a) o ∧ wr = w) (fun i _ _ => r.length - (intOf i).toNat)
    case atStart => exact ⟨0, by omega, rfl, by simpa using fa, rfl⟩
    case round =>
      obtain ⟨k, hk, rfl, hF, rfl⟩ := hrel
      by_cases hlt : k < r.length
      · have hck := HC.out k (by omega)
        have hfk := HF.out k hlt (by omega)
        have hk64 : (k : Int) < 1000 := by omega
        obtain ⟨vk, hvk⟩ : ∃ vk, vr[k] = vk := ⟨_, rfl⟩
        rw [hvk] at hck hfk
        clear hvk
        have hnx : ∀ v, v = .iface 85 (.agg #[u3, vk]) → IsFm wr ((r.take (k + 1)).foldl Fm.and a) v := fun v hv => by
          rw [List.take_succ_eq_append_getElem hlt, List.foldl_append]; exact ⟨_, _, hv, hF, hfk⟩
        rcases hF.shape with rfl | ⟨ta, xa, rfl⟩ <;> rcases hfk.shape with rfl | ⟨tb, xb, rfl⟩
        all_goals
          (go_wp2
           go_roundw
           case rel => exact ⟨k + 1, by omega, by go_num, hnx _ rfl, trivial⟩
           case measure => simp [intOf]; omega)
      · obtain rfl : k = r.length := by omega
        rw [List.take_length] at hF
        go_wp2
        go_ret
        exact ⟨_, rfl, hF, Below.refl _ _⟩
/-- formula.Any -/
def joinAny : List Fm → Fm
  | [] => .truth false
  | a :: l => l.foldl Fm.or a
set_option maxRecDepth 100000 in
set_option maxHeartbeats 1600000 in
theorem anyF_any (A : Option Addr) (c : Nat) (l : List Fm) (vs : List Value) (w : World) (hc : l.length ≤ c) (hl : l.length ≤ 1000) (h : SeqF w A l vs) :
    Calls Try.prog 40 #[.slice A l.length c] w fun e w' => ∃ v, e = .returned v ∧ IsFm w' (joinAny l) v ∧ Below w.heap.size w w' := by
  cases l with
  | nil =>
    go_enter Try.func40, Try.ntmps40
    go_wp2_with fail
    go_ret
    exact ⟨_, rfl, rfl, Below.refl _ _⟩
  | cons a r =>
    obtain ⟨g, rfl, hcell⟩ := h.at_ (by simp)
    have hvl := h.len
    obtain ⟨va, vr, rfl⟩ : ∃ va vr, vs = va :: vr := by
      cases vs with
      | nil => simp at hvl
      | cons va vr => exact ⟨va, vr, rfl⟩
    have hlr : vr.length = r.length := by simpa using hvl
    have c0 : w.cell? ⟨g, 0, none⟩ = some va := hcell 0 (by simp)
    have fa : IsFm w a va := h.fm 0 (by simp) (by simp)
    have cr : ∀ k (hk : k < vr.length), w.cell? ⟨g, 1 + k, none⟩ = some vr[k] := fun k hk => by
      have := hcell (k + 1) (by simp; omega)
      rw [Nat.add_comm 1 k]
      simpa using this
    have fr : ∀ k (hk : k < r.length) (hk' : k < vr.length), IsFm w r[k] vr[k] := fun k hk hk' => h.fm (k + 1) (by simp; omega) (by simp; omega)
    have HC := Lib.hid cr
    have HF := Lib.hid fr
    clear h hcell cr fr hvl
    have hlen : (a :: r).length = r.length + 1 := rfl
    rw [hlen] at hc hl ⊢
    have hz : ((((r.length + 1 : Nat) : Int)) == 0) = false := beq_eq_false_iff_ne.2 (by omega)
    have h1c : (1 : Int) ≤ ((r.length + 1 : Nat) : Int) := by omega
    have hcc : (((r.length + 1 : Nat) : Int)) ≤ (c : Int) := by omega
    by_cases hr0 : r = []
    · subst hr0
      by_cases hc1 : c = 1
      · subst hc1
        go_enter Try.func40, Try.ntmps40
        go_wp2_with fail
        go_loopw [17, 3] (fun i o wr => i = .int .i64 0 ∧ o = va ∧ wr = w) (fun i _ _ => 0)
        case atStart => exact ⟨rfl, rfl, rfl⟩
        case round =>
          obtain ⟨rfl, rfl, rfl⟩ := hrel
          go_wp2
          go_ret
          exact ⟨_, rfl, fa, Below.refl _ _⟩
      · go_enter Try.func40, Try.ntmps40
        go_wp2_with fail
        go_loopw [17, 3] (fun i o wr => i = .int .i64 0 ∧ o = va ∧ wr = w) (fun i _ _ => 0)
        case atStart => exact ⟨rfl, rfl, rfl⟩
        case round =>
          obtain ⟨rfl, rfl, rfl⟩ := hrel
          go_wp2
          go_ret
          exact ⟨_, rfl, fa, Below.refl _ _⟩
    have hc1 : ¬ c = 1 := by
      have : 0 < r.length := by cases r with
        | nil => exact absurd rfl hr0
        | cons => simp
      omega
    go_enter Try.func40, Try.ntmps40
    go_wp2_with fail
    go_loopw [17, 3] (fun i o wr => ∃ k : Nat, k ≤ r.length ∧ i = .int .i64 k ∧ IsFm w ((r.take k).foldl Fm.or a) o ∧ wr = w) (fun i _ _ => r.length - (intOf i).toNat)
    case atStart => exact ⟨0, by omega, rfl, by simpa using fa, rfl⟩
    case round =>
      obtain ⟨k, hk, rfl, hF, rfl⟩ := hrel
      by_cases hlt : k < r.length
      · have hck := HC.out k (by omega)
        have hfk := HF.out k hlt (by omega)
        have hk64 : (k : Int) < 1000 := by omega
        obtain ⟨vk, hvk⟩ : ∃ vk, vr[k] = vk := ⟨_, rfl⟩
        rw [hvk] at hck hfk
        clear hvk
        have hnx : ∀ v, v = .iface 87 (.agg #[u3, vk]) → IsFm wr ((r.take (k + 1)).foldl Fm.or a) v := fun v hv => by
          rw [List.take_succ_eq_append_getElem hlt, List.foldl_append]; exact ⟨_, _, hv, hF, hfk⟩
        rcases hF.shape with rfl | ⟨ta, xa, rfl⟩ <;> rcases hfk.shape with rfl | ⟨tb, xb, rfl⟩
        all_goals
          (go_wp2
           go_roundw
           case rel => exact ⟨k + 1, by omega, by go_num, hnx _ rfl, trivial⟩
           case measure => simp [intOf]; omega)
      · obtain rfl : k = r.length := by omega
        rw [List.take_length] at hF
        go_wp2
        go_ret
        exact ⟨_, rfl, hF, Below.refl _ _⟩

/-! ### the reference -/
/-- cylinderref34.Fold -/
def foldS (b : Bool) : List S29 → S29
  | [] => { leaf 8 with f5 := b }
  | x :: l => l.foldl (fun o y => node (if b then 11 else 12) [o, canonS y]) (canonS x)
theorem foldL_ev (l : List S29) (k : Int) (hs : ∀ x ∈ l, SmallS x ∧ sizeS x ≤ 1000000) (hl : l.length ≤ 1000000) : ∀ (m i : Nat), i + m = l.length → ∀ o : S29,
    Ev (fun n => cylinderref34_Fold.l0 n l k (i : Int) o.f0 o.f1.f0 o.f1.f1 o.f2 o.f3 o.f4 o.f5 o.f6 o.f7) (tup ((l.drop i).foldl (fun o y => node k [o, canonS y]) o)) := by
  intro m
  induction m with
  | zero =>
    intro i hi o
    rw [List.drop_of_length_le (by omega)]
    exact Ev.step (fun k => by rw [cylinderref34_Fold.l0]) (Ev.ifn (by omega) (Ev.val (a := (o.f0, o.f1.f0, o.f1.f1, o.f2, o.f3, o.f4, o.f5, o.f6, o.f7)) rfl))
  | succ m ih =>
    intro i hi o
    have hlt : i < l.length := by omega
    obtain ⟨h1, h2⟩ := hs l[i] (List.getElem_mem hlt)
    rw [List.drop_eq_getElem_cons hlt, List.foldl_cons]
    refine Ev.step (fun k => by rw [cylinderref34_Fold.l0]) (Ev.ifp (by omega) (Ev.ifp (by omega) ?_))
    rw [rd29_at _ _ hlt]
    refine Ev.bind (canon_ev l[i] h1 h2) ?_
    rw [wrap_succ (by omega)]
    have e := ih (i + 1) (by omega) (node k [o, canonS l[i]])
    have u1 := untup (canonS l[i])
    have u2 : (⟨o.f0, (⟨o.f1.f0, o.f1.f1⟩ : S25), o.f2, o.f3, o.f4, o.f5, o.f6, o.f7⟩ : S29) = o := by cases o; rfl
    simp only [u1, u2]
    exact e
theorem foldJ_ev (l : List S29) (b : Bool) (hs : ∀ x ∈ l, SmallS x ∧ sizeS x ≤ 1000000) (hl : l.length ≤ 1000000) : Ev (fun n => cylinderref34_Fold.j0 n l b (if b then 11 else 12)) (tup (foldS b l)) := by
  cases l with
  | nil => exact Ev.step (fun k => by rw [cylinderref34_Fold.j0]) (Ev.ifp (c := (([] : List S29).length : Int) = 0) (by simp) (Ev.val (a := (8, false, ([] : List Int), (⟨#[]⟩ : ByteArray), 0, 0, b, false, ([] : List S29))) rfl))
  | cons x l =>
    obtain ⟨h1, h2⟩ := hs x (by simp)
    refine Ev.step (fun k => by rw [cylinderref34_Fold.j0]) (Ev.ifn (by simp; omega) (Ev.ifp (by simp) ?_))
    have e0 : rd_T29 (x :: l) 0 = x := rd29_at (x :: l) 0 (by simp)
    rw [e0]
    refine Ev.bind (canon_ev x h1 h2) ?_
    have e := foldL_ev (x :: l) (if b then 11 else 12) hs hl l.length 1 (by simp; omega) (canonS x)
    exact e
theorem fold_ev (l : List S29) (b : Bool) (hs : ∀ x ∈ l, SmallS x ∧ sizeS x ≤ 1000000) (hl : l.length ≤ 1000000) : Ev (fun n => cylinderref34_Fold.f n l b) (tup (foldS b l)) := by
  cases b with
  | true =>
    have h : Ev (fun n => cylinderref34_Fold.j0 n l true 11) _ := foldJ_ev l true hs hl
    exact Ev.congr (fun k => by rw [cylinderref34_Fold.f]) (Ev.ifp (c := true = true) rfl h)
  | false =>
    have h : Ev (fun n => cylinderref34_Fold.j0 n l false 12) _ := foldJ_ev l false hs hl
    exact Ev.congr (fun k => by rw [cylinderref34_Fold.f]) (Ev.ifn (c := false = true) Bool.false_ne_true h)
theorem fold_any (A : Option Addr) (c : Nat) (l : List S29) (b : Bool) (w : World) (hC : k29.C w A l.length l) (hc : l.length ≤ c) (hs : ∀ x ∈ l, SmallS x ∧ sizeS x ≤ 1000000) (hl : l.length ≤ 1000000) :
    Calls Try.prog 39 #[.slice A l.length c, .bool b] w fun e w' => ∃ D2 d2 D8 d8, e = .returned (treeV (foldS b l) (.slice D2 (foldS b l).f1.f1.length d2) (.slice D8 (foldS b l).f7.length d8)) ∧ (∀ W, Below w'.heap.size w' W → ReadR W (foldS b l) D2 d2 D8 d8) ∧ Below w.heap.size w w' := by
  obtain ⟨k, hk⟩ := (fold_ev l b hs hl).rounds
  refine (cylinderref34_Fold.calls k A c l b _ _ _ _ _ _ _ _ _ w hC hc hk).mono ?_
  rintro e w' ⟨v2, v8, rfl, h2, h8, hb⟩
  obtain ⟨D2, d2, rfl⟩ := Kd.R_slice h2
  obtain ⟨D8, d8, rfl⟩ := Kd.N_slice h8
  refine ⟨D2, d2, D8, d8, rfl, fun W hW => ?_, hb⟩
  exact ⟨(Kd.R_reads' h2).2.1, (Kd.R_reads' (Kd.R_below h2 hW)).2.2, (Kd.N_reads' h8).2.1, (Kd.N_reads' (Kd.N_below h8 hW)).2.2⟩
/-- cylinderref34.FewList, at 400. -/
def fewL (l : List S29) : Bool := decide (l.length ≤ 20) && l.all (fun x => fewB x 21)
theorem fewList_ev (l : List S29) : Ev (fun n => cylinderref34_FewList.f n l 400) (fewL l) := by
  by_cases hl : l.length ≤ 20
  · refine Ev.congr (fun k => by rw [cylinderref34_FewList.f]) (Ev.ifn (by omega) ?_)
    have key : ∀ (m i : Nat), i + m = l.length → Ev (fun n => cylinderref34_FewList.l0 n l 400 (l.length : Int) (i : Int)) ((l.drop i).all (fun x => fewB x 21)) := by
      intro m
      induction m with
      | zero =>
        intro i hi
        rw [List.drop_of_length_le (by omega)]
        exact Ev.step (fun k => by rw [cylinderref34_FewList.l0]) (Ev.ifn (by omega) (Ev.val (a := true) rfl))
      | succ m ih =>
        intro i hi
        have hlt : i < l.length := by omega
        rw [List.drop_eq_getElem_cons hlt, List.all_cons]
        refine Ev.step (fun k => by rw [cylinderref34_FewList.l0]) (Ev.ifp (by omega) (Ev.ifp (by omega) (Ev.ifp (by omega) ?_)))
        rw [rd29_at _ _ hlt]
        have e21 : wrap64 (wrap64 (Int.tdiv 400 20) + 1) = 21 := by simp [wrap64]
        rw [e21]
        refine Ev.bind (few_ev l[i] 21 (by omega) (by omega)) ?_
        rw [wrap_succ (by omega)]
        cases hf : fewB l[i] 21 with
        | true => exact Ev.ifp rfl (Ev.to (by simp) (ih (i + 1) (by omega)))
        | false => exact Ev.ifn Bool.false_ne_true (Ev.val (by simp))
    have := key l.length 0 (by omega)
    simpa [fewL, hl] using this
  · exact Ev.congr (fun k => by rw [cylinderref34_FewList.f]) (Ev.ifp (by omega) (Ev.val (by simp [fewL, hl])))
theorem fewList_any (A : Option Addr) (c : Nat) (l : List S29) (w : World) (hC : k29.C w A l.length l) (hc : l.length ≤ c) :
    Calls Try.prog 37 #[.slice A l.length c, .int .i64 400] w fun e w' => e = .returned (.bool (fewL l)) ∧ Below w.heap.size w w' := by
  obtain ⟨k, hk⟩ := (fewList_ev l).rounds
  exact cylinderref34_FewList.calls k A c l 400 _ w hC hc hk
/-- The folds over the formulas of trees. -/
theorem joinAll_tree (l : List S29) (h : ∀ x ∈ l, (formOf x).2 = true) : plainF (joinAll (l.map (fun x => (formOf x).1))) = foldS true l := by
  cases l with
  | nil => rfl
  | cons x l =>
    have hx := canon_form x (h x (by simp))
    have key : ∀ (l : List S29) (F : Fm) (o : S29), (∀ x ∈ l, (formOf x).2 = true) → plainF F = o → plainF ((l.map (fun x => (formOf x).1)).foldl .and F) = l.foldl (fun o y => node 11 [o, canonS y]) o := by
      intro l
      induction l with
      | nil => intro F o _ h; exact h
      | cons y l ih =>
        intro F o hl ho
        rw [List.map_cons, List.foldl_cons, List.foldl_cons]
        exact ih _ _ (fun x hx => hl x (by simp [hx])) (by rw [plainF, ho, canon_form y (hl y (by simp))])
    exact key l _ _ (fun y hy => h y (by simp [hy])) hx
theorem joinAny_tree (l : List S29) (h : ∀ x ∈ l, (formOf x).2 = true) : plainF (joinAny (l.map (fun x => (formOf x).1))) = foldS false l := by
  cases l with
  | nil => rfl
  | cons x l =>
    have hx := canon_form x (h x (by simp))
    have key : ∀ (l : List S29) (F : Fm) (o : S29), (∀ x ∈ l, (formOf x).2 = true) → plainF F = o → plainF ((l.map (fun x => (formOf x).1)).foldl .or F) = l.foldl (fun o y => node 12 [o, canonS y]) o := by
      intro l
      induction l with
      | nil => intro F o _ h; exact h
      | cons y l ih =>
        intro F o hl ho
        rw [List.map_cons, List.foldl_cons, List.foldl_cons]
        exact ih _ _ (fun x hx => hl x (by simp [hx])) (by rw [plainF, ho, canon_form y (hl y (by simp))])
    exact key l _ _ (fun y hy => h y (by simp [hy])) hx
theorem fold_small (b : Bool) (l : List S29) (hl : l.length ≤ 20) (h : ∀ x ∈ l, SmallS x ∧ sizeS x ≤ 21) : SmallS (foldS b l) ∧ sizeS (foldS b l) ≤ 1000000 := by
  cases l with
  | nil => exact ⟨⟨_, by simp [foldS, leaf, z29, z25], by simp [foldS, leaf, z29]⟩, by simp [foldS, leaf, z29, sizeS, sizeK]⟩
  | cons x l =>
    obtain ⟨h1, h2⟩ := h x (by simp)
    have key : ∀ (l : List S29) (o : S29) (k : Int), (∀ x ∈ l, SmallS x ∧ sizeS x ≤ 21) → SmallS o → SmallS (l.foldl (fun o y => node k [o, canonS y]) o) ∧ sizeS (l.foldl (fun o y => node k [o, canonS y]) o) ≤ sizeS o + 22 * l.length := by
      intro l
      induction l with
      | nil => intro o k _ ho; exact ⟨ho, by simp⟩
      | cons y l ih =>
        intro o k hl ho
        obtain ⟨y1, y2⟩ := hl y (by simp)
        have hn : SmallS (node k [o, canonS y]) := ⟨_, by simp [node, z29, z25], by simp only [node, List.mem_cons, List.not_mem_nil, or_false, forall_eq_or_imp, forall_eq]; exact ⟨ho, small_canon y y1⟩⟩
        have hz : sizeS (node k [o, canonS y]) = 1 + (sizeS o + sizeS y) := by simp [node, sizeS, sizeK, sizeS_canon, z29]
        obtain ⟨i1, i2⟩ := ih _ k (fun x hx => hl x (by simp [hx])) hn
        rw [List.foldl_cons]
        exact ⟨i1, by rw [hz] at i2; simp; omega⟩
    obtain ⟨k1, k2⟩ := key l (canonS x) (if b then 11 else 12) (fun y hy => h y (by simp [hy])) (small_canon x h1)
    rw [sizeS_canon] at k2
    exact ⟨k1, by simp at hl; show sizeS (l.foldl _ (canonS x)) ≤ 1000000; omega⟩
end Go.Proofs.Ytddpojinlapmfaa.PRef
