/- formula.Atoms, Nodes: counts over the iterator. -/
import Derived.Test.YtddpojinlapmfaaWalkA
namespace Go.Proofs.Ytddpojinlapmfaa.PRef
set_option linter.unusedVariables false
set_option linter.unusedSimpArgs false
open Go.RowKit Go.Shelf Go.Proofs.YtddpojinlapmfaaW.PrintWords Go.Proofs.YtddpojinlapmfaaW.PrintLast Go.Proofs.YtddpojinlapmfaaW.PrintMore
attribute [local go_sem] Oper.semAt_some
attribute [local go_sem] taH78 taM78 taN78 taH91 taM91 taN91 taH93 taM93 taN93 taH85 taM85 taN85 taH87 taM87 taN87 taH116 taM116 taN116 taH117 taM117 taN117 taH61 taM61 taN61

def isAtom : Fm → Bool
  | .atom .. => true
  | _ => false
/-- An atom, or what is none. -/
theorem IsFm.atomOr {w : World} {F : Fm} {v : Value} (h : IsFm w F v) :
    (∃ l r s vl vr, F = .atom l r s ∧ v = .iface 91 (.agg #[vl, .int .i64 r, vr]) ∧ IsTm w l vl ∧ IsTm w s vr) ∨ (isAtom F = false ∧ (v = .nilIface ∨ ∃ (a : Nat) (y : Value), a ≠ 91 ∧ v = .iface a y)) := by
  cases F with
  | truth b => cases h; exact .inr ⟨rfl, .inr ⟨_, _, by decide, rfl⟩⟩
  | atom l r s => obtain ⟨vl, vr, rfl, h1, h2⟩ := h; exact .inl ⟨_, _, _, _, _, rfl, rfl, h1, h2⟩
  | not a => obtain ⟨_, rfl, _⟩ := h; exact .inr ⟨rfl, .inr ⟨_, _, by decide, rfl⟩⟩
  | and a b => obtain ⟨_, _, rfl, _⟩ := h; exact .inr ⟨rfl, .inr ⟨_, _, by decide, rfl⟩⟩
  | or a b => obtain ⟨_, _, rfl, _⟩ := h; exact .inr ⟨rfl, .inr ⟨_, _, by decide, rfl⟩⟩
  | imp a b => obtain ⟨_, _, rfl, _⟩ := h; exact .inr ⟨rfl, .inr ⟨_, _, by decide, rfl⟩⟩
  | iff a b => obtain ⟨_, _, rfl, _⟩ := h; exact .inr ⟨rfl, .inr ⟨_, _, by decide, rfl⟩⟩
  | quant q s a => obtain ⟨_, rfl, _⟩ := h; exact .inr ⟨rfl, .inr ⟨_, _, by decide, rfl⟩⟩
  | odd u =>
    obtain ⟨rfl, rfl | ⟨p, rfl⟩⟩ := h
    · exact .inr ⟨rfl, .inl rfl⟩
    · exact .inr ⟨rfl, .inr ⟨_, _, by decide, rfl⟩⟩

theorem Vis.snd {w0 : World} {P : Int × Fm → Prop} {ys : List (Vis w0 P)} {L : List (Int × Fm)} (h : ys.map Vis.pi = L) : ys.map (fun x => x.1.2.1) = L.map Prod.snd := by
  subst h; rw [List.map_map]; rfl

theorem keeps_put {W : World} (l : Nat) (o o' : Obj) (h : W.heap[l]? = some o) (hc : o.isCells = false) : Keeps W (W.putObj l o') := by
  intro g t cs _ hg
  have hne : g ≠ l := by rintro rfl; rw [h] at hg; cases hg; cases hc
  exact (World.putObj_heap_other (by omega)).trans hg
theorem Keeps.setCell {W : World} {b t : Nat} {cs : Array Value} (h : W.heap[b]? = some (.cells cs t (0, 0))) (ht : ¬ boxT t) (o : Nat) (v : Value) : Keeps W (W.setCell ⟨b, o, none⟩ v) := by
  intro g t' cs' hb hg
  have hne : g ≠ b := by rintro rfl; rw [h] at hg; cases hg; exact ht hb
  exact (Below.heap_setCell W ⟨b, o, none⟩ v g hne).trans hg
/-- A box of cells does not turn where a row that is none turns. -/
theorem box_stays {W W' : World} {b t : Nat} {cs : Array Value} {row : Option Nat} (h : W.heap[b]? = some (.cells cs t (0, 0))) (hg : W.grownBy W' row) (hrow : ∀ r, row = some r → ∃ o : Obj, W.heap[r]? = some o ∧ o.isCells = false) : W'.heap[b]? = some (.cells cs t (0, 0)) := by
  refine (hg.block b (blk_lt h) ?_).trans h
  rintro e
  obtain ⟨o, ho, hc⟩ := hrow b e.symm
  rw [h] at ho; cases ho; cases hc
theorem one_put {w : World} {g t : Nat} {u : Value} (h : w.heap[g]? = some (.cells #[u] t (0, 0))) (u' : Value) : (w.setCell ⟨g, 0, none⟩ u').heap[g]? = some (.cells #[u'] t (0, 0)) := blk_put h 0 u' rfl

theorem box_of {w : World} {g t : Nat} {u : Value} (h : w.heap[g]? = some (.cells #[u] t (0, 0))) : w.cell? ⟨g, 0, none⟩ = some u ∧ w.frozen? ⟨g, 0, none⟩ = false := ⟨(blk_cell h 0).trans rfl, blk_frozen h 0⟩

/-- How many of what was visited are atoms. -/
def cntA : List Fm → Int := List.foldl (fun n F => if isAtom F then wrap64 (n + 1) else n) 0
theorem cntA_snoc (l : List Fm) (F : Fm) : cntA (l ++ [F]) = if isAtom F then wrap64 (cntA l + 1) else cntA l := by simp [cntA]

set_option maxRecDepth 100000 in
set_option maxHeartbeats 2000000 in
theorem atoms_any (F : Fm) (v : Value) (w0 w : World) (hb0 : Below w0.heap.size w0 w) (hv : IsFm w0 F v) (hF : (wk F 0).length ≤ 1000000) :
    Calls Try.prog 33 #[v] w fun e w' => e = .returned (.int .i64 (cntA ((wk F 0).map Prod.snd))) ∧ Below w.heap.size w w' := by
  have h1 : v.oneCell' = true := by rcases hv.shape with rfl | ⟨a, x, rfl⟩ <;> rfl
  refine (callsIn_wide (n := 9)).1 ?_
  refine callsIn_of_wp_marks Try.func33 rfl trivial ?_ rfl
  simp only [Try.ntmps33, List.size_toArray, List.length_cons, List.length_nil, Nat.reduceAdd, Nat.reduceSub, Array.replicate_succ, Array.replicate_zero, List.push_toArray, List.append_toArray, List.nil_append, List.cons_append]
  have hdd : ∀ k : Nat, (Fence.wide.depth.isSome = true → 1 ≤ k) := fun k h => by cases h
  gi_wp2_with (refine ⟨trivial, ?_⟩; gi_at_call 32; refine (callsIn_wide.2 (parts_seq v _ h1)).mono ?_; rintro e w' ⟨rfl, rfl⟩)
  have hn0 := blk_alloc (blk_new w (.cells #[.int .i64 0] 3)) (.cells #[v] 43)
  have hn1 := blk_new (w.alloc (.cells #[.int .i64 0] 3)) (.cells #[v] 43)
  rw [World.size_alloc] at hn1
  have hBW : Below w.heap.size w ((w.alloc (.cells #[.int .i64 0] 3)).alloc (.cells #[v] 43)) := ((Below.refl _ w).alloc (Nat.le_refl _) _).alloc (by simp) _
  refine wpIn_rangeFunc_ownG_of_H (α := Vis w0 (· ∈ wk F 0)) rfl (by omega) (gf := 65) (lb := #[.pointer (some ⟨w.heap.size + 1, 0, none⟩)]) rfl trivial (enters_of Try.func65 (by kernel_rfl) rfl)
    (parts_stops 8 (w.heap.size + 1) w0 F v _ (by simp) ((blk_cell hn1 0).trans rfl) hv hF) Keeps.trans (fun W l o o' _ h hc _ => keeps_put l o o' h hc) (Below.refl _ _) (fun _ => rfl)
    (fun pre W => W.heap[w.heap.size]? = some (.cells #[.int .i64 (cntA (pre.map (fun x => x.1.2.1)))] 3 (0, 0)) ∧ Below w.heap.size w W)
    (fun _ _ _ => False)
    (fun s A B row hs hg hr => ⟨box_stays hs.1 hg (fun r e => (hr r e).2), hs.2.grown hg (by have := blk_lt hs.1; omega) (fun k e => by have := (hr k e).1; simp at this; omega)⟩) (fun _ _ _ _ _ hs _ _ => hs) ⟨hn0, hBW⟩ ?frm ?assign ?body ?done ?stop (fun W => Keeps.refl W)
  case assign =>
    intro l x W K hK
    dsimp only [Vis.enc]
    gi_wp2
    exact hK
  case body =>
    rintro l pre ⟨⟨d, G, u⟩, hu, hP⟩ W ⟨hc, hB⟩ hlen
    dsimp only at hu
    dsimp only
    obtain ⟨c0, c1⟩ : W.cell? ⟨w.heap.size, 0, none⟩ = some (.int .i64 (cntA (pre.map (fun x => x.1.2.1)))) ∧ W.frozen? ⟨w.heap.size, 0, none⟩ = false := ⟨(blk_cell hc 0).trans rfl, blk_frozen hc 0⟩
    rcases hu.atomOr with ⟨s, r, t, vl, vr, rfl, rfl, hl, hr⟩ | ⟨hA, rfl | ⟨a, y, ha, rfl⟩⟩
    · have hst := one_store hl.one
      have hst2 := one_store hr.one
      have hc1 := blk_alloc hc (.cells #[vl, .int .i64 r, vr] 91)
      obtain ⟨d0, d1⟩ := box_of hc1
      gi_wp2
      refine ⟨((KeepsOthers.alloc _ _).trans (KeepsOthers.setCell _ _ _)).from _, (Keeps.of_below ((Below.refl _ _).alloc (Nat.le_refl _) _)).trans (Keeps.setCell hc1 (by simp [boxT]) 0 _), ?_, (hB.alloc hB.size _).setCell (p := ⟨w.heap.size, 0, none⟩) (Nat.le_refl _) _⟩
      rw [List.map_append, List.map_singleton, cntA_snoc]
      exact one_put hc1 _
    · gi_wp2
      exact ⟨(KeepsOthers.alloc _ _).from _, Keeps.of_below ((Below.refl _ _).alloc (Nat.le_refl _) _), by rw [List.map_append, List.map_singleton, cntA_snoc, hA]; exact blk_alloc hc _, hB.alloc hB.size _⟩
    · gi_wp2
      exact ⟨(KeepsOthers.alloc _ _).from _, Keeps.of_below ((Below.refl _ _).alloc (Nat.le_refl _) _), by rw [List.map_append, List.map_singleton, cntA_snoc, hA]; exact blk_alloc hc _, hB.alloc hB.size _⟩
  case done =>
    rintro D ys W hD hys ⟨hc, hB⟩ hK
    have c0 : W.cell? ⟨w.heap.size, 0, none⟩ = some (.int .i64 (cntA (ys.map (fun x => x.1.2.1)))) := (blk_cell hc 0).trans rfl
    gi_wp2
    refine ⟨by simp, .inl ⟨_, _, rfl, run_takeDeferred hK, ?_⟩⟩
    refine ⟨_, results_tmp rfl _ _ _, ?_, ?_⟩
    · have e := Vis.snd hys
      exact congrArg (fun l => Ending.returned (Value.int .i64 (cntA l))) e
    · exact hB.trans (belowK_b (w := w) (Nat.le_refl _) W D _ _ (by simp at hD; omega) hK rfl rfl)
  case stop =>
    rintro D c pre W _ _ h _
    exact h.elim

/-- n more. -/
def bump : Nat → Int → Int
  | 0, c => c
  | n + 1, c => wrap64 (bump n c + 1)
theorem bump_add (n m : Nat) (c : Int) : bump (n + m) c = bump m (bump n c) := by
  induction m with
  | zero => rfl
  | succ m ih => rw [← Nat.add_assoc]; simp only [bump, ih]
/-- The formula itself and the terms in it, where it is an atom. -/
def ownN : Fm → Nat
  | .atom l _ r => 1 + (subT l).length + (subT r).length
  | _ => 1
theorem ownN_no {F : Fm} (h : isAtom F = false) : ownN F = 1 := by cases F <;> simp_all [isAtom, ownN]
def cntN : List Fm → Int := List.foldl (fun n F => bump (ownN F) n) 0
theorem cntN_snoc (l : List Fm) (F : Fm) : cntN (l ++ [F]) = bump (ownN F) (cntN l) := by simp [cntN]

set_option maxHeartbeats 800000 in
theorem count_any (b : Nat) (c : Int) (v : Value) (W : World) (h : W.heap[b]? = some (.cells #[.int .i64 c] 3 (0, 0))) :
    Calls Try.prog 67 (#[v] ++ #[.pointer (some ⟨b, 0, none⟩)]) W fun e W' => e = .returned (.tuple #[]) ∧ W' = W.setCell ⟨b, 0, none⟩ (.int .i64 (wrap64 (c + 1))) := by
  obtain ⟨c0, c1⟩ := box_of h
  show Calls Try.prog 67 #[v, .pointer (some ⟨b, 0, none⟩)] W _
  go_enter Try.func67, Try.ntmps67
  go_wp2
  go_end0
  exact ⟨rfl, rfl⟩

theorem KeepsC.setCell {W : World} {b t : Nat} {cs : Array Value} (h : W.heap[b]? = some (.cells cs t (0, 0))) (ht : ¬ boxT t) (o : Nat) (v : Value) : KeepsC W (W.setCell ⟨b, o, none⟩ v) :=
  ⟨Keeps.setCell h ht o v, (KeepsOthers.setCell _ _ _).size, (KeepsOthers.setCell _ _ _).same⟩
theorem KeepsC.ko {W W' : World} (h : KeepsC W W') : KeepsOthers W W' := ⟨h.size, h.others⟩

/-- formula.terms with a counting visitor. -/
theorem count_terms (b : Nat) (c : Int) (w0 wB : World) (B : Nat) (hBb : B ≤ b) : ∀ (t : Tm) (v : Value) (pre : List Tm) (w : World), IsTm w0 t v →
    (w.heap[b]? = some (.cells #[.int .i64 (bump pre.length c)] 3 (0, 0)) ∧ Below B wB w) →
      Calls Try.prog 68 #[v, .func (.func 67) #[] #[.pointer (some ⟨b, 0, none⟩)]] w fun e w' => e = .returned (.tuple #[]) ∧ (w'.heap[b]? = some (.cells #[.int .i64 (bump (pre ++ subT t).length c)] 3 (0, 0)) ∧ Below B wB w') ∧ KeepsC w w' :=
  fun t v pre w ht hj => terms_any 67 #[.pointer (some ⟨b, 0, none⟩)] (enters_of Try.func67 (by kernel_rfl) rfl) w0 (pre.length + (subT t).length) (fun pre w => w.heap[b]? = some (.cells #[.int .i64 (bump pre.length c)] 3 (0, 0)) ∧ Below B wB w)
    (fun pre w w' h hb => ⟨blk_below h.1 hb, h.2.trans (hb.mono (by have := blk_lt h.1; omega))⟩)
    (fun pre t v w h ht _ => (count_any b _ v w h.1).mono (fun e w' ⟨he, hw⟩ => by
      subst hw
      exact ⟨he, ⟨by rw [List.length_append]; exact one_put h.1 _, h.2.setCell (p := ⟨b, 0, none⟩) hBb _⟩, KeepsC.setCell h.1 (by simp [boxT]) 0 _⟩)) t v pre w ht hj (Nat.le_refl _)

theorem three_box {w : World} {g t : Nat} {u v x : Value} (h : w.heap[g]? = some (.cells #[u, v, x] t (0, 0))) : w.cell? ⟨g, 0, none⟩ = some u ∧ w.cell? ⟨g, 1, none⟩ = some v ∧ w.cell? ⟨g, 2, none⟩ = some x :=
  ⟨(blk_cell h 0).trans rfl, (blk_cell h 1).trans rfl, (blk_cell h 2).trans rfl⟩

set_option maxRecDepth 100000 in
set_option maxHeartbeats 4000000 in
theorem nodes_any (F : Fm) (v : Value) (w0 w : World) (hb0 : Below w0.heap.size w0 w) (hv : IsFm w0 F v) (hF : (wk F 0).length ≤ 1000000) :
    Calls Try.prog 35 #[v] w fun e w' => e = .returned (.int .i64 (cntN ((wk F 0).map Prod.snd))) ∧ Below w.heap.size w w' := by
  have h1 : v.oneCell' = true := by rcases hv.shape with rfl | ⟨a, x, rfl⟩ <;> rfl
  have hmf : ∀ (fn : Fn) (first cap : Array Value) (w : World), (Instr.makeFunc fn first cap).run Try.prog w = .ok (.func fn first cap) w := fun _ _ _ _ => rfl
  refine (callsIn_wide (n := 9)).1 ?_
  refine callsIn_of_wp_marks Try.func35 rfl trivial ?_ rfl
  simp only [Try.ntmps35, List.size_toArray, List.length_cons, List.length_nil, Nat.reduceAdd, Nat.reduceSub, Array.replicate_succ, Array.replicate_zero, List.push_toArray, List.append_toArray, List.nil_append, List.cons_append]
  have hdd : ∀ k : Nat, (Fence.wide.depth.isSome = true → 1 ≤ k) := fun k h => by cases h
  gi_wp2_with (refine ⟨trivial, ?_⟩; gi_at_call 32; refine (callsIn_wide.2 (parts_seq v _ h1)).mono ?_; rintro e w' ⟨rfl, rfl⟩)
  have hn0 := blk_alloc (blk_new w (.cells #[.int .i64 0] 3)) (.cells #[v] 43)
  have hn1 := blk_new (w.alloc (.cells #[.int .i64 0] 3)) (.cells #[v] 43)
  rw [World.size_alloc] at hn1
  have hBW : Below w.heap.size w ((w.alloc (.cells #[.int .i64 0] 3)).alloc (.cells #[v] 43)) := ((Below.refl _ w).alloc (Nat.le_refl _) _).alloc (by simp) _
  refine wpIn_rangeFunc_ownG_of_H (α := Vis w0 (· ∈ wk F 0)) rfl (by omega) (gf := 65) (lb := #[.pointer (some ⟨w.heap.size + 1, 0, none⟩)]) rfl trivial (enters_of Try.func65 (by kernel_rfl) rfl)
    (parts_stops 8 (w.heap.size + 1) w0 F v _ (by simp) ((blk_cell hn1 0).trans rfl) hv hF) Keeps.trans (fun W l o o' _ h hc _ => keeps_put l o o' h hc) (Below.refl _ _) (fun _ => rfl)
    (fun pre W => W.heap[w.heap.size]? = some (.cells #[.int .i64 (cntN (pre.map (fun x => x.1.2.1)))] 3 (0, 0)) ∧ Below w.heap.size w W)
    (fun _ _ _ => False)
    (fun s A B row hs hg hr => ⟨box_stays hs.1 hg (fun r e => (hr r e).2), hs.2.grown hg (by have := blk_lt hs.1; omega) (fun k e => by have := (hr k e).1; simp at this; omega)⟩) (fun _ _ _ _ _ hs _ _ => hs) ⟨hn0, hBW⟩ ?frm ?assign ?body ?done ?stop (fun W => Keeps.refl W)
  case assign =>
    intro l x W K hK
    dsimp only [Vis.enc]
    gi_wp2
    exact hK
  case body =>
    rintro l pre ⟨⟨d, G, u⟩, hu, hP⟩ W ⟨hc, hB⟩ hlen
    dsimp only at hu
    dsimp only
    obtain ⟨c, hcc⟩ : ∃ c, cntN (pre.map (fun x => x.1.2.1)) = c := ⟨_, rfl⟩
    rw [hcc] at hc
    have HC := Lib.hid hcc
    clear hcc
    obtain ⟨c0, c1⟩ := box_of hc
    have hq := one_put hc (.int .i64 (wrap64 (c + 1)))
    have hBq : Below w.heap.size w (W.setCell ⟨w.heap.size, 0, none⟩ (.int .i64 (wrap64 (c + 1)))) := hB.setCell (p := ⟨w.heap.size, 0, none⟩) (Nat.le_refl _) _
    have hk1 : Keeps W (W.setCell ⟨w.heap.size, 0, none⟩ (.int .i64 (wrap64 (c + 1)))) := Keeps.setCell hc (by simp [boxT]) 0 _
    have ho1 : KeepsOthers W (W.setCell ⟨w.heap.size, 0, none⟩ (.int .i64 (wrap64 (c + 1)))) := KeepsOthers.setCell _ _ _
    have hz : (W.setCell ⟨w.heap.size, 0, none⟩ (.int .i64 (wrap64 (c + 1)))).heap.size = W.heap.size := by simp [World.setCell]
    rcases hu.atomOr with ⟨s, r, t, vl, vr, rfl, rfl, hl, hr⟩ | ⟨hA, rfl | ⟨a, y, ha, rfl⟩⟩
    · have hst := one_store hl.one
      have hst2 := one_store hr.one
      have hl2 := blk_alloc hq (.cells #[vl, .int .i64 r, vr] 91)
      have hBl := hBq.alloc hBq.size (.cells #[vl, .int .i64 r, vr] 91)
      have ha1 := blk_new (W.setCell ⟨w.heap.size, 0, none⟩ (.int .i64 (wrap64 (c + 1)))) (.cells #[vl, .int .i64 r, vr] 91)
      rw [hz] at ha1
      obtain ⟨p0, p1, p2⟩ := three_box ha1
      have T1 := count_terms w.heap.size (wrap64 (c + 1)) w0 w w.heap.size (Nat.le_refl _) s vl [] _ hl ⟨hl2, hBl⟩
      have T2 := fun W' => count_terms w.heap.size (wrap64 (c + 1)) w0 w w.heap.size (Nat.le_refl _) t vr ([] ++ subT s) W' hr
      clear hz
      gi_wp2_with (first
        | (refine ⟨trivial, ?_⟩; gi_at_call 68; refine (callsIn_wide.2 T1).mono ?_; clear T1; rintro e W2 ⟨rfl, hJ2, hK2⟩
           have ha2 := hK2.boxes _ _ _ (by simp [boxT]) ha1
           obtain ⟨s0, s1, s2⟩ := three_box ha2)
        | (refine ⟨trivial, ?_⟩; gi_at_call 68; refine (callsIn_wide.2 (T2 _ hJ2)).mono ?_; clear T2; rintro e W3 ⟨rfl, hJ3, hK3⟩))
      refine ⟨((ho1.trans (KeepsOthers.alloc _ _)).trans (hK2.ko.trans hK3.ko)).from _, (hk1.trans (Keeps.of_below ((Below.refl _ _).alloc (Nat.le_refl _) _))).trans (hK2.boxes.trans hK3.boxes), ?_, hJ3.2⟩
      rw [List.map_append, List.map_singleton, cntN_snoc, HC.out]
      have e : bump (ownN (.atom s r t)) c = bump ([] ++ subT s ++ subT t).length (wrap64 (c + 1)) := by
        simp only [ownN, List.nil_append, List.length_append]
        rw [Nat.add_assoc, bump_add]; rfl
      rw [e]
      exact hJ3.1
    · gi_wp2
      exact ⟨(ho1.trans (KeepsOthers.alloc _ _)).from _, hk1.trans (Keeps.of_below ((Below.refl _ _).alloc (Nat.le_refl _) _)), by rw [List.map_append, List.map_singleton, cntN_snoc, HC.out, ownN_no hA]; exact blk_alloc hq _, hBq.alloc hBq.size _⟩
    · gi_wp2
      exact ⟨(ho1.trans (KeepsOthers.alloc _ _)).from _, hk1.trans (Keeps.of_below ((Below.refl _ _).alloc (Nat.le_refl _) _)), by rw [List.map_append, List.map_singleton, cntN_snoc, HC.out, ownN_no hA]; exact blk_alloc hq _, hBq.alloc hBq.size _⟩
  case done =>
    rintro D ys W hD hys ⟨hc, hB⟩ hK
    have c0 : W.cell? ⟨w.heap.size, 0, none⟩ = some (.int .i64 (cntN (ys.map (fun x => x.1.2.1)))) := (blk_cell hc 0).trans rfl
    gi_wp2
    refine ⟨by simp, .inl ⟨_, _, rfl, run_takeDeferred hK, ?_⟩⟩
    refine ⟨_, results_tmp rfl _ _ _, ?_, ?_⟩
    · have e := Vis.snd hys
      exact congrArg (fun l => Ending.returned (Value.int .i64 (cntN l))) e
    · exact hB.trans (belowK_b (w := w) (Nat.le_refl _) W D _ _ (by simp at hD; omega) hK rfl rfl)
  case stop =>
    rintro D c pre W _ _ h _
    exact h.elim
end Go.Proofs.Ytddpojinlapmfaa.PRef
