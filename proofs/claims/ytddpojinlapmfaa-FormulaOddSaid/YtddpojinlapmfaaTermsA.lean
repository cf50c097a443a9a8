/- formula.terms: what is visited of a term, whatever the visitor. -/
import Derived.RangeFuncOwn
import Derived.Test.YtddpojinlapmfaaFormA
namespace Go.Proofs.Ytddpojinlapmfaa.PRef
set_option linter.unusedVariables false
set_option linter.unusedSimpArgs false
open Go.RowKit Go.Proofs.YtddpojinlapmfaaW.PrintWords Go.Proofs.YtddpojinlapmfaaW.PrintLast Go.Proofs.YtddpojinlapmfaaW.PrintMore
attribute [local go_sem] taH80 taM80 taN80 taH82 taM82 taN82 taH88 taM88 taN88 taH75 taM75 taN75 taH70 taM70 taN70 taH74 taM74 taN74 taH72 taM72 taN72

/-- A term and all terms of which it consists, itself first. -/
def subT : Tm → List Tm
  | .num n xs => [.num n xs]
  | .name s => [.name s]
  | .add a b => .add a b :: (subT a ++ subT b)
  | .sub a b => .sub a b :: (subT a ++ subT b)
  | .mul a b => .mul a b :: (subT a ++ subT b)
  | .neg a => .neg a :: subT a
  | .pow a e => .pow a e :: subT a
  | .odd v => [.odd v]

/-- The types of the boxes of terms and formulas. -/
def boxT (t : Nat) : Prop := t = 61 ∨ t = 70 ∨ t = 72 ∨ t = 74 ∨ t = 75 ∨ t = 78 ∨ t = 80 ∨ t = 82 ∨ t = 85 ∨ t = 87 ∨ t = 88 ∨ t = 91 ∨ t = 93 ∨ t = 116 ∨ t = 117 ∨ t = 43
/-- Boxes of terms and formulas lie as they lay. -/
def Keeps (w w' : World) : Prop := ∀ (g t : Nat) (cs : Array Value), boxT t → w.heap[g]? = some (.cells cs t (0, 0)) → w'.heap[g]? = some (.cells cs t (0, 0))
theorem Keeps.refl (w : World) : Keeps w w := fun _ _ _ _ h => h
theorem Keeps.trans {a b c : World} (h : Keeps a b) (k : Keeps b c) : Keeps a c := fun g t cs ht hg => k g t cs ht (h g t cs ht hg)
theorem Keeps.of_below {w w' : World} (h : Below w.heap.size w w') : Keeps w w' := fun g t cs _ hg => blk_below hg h

/-- .. and so does whatever is no row of cells. -/
structure KeepsC (w w' : World) : Prop where
  boxes : Keeps w w'
  size : w.heap.size ≤ w'.heap.size
  others : ∀ (k : Nat) (o : Obj), w.heap[k]? = some o → o.isCells = false → w'.heap[k]? = some o
theorem KeepsC.refl (w : World) : KeepsC w w := ⟨Keeps.refl w, Nat.le_refl _, fun _ _ h _ => h⟩
theorem KeepsC.trans {a b c : World} (h : KeepsC a b) (k : KeepsC b c) : KeepsC a c := ⟨h.boxes.trans k.boxes, Nat.le_trans h.size k.size, fun j o hj ho => k.others j o (h.others j o hj ho) ho⟩
theorem KeepsC.of_below {w w' : World} (h : Below w.heap.size w w') : KeepsC w w' := ⟨Keeps.of_below h, h.size, fun j o hj _ => blk_below hj h⟩

theorem two_box {w : World} {g t : Nat} {u v : Value} (h : w.heap[g]? = some (.cells #[u, v] t (0, 0))) : w.cell? ⟨g, 0, none⟩ = some u ∧ w.cell? ⟨g, 1, none⟩ = some v :=
  ⟨(blk_cell h 0).trans rfl, (blk_cell h 1).trans rfl⟩

set_option maxRecDepth 100000 in
set_option maxHeartbeats 4000000 in
theorem terms_any (k : Nat) (cap : Array Value) (hen : ∀ args w, (callFunc k args).run Try.prog w = .ok (.enter k args) w) (w0 : World) (N : Nat) (J : List Tm → World → Prop)
    (hJ : ∀ pre w w', J pre w → Below w.heap.size w w' → J pre w')
    (hv : ∀ pre t v w, J pre w → IsTm w0 t v → pre.length < N → Calls Try.prog k (#[v] ++ cap) w fun e w' => e = .returned (.tuple #[]) ∧ J (pre ++ [t]) w' ∧ KeepsC w w') :
    ∀ (t : Tm) (v : Value) (pre : List Tm) (w : World), IsTm w0 t v → J pre w → pre.length + (subT t).length ≤ N →
      Calls Try.prog 68 #[v, .func (.func k) #[] cap] w fun e w' => e = .returned (.tuple #[]) ∧ J (pre ++ subT t) w' ∧ KeepsC w w' := by
  intro t
  induction t with
  | num n xs =>
    rintro v pre w ht hJ0 hN
    simp only [subT, List.length_cons, List.length_append, List.length_nil] at hN
    have hv1 := hv pre _ v w hJ0 ht (by omega)
    obtain ⟨A, c, rfl, -⟩ := ht
    go_enter Try.func68, Try.ntmps68
    go_wp2_with (refine hv1.mono ?_; rintro e w1 ⟨rfl, hJ1, hK1⟩)
    go_end0
    exact ⟨rfl, hJ1, hK1⟩
  | name s =>
    rintro v pre w ht hJ0 hN
    simp only [subT, List.length_cons, List.length_append, List.length_nil] at hN
    have hv1 := hv pre _ v w hJ0 ht (by omega)
    cases ht
    go_enter Try.func68, Try.ntmps68
    go_wp2_with (refine hv1.mono ?_; rintro e w1 ⟨rfl, hJ1, hK1⟩)
    go_end0
    exact ⟨rfl, hJ1, hK1⟩
  | add a b iha ihb =>
    rintro v pre w ht hJ0 hN
    simp only [subT, List.length_cons, List.length_append, List.length_nil] at hN
    have hv1 := hv pre _ v w hJ0 ht (by omega)
    obtain ⟨va, vb, rfl, ha, hb⟩ := ht
    have hst := one_store ha.one
    have hst2 := one_store hb.one
    go_enter Try.func68, Try.ntmps68
    go_wp2_with (first
      | (refine hv1.mono ?_; rintro e w1 ⟨rfl, hJ1, hK1⟩
         have hc1 := blk_new w1 (.cells #[va, vb] 88)
         have hJ2 := hJ _ _ _ hJ1 ((Below.refl _ w1).alloc (Nat.le_refl _) (.cells #[va, vb] 88))
         obtain ⟨p0, p1⟩ := two_box hc1)
      | (go_at_call_of 68 va; refine (iha va _ _ ha hJ2 (by simp only [List.length_append, List.length_cons, List.length_nil]; omega)).mono ?_; rintro e w2 ⟨rfl, hJ3, hK3⟩; clear iha
         have hc2 := hK3.boxes _ _ _ (by simp [boxT]) hc1
         obtain ⟨s0, s1⟩ := two_box hc2)
      | (go_at_call_of 68 vb; refine (ihb vb _ _ hb hJ3 (by simp only [List.length_append, List.length_cons, List.length_nil]; omega)).mono ?_; rintro e w3 ⟨rfl, hJ4, hK4⟩))
    go_end0
    exact ⟨rfl, by simpa [subT] using hJ4, (hK1.trans (KeepsC.of_below ((Below.refl _ w1).alloc (Nat.le_refl _) _))).trans (hK3.trans hK4)⟩
  | sub a b iha ihb =>
    rintro v pre w ht hJ0 hN
    simp only [subT, List.length_cons, List.length_append, List.length_nil] at hN
    have hv1 := hv pre _ v w hJ0 ht (by omega)
    obtain ⟨va, vb, rfl, ha, hb⟩ := ht
    have hst := one_store ha.one
    have hst2 := one_store hb.one
    go_enter Try.func68, Try.ntmps68
    go_wp2_with (first
      | (refine hv1.mono ?_; rintro e w1 ⟨rfl, hJ1, hK1⟩
         have hc1 := blk_new w1 (.cells #[va, vb] 75)
         have hJ2 := hJ _ _ _ hJ1 ((Below.refl _ w1).alloc (Nat.le_refl _) (.cells #[va, vb] 75))
         obtain ⟨p0, p1⟩ := two_box hc1)
      | (go_at_call_of 68 va; refine (iha va _ _ ha hJ2 (by simp only [List.length_append, List.length_cons, List.length_nil]; omega)).mono ?_; rintro e w2 ⟨rfl, hJ3, hK3⟩; clear iha
         have hc2 := hK3.boxes _ _ _ (by simp [boxT]) hc1
         obtain ⟨s0, s1⟩ := two_box hc2)
      | (go_at_call_of 68 vb; refine (ihb vb _ _ hb hJ3 (by simp only [List.length_append, List.length_cons, List.length_nil]; omega)).mono ?_; rintro e w3 ⟨rfl, hJ4, hK4⟩))
    go_end0
    exact ⟨rfl, by simpa [subT] using hJ4, (hK1.trans (KeepsC.of_below ((Below.refl _ w1).alloc (Nat.le_refl _) _))).trans (hK3.trans hK4)⟩
  | mul a b iha ihb =>
    rintro v pre w ht hJ0 hN
    simp only [subT, List.length_cons, List.length_append, List.length_nil] at hN
    have hv1 := hv pre _ v w hJ0 ht (by omega)
    obtain ⟨va, vb, rfl, ha, hb⟩ := ht
    have hst := one_store ha.one
    have hst2 := one_store hb.one
    go_enter Try.func68, Try.ntmps68
    go_wp2_with (first
      | (refine hv1.mono ?_; rintro e w1 ⟨rfl, hJ1, hK1⟩
         have hc1 := blk_new w1 (.cells #[va, vb] 70)
         have hJ2 := hJ _ _ _ hJ1 ((Below.refl _ w1).alloc (Nat.le_refl _) (.cells #[va, vb] 70))
         obtain ⟨p0, p1⟩ := two_box hc1)
      | (go_at_call_of 68 va; refine (iha va _ _ ha hJ2 (by simp only [List.length_append, List.length_cons, List.length_nil]; omega)).mono ?_; rintro e w2 ⟨rfl, hJ3, hK3⟩; clear iha
         have hc2 := hK3.boxes _ _ _ (by simp [boxT]) hc1
         obtain ⟨s0, s1⟩ := two_box hc2)
      | (go_at_call_of 68 vb; refine (ihb vb _ _ hb hJ3 (by simp only [List.length_append, List.length_cons, List.length_nil]; omega)).mono ?_; rintro e w3 ⟨rfl, hJ4, hK4⟩))
    go_end0
    exact ⟨rfl, by simpa [subT] using hJ4, (hK1.trans (KeepsC.of_below ((Below.refl _ w1).alloc (Nat.le_refl _) _))).trans (hK3.trans hK4)⟩
  | neg a iha =>
    rintro v pre w ht hJ0 hN
    simp only [subT, List.length_cons, List.length_append, List.length_nil] at hN
    have hv1 := hv pre _ v w hJ0 ht (by omega)
    obtain ⟨va, rfl, ha⟩ := ht
    have hst := one_store ha.one
    go_enter Try.func68, Try.ntmps68
    go_wp2_with (first
      | (refine hv1.mono ?_; rintro e w1 ⟨rfl, hJ1, hK1⟩
         have hJ2 := hJ _ _ _ hJ1 ((Below.refl _ w1).alloc (Nat.le_refl _) (.cells #[va] 74)))
      | (go_at_call_of 68 va; refine (iha va _ _ ha hJ2 (by simp only [List.length_append, List.length_cons, List.length_nil]; omega)).mono ?_; rintro e w2 ⟨rfl, hJ3, hK3⟩))
    go_end0
    exact ⟨rfl, by simpa [subT] using hJ3, (hK1.trans (KeepsC.of_below ((Below.refl _ w1).alloc (Nat.le_refl _) _))).trans hK3⟩
  | pow a e iha =>
    rintro v pre w ht hJ0 hN
    simp only [subT, List.length_cons, List.length_append, List.length_nil] at hN
    have hv1 := hv pre _ v w hJ0 ht (by omega)
    obtain ⟨va, rfl, ha⟩ := ht
    have hst := one_store ha.one
    go_enter Try.func68, Try.ntmps68
    go_wp2_with (first
      | (refine hv1.mono ?_; rintro e' w1 ⟨rfl, hJ1, hK1⟩
         have hJ2 := hJ _ _ _ hJ1 ((Below.refl _ w1).alloc (Nat.le_refl _) (.cells #[va, .int .i64 e] 72)))
      | (go_at_call_of 68 va; refine (iha va _ _ ha hJ2 (by simp only [List.length_append, List.length_cons, List.length_nil]; omega)).mono ?_; rintro e' w2 ⟨rfl, hJ3, hK3⟩))
    go_end0
    exact ⟨rfl, by simpa [subT] using hJ3, (hK1.trans (KeepsC.of_below ((Below.refl _ w1).alloc (Nat.le_refl _) _))).trans hK3⟩
  | odd u =>
    rintro v pre w ht hJ0 hN
    simp only [subT, List.length_cons, List.length_append, List.length_nil] at hN
    have hv1 := hv pre _ v w hJ0 ht (by omega)
    obtain ⟨rfl, rfl | ⟨p, rfl⟩⟩ := ht
    all_goals
      (go_enter Try.func68, Try.ntmps68
       go_wp2_with (refine hv1.mono ?_; rintro e w1 ⟨rfl, hJ1, hK1⟩)
       go_end0
       exact ⟨rfl, hJ1, hK1⟩)
end Go.Proofs.Ytddpojinlapmfaa.PRef
