/- formula.parts: the formulas of which one consists directly. -/
import Derived.Test.YtddpojinlapmfaaTermsA
namespace Go.Proofs.Ytddpojinlapmfaa.PRef
set_option linter.unusedVariables false
set_option linter.unusedSimpArgs false
open Go.RowKit Go.Proofs.YtddpojinlapmfaaW.PrintWords Go.Proofs.YtddpojinlapmfaaW.PrintLast Go.Proofs.YtddpojinlapmfaaW.PrintMore
attribute [local go_sem] taH78 taM78 taN78 taH91 taM91 taN91 taH93 taM93 taN93 taH85 taM85 taN85 taH87 taM87 taN87 taH116 taM116 taN116 taH117 taM117 taN117 taH61 taM61 taN61

/-- The formulas of which one consists directly. -/
def kidsF : Fm → List Fm
  | .not a => [a]
  | .and a b => [a, b]
  | .or a b => [a, b]
  | .imp a b => [a, b]
  | .iff a b => [a, b]
  | .quant _ _ a => [a]
  | _ => []

/-- A row of formulas of the call's own: a block of its own (or nil), whose values read in w0. -/
def KidsR (w0 w : World) (v : Value) (l : List Fm) : Prop :=
  (l = [] ∧ v = .slice none 0 0) ∨ ∃ (g : Nat) (vs : List Value), v = .slice (some ⟨g, 0, none⟩) l.length l.length ∧ 0 < l.length ∧ l.length ≤ 2 ∧ w.heap[g]? = some (.cells vs.toArray 43 (0, 0)) ∧ vs.length = l.length ∧ ∀ i (h1 : i < l.length) (h2 : i < vs.length), IsFm w0 l[i] vs[i]

theorem kids_one {w0 W : World} {g : Nat} {a : Fm} {va : Value} (h : W.heap[g]? = some (.cells #[va] 43 (0, 0))) (ha : IsFm w0 a va) : KidsR w0 W (.slice (some ⟨g, 0, none⟩) 1 1) [a] :=
  .inr ⟨g, [va], rfl, by simp, by simp, h, rfl, fun i h1 h2 => by
    obtain rfl : i = 0 := by simp at h2; omega
    exact ha⟩
theorem kids_two {w0 W : World} {g : Nat} {a b : Fm} {va vb : Value} (h : W.heap[g]? = some (.cells #[va, vb] 43 (0, 0))) (ha : IsFm w0 a va) (hb : IsFm w0 b vb) : KidsR w0 W (.slice (some ⟨g, 0, none⟩) 2 2) [a, b] :=
  .inr ⟨g, [va, vb], rfl, by simp, by simp, h, rfl, fun i h1 h2 => by
    rcases i with _ | _ | i
    · exact ha
    · exact hb
    · have : i + 1 + 1 < 2 := h2
      omega⟩
theorem lay2 (w : World) (o : Obj) (cs : Array Value) {vs : Array Value} (h : vs = cs) : ((w.alloc o).alloc (.cells cs 43)).heap[w.heap.size + 1]? = some (.cells vs 43 (0, 0)) := by
  subst h
  have := blk_new (w.alloc o) (.cells vs 43)
  rwa [World.size_alloc] at this

set_option maxRecDepth 100000 in
set_option maxHeartbeats 4000000 in
theorem parts_any (F : Fm) (v : Value) (w0 w : World) (ht : IsFm w0 F v) :
    Calls Try.prog 88 #[v] w fun e w' => ∃ r, e = .returned r ∧ KidsR w0 w' r (kidsF F) ∧ Below w.heap.size w w' := by
  cases F with
  | truth b =>
    cases ht
    go_enter Try.func88, Try.ntmps88
    go_wp2_with fail
    go_ret
    exact ⟨_, rfl, .inl ⟨rfl, rfl⟩, Below.refl _ _⟩
  | atom l r s =>
    obtain ⟨_, _, rfl, _⟩ := ht
    go_enter Try.func88, Try.ntmps88
    go_wp2_with fail
    go_ret
    exact ⟨_, rfl, .inl ⟨rfl, rfl⟩, Below.refl _ _⟩
  | odd u =>
    obtain ⟨rfl, rfl | ⟨p, rfl⟩⟩ := ht
    all_goals
      (go_enter Try.func88, Try.ntmps88
       go_wp2_with fail
       go_ret
       exact ⟨_, rfl, .inl ⟨rfl, rfl⟩, Below.refl _ _⟩)
  | not a =>
    obtain ⟨va, rfl, ha⟩ := ht
    rcases ha.shape with rfl | ⟨ta, xa, rfl⟩
    all_goals
    (go_enter Try.func88, Try.ntmps88
     go_wp2_with fail
     go_ret
     exact ⟨_, rfl, kids_one (lay2 _ _ _ rfl) ha, ((Below.refl _ w).alloc (Nat.le_refl _) _).alloc (by simp) _⟩)
  | quant q nm a =>
    obtain ⟨va, rfl, ha⟩ := ht
    rcases ha.shape with rfl | ⟨ta, xa, rfl⟩
    all_goals
    (go_enter Try.func88, Try.ntmps88
     go_wp2_with fail
     go_ret
     exact ⟨_, rfl, kids_one (lay2 _ _ _ rfl) ha, ((Below.refl _ w).alloc (Nat.le_refl _) _).alloc (by simp) _⟩)
  | and a b =>
    obtain ⟨va, vb, rfl, ha, hb⟩ := ht
    rcases ha.shape with rfl | ⟨ta, xa, rfl⟩ <;> rcases hb.shape with rfl | ⟨tb, xb, rfl⟩
    all_goals
    (go_enter Try.func88, Try.ntmps88
     go_wp2_with fail
     go_ret
     exact ⟨_, rfl, kids_two (lay2 _ _ _ rfl) ha hb, ((Below.refl _ w).alloc (Nat.le_refl _) _).alloc (by simp) _⟩)
  | or a b =>
    obtain ⟨va, vb, rfl, ha, hb⟩ := ht
    rcases ha.shape with rfl | ⟨ta, xa, rfl⟩ <;> rcases hb.shape with rfl | ⟨tb, xb, rfl⟩
    all_goals
    (go_enter Try.func88, Try.ntmps88
     go_wp2_with fail
     go_ret
     exact ⟨_, rfl, kids_two (lay2 _ _ _ rfl) ha hb, ((Below.refl _ w).alloc (Nat.le_refl _) _).alloc (by simp) _⟩)
  | imp a b =>
    obtain ⟨va, vb, rfl, ha, hb⟩ := ht
    rcases ha.shape with rfl | ⟨ta, xa, rfl⟩ <;> rcases hb.shape with rfl | ⟨tb, xb, rfl⟩
    all_goals
    (go_enter Try.func88, Try.ntmps88
     go_wp2_with fail
     go_ret
     exact ⟨_, rfl, kids_two (lay2 _ _ _ rfl) ha hb, ((Below.refl _ w).alloc (Nat.le_refl _) _).alloc (by simp) _⟩)
  | iff a b =>
    obtain ⟨va, vb, rfl, ha, hb⟩ := ht
    rcases ha.shape with rfl | ⟨ta, xa, rfl⟩ <;> rcases hb.shape with rfl | ⟨tb, xb, rfl⟩
    all_goals
    (go_enter Try.func88, Try.ntmps88
     go_wp2_with fail
     go_ret
     exact ⟨_, rfl, kids_two (lay2 _ _ _ rfl) ha hb, ((Below.refl _ w).alloc (Nat.le_refl _) _).alloc (by simp) _⟩)
end Go.Proofs.Ytddpojinlapmfaa.PRef
