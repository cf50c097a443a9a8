/- A tree that comes in reads as a tree. -/
import Derived.Test.YtddpojinlapmfaaRefK
import Derived.Deep.Slices
import Derived.Deep.Strs
import Derived.Deep.Fields
import Derived.ChangeSame
namespace Go.Proofs.Ytddpojinlapmfaa.PRef
set_option linter.unusedVariables false
set_option linter.unusedSimpArgs false
open Go.RowKit Go.Proofs.YtddpojinlapmfaaW.PrintWords Go.Proofs.YtddpojinlapmfaaW.PrintLast Go.Proofs.YtddpojinlapmfaaW.PrintMore

/-- The numbers in a tree are of their kinds. -/
inductive WfS : S29 → Prop
  | mk (x : S29) (h1 : ∀ z ∈ x.f1.f1, 0 ≤ z ∧ z < 4294967296) (h3 : -9223372036854775808 ≤ x.f3 ∧ x.f3 ≤ 9223372036854775807) (hk : ∀ y ∈ x.f7, WfS y) : WfS x

theorem list_of {α : Type} (Q : Nat → α → Prop) : ∀ n : Nat, (∀ i, i < n → ∃ y, Q i y) → ∃ ys : List α, ys.length = n ∧ ∀ i y, ys[i]? = some y → Q i y := by
  intro n
  induction n with
  | zero => intro _; exact ⟨[], rfl, fun i y h => by simp at h⟩
  | succ n ih =>
    intro h
    obtain ⟨ys, hl, hq⟩ := ih (fun i hi => h i (by omega))
    obtain ⟨y, hy⟩ := h n (by omega)
    refine ⟨ys ++ [y], by simp [hl], fun i z hz => ?_⟩
    rcases Nat.lt_or_ge i ys.length with h1 | h1
    · rw [List.getElem?_append_left h1] at hz; exact hq i z hz
    · rw [List.getElem?_append_right h1] at hz
      have hi : i = n := by
        rcases Nat.eq_zero_or_pos (i - ys.length) with e | e
        · omega
        · rw [List.getElem?_eq_none (by simp; omega)] at hz; cases hz
      subst hi
      rw [hl, Nat.sub_self] at hz
      simp only [List.getElem?_cons_zero, Option.some.injEq] at hz
      subst hz
      exact hy

theorem ce3 : Try.prog.cellsOf 3 = 1 := by kernel_rfl
theorem ce4 : Try.prog.cellsOf 4 = 1 := by kernel_rfl
theorem ce9 : Try.prog.cellsOf 9 = 1 := by kernel_rfl
theorem ce23 : Try.prog.cellsOf 23 = 1 := by kernel_rfl
theorem ce25 : Try.prog.cellsOf 25 = 2 := by kernel_rfl
theorem ce26 : Try.prog.cellsOf 26 = 1 := by kernel_rfl
theorem ce27 : Try.prog.cellsOf 27 = 1 := by kernel_rfl
theorem ce29 : Try.prog.cellsOf 29 = 9 := by kernel_rfl
theorem ce103 : Try.prog.cellsOf 103 = 1 := by kernel_rfl

variable {H : Type} {enc : TypeId × Value → H} {w : World} {base : Nat} {spare : Nat → Bool} {held : Bool}
theorem trod_words {fuel : Nat} {v : Value} {X : DataW H × List MemPlace} (h : DataW.trod enc Try.prog w base spare held fuel 23 [v] = some X) :
    ∃ A c zs, v = .slice A zs.length c ∧ zs.length ≤ c ∧ (Kd.int .u32).C w A zs.length zs ∧ ∀ z ∈ zs, 0 ≤ z ∧ z < 4294967296 := by
  rcases Go.Deep.open_slice Try.underlying23 h with ⟨h0, _⟩ | ⟨ad, len, cap, m, n', D, Pl, hcs, hb, hl, hm, hmm, hx, hi⟩
  · simp only [List.cons.injEq, and_true] at h0
    subst h0
    exact ⟨none, 0, [], rfl, Nat.le_refl _, nil_C, fun z hz => by cases hz⟩
  · simp only [List.cons.injEq, and_true] at hcs
    subst hcs
    have hle : len ≤ m := by rw [hmm]; split <;> omega
    obtain ⟨zs, hz, hq⟩ := list_of (fun i (z : Int) => w.cell? (ad.add i) = some (.int .u32 z) ∧ 0 ≤ z ∧ z < 4294967296) len (fun i hin => by
      obtain ⟨cs', hc, ht'⟩ := hi i (by omega)
      rw [ce103] at hc
      obtain ⟨z, e, _, hw⟩ := DataW.trod_int Try.underlying103 ht'
      subst e
      obtain ⟨_, _, hat⟩ := World.cells?_some hc
      have q0 := hat 0 (by decide)
      rw [Go.Deep.add_add] at q0
      simp [Lit.wf, IntKind.min, IntKind.max, IntKind.signed, IntKind.bits] at hw
      refine ⟨z, ?_, by omega, by omega⟩
      simpa using q0)
    subst hz
    have hml : maxLen ≤ 9223372036854775807 := by unfold maxLen; omega
    refine ⟨some ad, cap, zs, rfl, hl, ⟨rfl, by omega, fun _ => ⟨ad, rfl, fun j p hj => ⟨[.int .u32 p], rfl, rfl, fun i u hu => ?_⟩⟩⟩, fun z hz => ?_⟩
    · rcases i with _ | i
      · simp only [List.getElem?_cons_zero, Option.some.injEq] at hu
        subst hu
        have := (hq j p hj).1
        have e : (Kd.int .u32).sz = 1 := rfl
        rw [e, Nat.mul_one, Nat.add_zero]
        exact this
      · simp at hu
    · obtain ⟨i, hi2, rfl⟩ := List.getElem_of_mem hz
      exact (hq i _ (List.getElem?_eq_getElem hi2)).2

set_option maxRecDepth 100000 in
theorem trod_tree : ∀ (fuel : Nat) (cs : List Value) (X : DataW H × List MemPlace), DataW.trod enc Try.prog w base spare held fuel 29 cs = some X → ∃ x : S29, k29.K w x cs ∧ WfS x := by
  intro fuel
  induction fuel using Nat.strongRecOn with
  | _ fuel ih =>
  intro cs X h
  obtain ⟨xs, n, hn, _, hl, hlen, hf⟩ := DataW.trod_struct Try.underlying29 h
  rw [ce29] at hl
  match cs, hl with
  | [c0, c1, c2, c3, c4, c5, c6, c7, c8], _ =>
  match xs, hlen with
  | [y0, y1, y2, y3, y4, y5, y6, y7], _ =>
  have g0 : DataW.trod enc Try.prog w base spare held n 3 (([c0, c1, c2, c3, c4, c5, c6, c7, c8].drop 0).take (Try.prog.cellsOf 3)) = some y0 := hf 0 _ rfl
  have g1 : DataW.trod enc Try.prog w base spare held n 25 (([c0, c1, c2, c3, c4, c5, c6, c7, c8].drop 1).take (Try.prog.cellsOf 25)) = some y1 := hf 1 _ rfl
  have g2 : DataW.trod enc Try.prog w base spare held n 9 (([c0, c1, c2, c3, c4, c5, c6, c7, c8].drop 3).take (Try.prog.cellsOf 9)) = some y2 := hf 2 _ rfl
  have g3 : DataW.trod enc Try.prog w base spare held n 3 (([c0, c1, c2, c3, c4, c5, c6, c7, c8].drop 4).take (Try.prog.cellsOf 3)) = some y3 := hf 3 _ rfl
  have g4 : DataW.trod enc Try.prog w base spare held n 26 (([c0, c1, c2, c3, c4, c5, c6, c7, c8].drop 5).take (Try.prog.cellsOf 26)) = some y4 := hf 4 _ rfl
  have g5 : DataW.trod enc Try.prog w base spare held n 4 (([c0, c1, c2, c3, c4, c5, c6, c7, c8].drop 6).take (Try.prog.cellsOf 4)) = some y5 := hf 5 _ rfl
  have g6 : DataW.trod enc Try.prog w base spare held n 4 (([c0, c1, c2, c3, c4, c5, c6, c7, c8].drop 7).take (Try.prog.cellsOf 4)) = some y6 := hf 6 _ rfl
  have g7 : DataW.trod enc Try.prog w base spare held n 27 (([c0, c1, c2, c3, c4, c5, c6, c7, c8].drop 8).take (Try.prog.cellsOf 27)) = some y7 := hf 7 _ rfl
  simp only [ce3, ce4, ce9, ce25, ce26, ce27] at g0 g1 g2 g3 g4 g5 g6 g7
  obtain ⟨z0, e0, _, _⟩ := DataW.trod_int Try.underlying3 g0
  obtain ⟨p0, p1, n2, _, _, k0, k1⟩ := Go.ChangeShapes.trod_struct2 Try.underlying25 g1
  simp only [ce4, ce23] at k0 k1
  obtain ⟨b1, e1, _⟩ := DataW.trod_bool Try.underlying4 k0
  obtain ⟨A2, q2, zs, e2, l2, C2, W2⟩ := trod_words (v := c2) k1
  obtain ⟨s2, e3, _, _⟩ := DataW.trod_string Try.underlying9 g2
  obtain ⟨z3, e4, _, w3⟩ := DataW.trod_int Try.underlying3 g3
  obtain ⟨z4, e5, _, _⟩ := DataW.trod_int Try.underlying26 g4
  obtain ⟨b5, e6, _⟩ := DataW.trod_bool Try.underlying4 g5
  obtain ⟨b6, e7, _⟩ := DataW.trod_bool Try.underlying4 g6
  simp at e0 e1 e3 e4 e5 e6 e7
  subst e0 e1 e2 e3 e4 e5 e6 e7
  have hw3 : -9223372036854775808 ≤ z3 ∧ z3 ≤ 9223372036854775807 := by
    simp [Lit.wf, IntKind.min, IntKind.max, IntKind.signed, IntKind.bits] at w3
    omega
  have hK : ∃ A8 q8 ts, c8 = .slice A8 ts.length q8 ∧ ts.length ≤ q8 ∧ k29.C w A8 ts.length ts ∧ ∀ y ∈ ts, WfS y := by
    have g7' : DataW.trod enc Try.prog w base spare held n 27 [c8] = some y7 := g7
    rcases DataW.trod_slice Try.underlying27 g7' with ⟨h0, _⟩ | ⟨ad, len, cap, elems, rest, n', hn', hcs, _, hb, hl, hm, hlen', hel, _⟩
    · simp only [List.cons.injEq, and_true] at h0
      subst h0
      exact ⟨none, 0, [], rfl, Nat.le_refl _, nil_C, fun y hy => by cases hy⟩
    · simp only [List.cons.injEq, and_true] at hcs
      subst hcs
      obtain ⟨ts, hz, hq⟩ := list_of (fun i (y : S29) => ∃ cs', w.cells? base (ad.add (i * 9)) 9 = some cs' ∧ k29.K w y cs' ∧ WfS y) len (fun i hin => by
        have h1 := hel i hin
        rw [ce29] at h1
        rw [List.getElem?_eq_getElem (by omega)] at h1
        obtain ⟨cs', hc, ht'⟩ := Option.bind_eq_some_iff.1 h1
        obtain ⟨y, hK, hW⟩ := ih n' (by omega) cs' _ ht'
        exact ⟨y, cs', hc, hK, hW⟩)
      subst hz
      have hml : maxLen ≤ 9223372036854775807 := by unfold maxLen; omega
      refine ⟨some ad, cap, ts, rfl, hl, ⟨rfl, by omega, fun _ => ⟨ad, rfl, fun j p hj => ?_⟩⟩, fun y hy => ?_⟩
      · obtain ⟨cs', hc, hK, _⟩ := hq j p hj
        obtain ⟨_, hcl, hat⟩ := World.cells?_some hc
        refine ⟨cs', hcl, hK, fun i u hu => ?_⟩
        have hi : i < 9 := by rw [← hcl]; exact (List.getElem?_eq_some_iff.1 hu).1
        have := hat i hi
        rw [Go.Deep.add_add, hu] at this
        exact this
      · obtain ⟨i, hi2, rfl⟩ := List.getElem_of_mem hy
        obtain ⟨_, _, _, hW⟩ := hq i _ (List.getElem?_eq_getElem hi2)
        exact hW
  obtain ⟨A8, q8, ts, rfl, l8, C8, W8⟩ := hK
  exact ⟨⟨z0, ⟨b1, zs⟩, s2, z3, z4, b5, b6, ts⟩, k29_mk w ⟨z0, ⟨b1, zs⟩, s2, z3, z4, b5, b6, ts⟩ l2 C2 l8 C8, .mk _ W2 hw3 W8⟩
end Go.Proofs.Ytddpojinlapmfaa.PRef
