/- append of a token to a boxed list, in a round of a loop over an iterator. -/
import Derived.Maps.OwnIn
import Derived.Test.YtkomgnaleocleaaTokA
namespace Go.Proofs.Ytkomgnaleocleaa.PAll
set_option linter.unusedVariables false
set_option linter.unusedSimpArgs false
open Go.RowKit Go.Shelf Go.Proofs.YtkomgnaleocleaaW.PrintWords Go.Proofs.YtkomgnaleocleaaW.PrintLast Go.Proofs.YtkomgnaleocleaaW.PrintMore

theorem box_typed {B b : Nat} {w0 w : World} {acc : List S30} {v : Value} (hB : Box B b w0 w acc v) : ∀ j (o : Obj), v.ownBlock = some j → w.heap[j]? = some o → o.isCells = true := by
  intro j o hj ho
  obtain ⟨cells, hc⟩ := Kd.R_typed hB.row j hj
  rw [ho] at hc
  cases hc
  rfl

theorem app30 {F : Fence} {nF : Nat} {ops : Array Oper} {rest : List Oper} {o : Oper} {a : Act} {Q : Exit → Act → World → Prop} {W : World} (hgd : o.guard = none) (s x : Operand)
    (ho : o.op = .call { callee := .builtin .append, args := #[s, x], argTypes := #[23, 23] }) (B b : Nat) (w0 : World) (v : Value) (acc : List S30) (p : S30) (hs : a.eval s = v) (hx : a.eval x = .slice (some ⟨W.heap.size, 0, none⟩) 1 1)
    (hB : Box B b w0 W acc v) (hl : acc.length ≤ 5000)
    (h : ∀ v1 w1, w1.cell? ⟨b, 0, none⟩ = some v → w1.frozen? ⟨b, 0, none⟩ = false → Box B b w0 (w1.setCell ⟨b, 0, none⟩ v1) (acc ++ [p]) v1 →
      (∀ k, k < W.heap.size → k ≠ b → some k ≠ v.ownBlock → (w1.setCell ⟨b, 0, none⟩ v1).heap[k]? = W.heap[k]?) → KeepsOthers W (w1.setCell ⟨b, 0, none⟩ v1) → (∃ A c, v1 = .slice A (acc.length + 1) c) → wpListIn F nF Try.prog ops Q rest (a.put o.dst v1) w1) :
    wpListIn F nF Try.prog ops Q (o :: rest) a (W.alloc (.cells #[.int .i64 p.f0, .string p.f1, .int .i64 p.f2] 30)) := by
  have hBX := hB
  obtain ⟨i0, hi, hz0, hz1, hz2⟩ := info_parts info30
  obtain ⟨h1, ⟨h0, inner, hown, hr⟩, h3, h4⟩ := hB
  have hlt := blk_lt h1
  refine wpListIn_append_own_at _ hgd s x 23 ho B 30 i0 _ 3 32 Try.underlying23 hi hz0 hz1 hz2 rfl (by decide) v acc.length inner hs (hown.alloc _) ⟨W.heap.size, 0, none⟩ 1 1 [.int .i64 p.f0, .string p.f1, .int .i64 p.f2] hx rfl
    (by simpa using World.news_of_block (cs := #[.int .i64 p.f0, .string p.f1, .int .i64 p.f2]) (t := 30) (fr := (0, 0)) (heap_alloc_new W (.cells #[.int .i64 p.f0, .string p.f1, .int .i64 p.f2] 30))) (by simp [Value.oneCell']) (by simp only [maxLen]; omega) (by omega) (by have := h3.size; simp; omega) ?_
  intro v1 w1 hown1 hg _ hat
  have hg2 : W.grownBy w1 v.ownBlock := World.grownBy.trans (World.grownBy_alloc W _ _) hg
  have hrow : Kd.R k30 30 w1 B (fun k => k ≠ b) v1 (acc ++ [p]) := by
    refine Kd.R_appended h0 hr (k30_mkM W B (fun _ => False) p) (fun _ hk => hk.elim) (fun k hk => by omega) hown1 hg2 ?_
    rcases hat with hat | hat
    · exact .inl hat
    · exact .inr ⟨_, hat, by simp⟩
  have hb1 : Below B w0 w1 := h3.grown hg2 (by have := h3.size; omega) (own_base hown)
  have hD := yield_done hBX (fun k hk => rfl) (Nat.le_refl _) hrow hb1 hg2
  have hk1 := yield_box hBX (fun k hk => rfl) (Nat.le_refl _) hg2
  refine h v1 w1 (blk_cell hk1 0) (blk_frozen hk1 0) hD.1 hD.2 ?_ ?_
  · exact (KeepsOthers.of_grownBy hg2 (box_typed hBX)).trans (KeepsOthers.setCell _ _ _)
  · obtain ⟨A, c, e, _⟩ := Kd.R_reads hrow
    exact ⟨A, c, by rw [e]; simp⟩

/-- The box and its row speak of cells alone. -/
theorem box_own {B b : Nat} {w0 X Y : World} {acc : List S30} {v : Value} {row : Option Nat} (hB : Box B b w0 X acc v) (hg : X.grownBy Y row) (hrow : ∀ r, row = some r → B ≤ r ∧ ∃ o : Obj, X.heap[r]? = some o ∧ o.isCells = false) : Box B b w0 Y acc v := by
  obtain ⟨h1, h2, h3, h4⟩ := hB
  refine ⟨(hg.block b (blk_lt h1) (fun e => ?_)).trans h1, ?_, h3.grown hg (by have := blk_lt h1; omega) (fun k e => (hrow k e).1), h4⟩
  · obtain ⟨_, o, ho, hc⟩ := hrow b e.symm
    rw [h1] at ho; cases ho; cases hc
  · refine Kd.R_mono (Kd.R_grown (Kd.R_bound h2) hg (fun k hk e => ?_)) (fun k hk => hk.1)
    obtain ⟨_, o, ho, hc⟩ := hrow k e.symm
    obtain ⟨_, _, _, q, _, cells, hq⟩ := hk
    rw [hq] at ho; cases ho; cases hc
end Go.Proofs.Ytkomgnaleocleaa.PAll
