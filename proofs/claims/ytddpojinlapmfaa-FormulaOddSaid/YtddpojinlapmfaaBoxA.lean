/- A list of texts in a box: how it grows, plain, in a region that draws its order, and in a round of a loop over an iterator. -/
import Derived.Maps.OwnIn
import Derived.Test.YtddpojinlapmfaaNodesA
namespace Go.Proofs.Ytddpojinlapmfaa.PRef
set_option linter.unusedVariables false
set_option linter.unusedSimpArgs false
open Go.RowKit Go.Shelf Go.Proofs.YtddpojinlapmfaaW.PrintWords Go.Proofs.YtddpojinlapmfaaW.PrintLast Go.Proofs.YtddpojinlapmfaaW.PrintMore

/-- The texts so far, in the box b; their row lies in a block that P lets in. -/
structure BoxS (P : Nat → Prop) (B b : Nat) (w0 w : World) (acc : List ByteArray) (v : Value) : Prop where
  blk : w.heap[b]? = some (.cells #[v] 48 (0, 0))
  row : Kd.string.R 9 w B P v acc
  bel : Below B w0 w
  ge : B ≤ b

/-- Only the box b and rows of texts that P lets in have turned. -/
structure KeepsP (P : Nat → Prop) (b : Nat) (W W' : World) : Prop where
  size : W.heap.size ≤ W'.heap.size
  typ : ∀ (g : Nat) (o : Obj), W.heap[g]? = some o → (∀ cs fr, o ≠ .cells cs 9 fr) → g ≠ b → W'.heap[g]? = some o
  prot : ∀ g, g < W.heap.size → ¬ P g → g ≠ b → W'.heap[g]? = W.heap[g]?
theorem KeepsP.refl (P : Nat → Prop) (b : Nat) (W : World) : KeepsP P b W W := ⟨Nat.le_refl _, fun _ _ h _ _ => h, fun _ _ _ _ => rfl⟩
theorem KeepsP.trans {P : Nat → Prop} {b : Nat} {X Y Z : World} (h : KeepsP P b X Y) (k : KeepsP P b Y Z) : KeepsP P b X Z :=
  ⟨Nat.le_trans h.size k.size, fun g o hg ho hb => k.typ g o (h.typ g o hg ho hb) ho hb, fun g hg hp hb => (k.prot g (by have := h.size; omega) hp hb).trans (h.prot g hg hp hb)⟩
theorem KeepsP.of_below {P : Nat → Prop} {b : Nat} {W W' : World} (h : Below W.heap.size W W') : KeepsP P b W W' :=
  ⟨h.size, fun g o hg _ _ => blk_below hg h, fun g hg _ _ => h.block g hg⟩
theorem KeepsP.keepsC {P : Nat → Prop} {b : Nat} {W W' : World} {v : Value} (h : KeepsP P b W W') (hb : W.heap[b]? = some (.cells #[v] 48 (0, 0))) : KeepsC W W' := by
  refine ⟨fun g t cs ht hg => h.typ g _ hg (fun cs' fr e => ?_) ?_, h.size, fun k o hk ho => h.typ k o hk (fun cs fr e => by subst e; cases ho) ?_⟩
  · cases e; simp [boxT] at ht
  · rintro rfl; rw [hb] at hg; cases hg; simp [boxT] at ht
  · rintro rfl; rw [hb] at hk; cases hk; cases ho
theorem KeepsP.mono {P Q : Nat → Prop} {b : Nat} {W W' : World} (h : KeepsP P b W W') (hq : ∀ k, k < W.heap.size → ¬ Q k → ¬ P k) : KeepsP Q b W W' :=
  ⟨h.size, h.typ, fun g hg hp hb => h.prot g hg (hq g hg hp) hb⟩

theorem BoxS.below {P : Nat → Prop} {B b : Nat} {w0 w w' : World} {acc : List ByteArray} {v : Value} (h : BoxS P B b w0 w acc v) (hb : Below w.heap.size w w') : BoxS P B b w0 w' acc v :=
  ⟨blk_below h.blk hb, Kd.R_below h.row hb, h.bel.trans (hb.mono (by have := blk_lt h.blk; have := h.ge; omega)), h.ge⟩

/-- The box behind an append to its row, and a store. -/
theorem BoxS.put {P : Nat → Prop} {B b : Nat} {w0 W w1 : World} {acc acc1 : List ByteArray} {v v1 : Value} (h : BoxS P B b w0 W acc v) (hg : W.grownBy w1 v.ownBlock) (hr : Kd.string.R 9 w1 B P v1 acc1) (hb : Below B w0 w1) :
    w1.heap[b]? = some (.cells #[v] 48 (0, 0)) ∧ BoxS P B b w0 (w1.setCell ⟨b, 0, none⟩ v1) acc1 v1 ∧ KeepsP P b W (w1.setCell ⟨b, 0, none⟩ v1) := by
  have hne : some b ≠ v.ownBlock := Kd.R_ne h.row h.blk (by decide)
  have hb1 : w1.heap[b]? = some (.cells #[v] 48 (0, 0)) := (hg.block b (blk_lt h.blk) hne).trans h.blk
  have hn1 : some b ≠ v1.ownBlock := Kd.R_ne hr hb1 (by decide)
  refine ⟨hb1, ⟨one_put hb1 v1, ?_, hb.setCell (p := ⟨b, 0, none⟩) h.ge _, h.ge⟩, ?_, ?_, ?_⟩
  · refine Kd.R_mono (Kd.R_far (p := ⟨b, 0, none⟩) (Kd.R_far1 hr rfl hn1) (fun k hk => hk.2) v1) (fun k hk => hk.1)
  · have := hg.size
    simpa [World.setCell] using this
  · intro g o hgo ho hgb
    refine (Below.heap_setCell w1 ⟨b, 0, none⟩ v1 g hgb).trans ((hg.block g (blk_lt hgo) (fun e => ?_)).trans hgo)
    obtain ⟨cells, hc⟩ := Kd.R_typed h.row g e.symm
    rw [hgo] at hc
    exact ho _ _ (Option.some.inj hc)
  · intro g hlt hp hgb
    refine (Below.heap_setCell w1 ⟨b, 0, none⟩ v1 g hgb).trans (hg.block g hlt (fun e => hp (h.row.1 g e.symm)))

section
variable {ops : Array Oper} {rest : List Oper} {o : Oper} {a : Act} {Q : Exit → Act → World → Prop} {Kc : Act → World → Prop} {W : World}
theorem str_M {W : World} {base : Nat} {ok : Nat → Prop} (p : ByteArray) : Kd.string.M W base ok p [.string p] := rfl
theorem str_slice {w : World} {base : Nat} {ok : Nat → Prop} {v : Value} {xs : List ByteArray} (h : Kd.string.R 9 w base ok v xs) : ∃ A c, v = .slice A xs.length c := by
  obtain ⟨A, c, e, _⟩ := Kd.R_reads h
  exact ⟨A, c, e⟩

/-- append of a text to the list in the box: a step of a region that draws its order. -/
theorem app9_step (hw : Region.wanted o (yielded ops a.tmps) = true) (s x : Operand) (ho : o.op = .call { callee := .builtin .append, args := #[s, x], argTypes := #[48, 48] }) (P : Nat → Prop) (B b : Nat) (w0 : World) (v : Value) (acc : List ByteArray) (p : ByteArray)
    (hs : a.eval s = v) (hx : a.eval x = .slice (some ⟨W.heap.size, 0, none⟩) 1 1) (hB : BoxS P B b w0 W acc v) (hP : ∀ k, W.heap.size ≤ k → P k) (hl : acc.length ≤ 1000000000000)
    (h : ∀ v1 w1, w1.heap[b]? = some (.cells #[v] 48 (0, 0)) → BoxS P B b w0 (w1.setCell ⟨b, 0, none⟩ v1) (acc ++ [p]) v1 → KeepsP P b W (w1.setCell ⟨b, 0, none⟩ v1) → (∀ (g : Nat) (o : Obj), W.heap[g]? = some o → (∀ cs fr, o ≠ .cells cs 9 fr) → w1.heap[g]? = some o) → (∃ A c, v1 = .slice A (acc.length + 1) c) → Kc (a.put o.dst v1) w1) :
    if Region.wanted o (yielded ops a.tmps) = true then Oper.wp Try.prog o a (W.alloc (.cells #[.string p] 9)) Kc Q else Kc (a.put o.dst undef) (W.alloc (.cells #[.string p] 9)) := by
  refine Kd.R_append_step (w0 := w0) Kd.string B hw s x 48 9 (.string ⟨#[]⟩) 16 ho Try.underlying48 info9 rfl (by decide) (by decide) v acc p [.string p] P (fun _ => False) hs hx (str_M p) (fun _ hk => hk.elim) hP hB.row hB.bel (by have := blk_lt hB.blk; have := hB.ge; omega) (by omega) ?_
  intro v1 w1 hr hb hg _
  obtain ⟨A, c, e⟩ := str_slice hr
  obtain ⟨q1, q2, q3⟩ := hB.put hg hr hb
  refine h v1 w1 q1 q2 q3 (fun g o hgo ho => (hg.block g (blk_lt hgo) (fun e => ?_)).trans hgo) ⟨A, c, by rw [e]; simp⟩
  obtain ⟨cells, hc⟩ := Kd.R_typed hB.row g e.symm
  rw [hgo] at hc
  exact ho _ _ (Option.some.inj hc)
/-- .. in a walk. -/
theorem app9 (hgd : o.guard = none) (s x : Operand) (ho : o.op = .call { callee := .builtin .append, args := #[s, x], argTypes := #[48, 48] }) (P : Nat → Prop) (B b : Nat) (w0 : World) (v : Value) (acc : List ByteArray) (p : ByteArray)
    (hs : a.eval s = v) (hx : a.eval x = .slice (some ⟨W.heap.size, 0, none⟩) 1 1) (hB : BoxS P B b w0 W acc v) (hP : ∀ k, W.heap.size ≤ k → P k) (hl : acc.length ≤ 1000000000000)
    (h : ∀ v1 w1, w1.cell? ⟨b, 0, none⟩ = some v → w1.frozen? ⟨b, 0, none⟩ = false → BoxS P B b w0 (w1.setCell ⟨b, 0, none⟩ v1) (acc ++ [p]) v1 → KeepsP P b W (w1.setCell ⟨b, 0, none⟩ v1) → (∃ A c, v1 = .slice A (acc.length + 1) c) → wpList Try.prog ops Q rest (a.put o.dst v1) w1) :
    wpList Try.prog ops Q (o :: rest) a (W.alloc (.cells #[.string p] 9)) := by
  refine Kd.R_append (w0 := w0) Kd.string B hgd s x 48 9 (.string ⟨#[]⟩) 16 ho Try.underlying48 info9 rfl (by decide) (by decide) v acc p [.string p] P (fun _ => False) hs hx (str_M p) (fun _ hk => hk.elim) hP hB.row hB.bel (by have := blk_lt hB.blk; have := hB.ge; omega) (by omega) ?_
  intro v1 w1 hr hb hg _
  obtain ⟨A, c, e⟩ := str_slice hr
  obtain ⟨q1, q2, q3⟩ := hB.put hg hr hb
  exact h v1 w1 ((blk_cell q1 0).trans rfl) (blk_frozen q1 0) q2 q3 ⟨A, c, by rw [e]; simp⟩
/-- .. in a fenced walk. -/
theorem app9_in {F : Fence} {nF : Nat} (hgd : o.guard = none) (s x : Operand) (ho : o.op = .call { callee := .builtin .append, args := #[s, x], argTypes := #[48, 48] }) (P : Nat → Prop) (B b : Nat) (w0 : World) (v : Value) (acc : List ByteArray) (p : ByteArray)
    (hs : a.eval s = v) (hx : a.eval x = .slice (some ⟨W.heap.size, 0, none⟩) 1 1) (hB : BoxS P B b w0 W acc v) (hP : ∀ k, W.heap.size ≤ k → P k) (hl : acc.length ≤ 1000000000000)
    (h : ∀ v1 w1, w1.cell? ⟨b, 0, none⟩ = some v → w1.frozen? ⟨b, 0, none⟩ = false → BoxS P B b w0 (w1.setCell ⟨b, 0, none⟩ v1) (acc ++ [p]) v1 → KeepsP P b W (w1.setCell ⟨b, 0, none⟩ v1) → (∃ A c, v1 = .slice A (acc.length + 1) c) → wpListIn F nF Try.prog ops Q rest (a.put o.dst v1) w1) :
    wpListIn F nF Try.prog ops Q (o :: rest) a (W.alloc (.cells #[.string p] 9)) := by
  obtain ⟨i0, hi, hz0, hz1, hz2⟩ := info_parts info9
  obtain ⟨h0, inner, hown, hr⟩ := hB.row
  have hBw : B ≤ W.heap.size := by have := blk_lt hB.blk; have := hB.ge; omega
  refine wpListIn_append_own_at _ hgd s x 48 ho B 9 i0 _ 1 16 Try.underlying48 hi hz0 hz1 hz2 rfl (by decide) v acc.length inner hs (hown.alloc _) ⟨W.heap.size, 0, none⟩ 1 1 [.string p] hx rfl
    (by simpa using World.news_of_block (cs := #[.string p]) (t := 9) (fr := (0, 0)) (heap_alloc_new W (.cells #[.string p] 9))) (by simp [Value.oneCell']) (by simp only [maxLen]; omega) (by omega) (by simp; omega) ?_
  intro v1 w1 hown1 hg _ hat
  have hg2 : W.grownBy w1 v.ownBlock := World.grownBy.trans (World.grownBy_alloc W _ _) hg
  have hrow : Kd.string.R 9 w1 B P v1 (acc ++ [p]) := by
    refine Kd.R_appended h0 hr (str_M (W := W) (base := B) (ok := fun _ => False) p) (fun _ hk => hk.elim) hP hown1 hg2 ?_
    rcases hat with hat | hat
    · exact .inl hat
    · exact .inr ⟨_, hat, by simp⟩
  have hb1 : Below B w0 w1 := hB.bel.grown hg2 hBw (own_base hown)
  obtain ⟨A, c, e⟩ := str_slice hrow
  obtain ⟨q1, q2, q3⟩ := hB.put hg2 hrow hb1
  exact h v1 w1 ((blk_cell q1 0).trans rfl) (blk_frozen q1 0) q2 q3 ⟨A, c, by rw [e]; simp⟩
end
end Go.Proofs.Ytddpojinlapmfaa.PRef
