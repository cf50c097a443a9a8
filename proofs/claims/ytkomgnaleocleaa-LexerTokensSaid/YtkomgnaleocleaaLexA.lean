/- The closure with which lexer.Lex collects the tokens: it appends the token to the list in the box. -/
import Derived.Test.YtkomgnaleocleaaPAllx0
import Derived.Test.YtkomgnaleocleaaNextC
namespace Go.Proofs.Ytkomgnaleocleaa.PAll
open Go.RowKit Go.Proofs.YtkomgnaleocleaaW.PrintWords Go.Proofs.YtkomgnaleocleaaW.PrintLast Go.Proofs.YtkomgnaleocleaaW.PrintMore

/-- The tokens so far, in the box b. -/
structure Box (B b : Nat) (w0 w : World) (acc : List S30) (v : Value) : Prop where
  blk : w.heap[b]? = some (.cells #[v] 23 (0, 0))
  row : Kd.R k30 30 w B (fun k => k ≠ b) v acc
  bel : Below B w0 w
  ge : B ≤ b

theorem yield_done {B b : Nat} {w0 w W w1 : World} {acc : List S30} {v v1 : Value} {x : S30} (hB : Box B b w0 w acc v) (hW : ∀ k, k < w.heap.size → W.heap[k]? = w.heap[k]?) (hz : w.heap.size ≤ W.heap.size)
    (ho : Kd.R k30 30 w1 B (fun k => k ≠ b) v1 (acc ++ [x])) (hb : Below B w0 w1) (hg : W.grownBy w1 v.ownBlock) :
    Box B b w0 (w1.setCell ⟨b, 0, none⟩ v1) (acc ++ [x]) v1 ∧ (∀ k, k < w.heap.size → k ≠ b → some k ≠ v.ownBlock → (w1.setCell ⟨b, 0, none⟩ v1).heap[k]? = w.heap[k]?) := by
  obtain ⟨h1, h2, h3, h4⟩ := hB
  have hlt := blk_lt h1
  have hne : some b ≠ v.ownBlock := fun e => h2.1 b e.symm rfl
  have hb1 : w1.heap[b]? = some (.cells #[v] 23 (0, 0)) := (hg.block b (by omega) hne).trans ((hW b hlt).trans h1)
  refine ⟨⟨blk_put hb1 0 v1 rfl, Kd.R_far ho (p := ⟨b, 0, none⟩) (fun k hk => hk) _, hb.setCell (p := ⟨b, 0, none⟩) h4 _, h4⟩, fun k hk hkb hkv => ?_⟩
  exact (Below.heap_setCell w1 ⟨b, 0, none⟩ v1 k hkb).trans ((hg.block k (by omega) hkv).trans (hW k hk))

theorem yield_box {B b : Nat} {w0 w W w1 : World} {acc : List S30} {v : Value} (hB : Box B b w0 w acc v) (hW : ∀ k, k < w.heap.size → W.heap[k]? = w.heap[k]?) (hz : w.heap.size ≤ W.heap.size) (hg : W.grownBy w1 v.ownBlock) :
    w1.heap[b]? = some (.cells #[v] 23 (0, 0)) := by
  have hlt := blk_lt hB.blk
  exact (hg.block b (by omega) (fun e => hB.row.1 b e.symm rfl)).trans ((hW b hlt).trans hB.blk)

set_option maxRecDepth 100000 in
set_option maxHeartbeats 800000 in
theorem yield_any (B b : Nat) (w0 w : World) (acc : List S30) (v : Value) (x : S30) (hB : Box B b w0 w acc v) (hl : acc.length ≤ 4000) :
    Calls Try.prog 25 #[.agg #[.int .i64 x.f0, .string x.f1, .int .i64 x.f2], .pointer (some ⟨b, 0, none⟩)] w fun e w' => e = .returned (.bool true) ∧ ∃ v', Box B b w0 w' (acc ++ [x]) v' ∧ (∀ k, k < w.heap.size → k ≠ b → some k ≠ v.ownBlock → w'.heap[k]? = w.heap[k]?) := by
  have HBX := Lib.hid hB
  obtain ⟨h1, h2, h3, h4⟩ := hB
  have hb := blk_lt h1
  have HR := Lib.hid h2
  have HB := Lib.hid h3
  have hc : ∀ o, (w.alloc o).cell? ⟨b, 0, none⟩ = some v := fun o => by
    rw [World.cell?_alloc_lt _ _ _ hb]; exact blk_cell h1 0
  have hf : ∀ o, (w.alloc o).frozen? ⟨b, 0, none⟩ = false := fun o => blk_frozen ((Below.heap_alloc w o b hb).trans h1) 0
  clear h1 h2 h3
  have hu30 := Try.underlying30
  go_enter Try.func25, Try.ntmps25
  go_wp2_with (at_builtin; refine Kd.R_append k30 (w0 := w0) B rfl (.tmp 4) (.tmp 6) 23 30 (.agg #[(.int .i64 0), (.string ⟨#[]⟩), (.int .i64 0)]) 32 rfl Try.underlying23 info30 rfl (by decide) (by omega) v acc x [.int .i64 x.f0, .string x.f1, .int .i64 x.f2] (fun k => k ≠ b) (fun _ => False) rfl (by rw [World.size_alloc]; rfl) ?aP (fun _ hk => hk.elim) ?aF ?aO ?aB ?aS ?aL ?_)
  case aP => exact k30_mkM _ _ _ x
  case aF => intro k hk; simp at hk; omega
  case aO => apply Kd.R_alloc; exact HR.out
  case aB => exact HB.out.alloc (by have := HB.out.size; omega) _
  case aS => have := HB.out.size; simp; omega
  case aL => omega
  intro v1 w1 ho hb1 hg _
  have HD := yield_done HBX.out (fun k hk => Below.heap_alloc w _ k hk) (by simp) ho hb1 hg
  have hk1 := yield_box HBX.out (fun k hk => Below.heap_alloc w _ k hk) (by simp) hg
  have hc1 : w1.cell? ⟨b, 0, none⟩ = some v := blk_cell hk1 0
  have hf1 : w1.frozen? ⟨b, 0, none⟩ = false := blk_frozen hk1 0
  clear ho hb1 hg hk1 hc hf
  obtain ⟨A, c, rfl⟩ : ∃ A c, v1 = .slice A (acc.length + 1) c := by
    obtain ⟨A, c, h, _⟩ := Kd.R_reads HD.1.row
    exact ⟨A, c, by rw [h]; simp⟩
  have HD' := Lib.hid HD
  clear HD
  go_wp2
  go_ret
  exact ⟨rfl, _, HD'.out.1, HD'.out.2⟩
end Go.Proofs.Ytkomgnaleocleaa.PAll
