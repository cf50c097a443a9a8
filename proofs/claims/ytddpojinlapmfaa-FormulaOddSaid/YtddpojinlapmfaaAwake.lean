/- formula.Free; the laws' own check, awake. -/
import Derived.Test.YtddpojinlapmfaaFreeB
import Derived.Test.YtddpojinlapmfaaFormB
namespace Go.Proofs.Ytddpojinlapmfaa.PRef
set_option linter.unusedVariables false
set_option linter.unusedSimpArgs false
open Go.RowKit Go.Shelf Go.Proofs.YtddpojinlapmfaaW.PrintWords Go.Proofs.YtddpojinlapmfaaW.PrintLast Go.Proofs.YtddpojinlapmfaaW.PrintMore

set_option maxRecDepth 100000 in
set_option maxHeartbeats 1600000 in
theorem freeF_any (F : Fm) (v : Value) (w : World) (hv : IsFm w F v) (hT : nT F ≤ 1000000) (hQ : nQ F ≤ 1000000) :
    Calls Try.prog 27 #[v] w fun e w' => ∃ A c, e = .returned (.slice A (freeL [] F []).length c) ∧ Kd.string.R 9 w' w.heap.size (fun _ => True) (.slice A (freeL [] F []).length c) (freeL [] F []) ∧ Below w.heap.size w w' := by
  have hb := blk_new w (.cells #[.slice none 0 0] 48)
  have hW := (Below.refl w.heap.size w).alloc (Nat.le_refl _) (.cells #[.slice none 0 0] 48)
  have hB : BoxS (fun _ => True) w.heap.size w.heap.size w (w.alloc (.cells #[.slice none 0 0] 48)) [] (.slice none 0 0) := ⟨hb, Kd.R_nil _ _ _ _ _, hW, Nat.le_refl _⟩
  have T := free_any w w w.heap.size w.heap.size F (fun _ => True) v [] [] none 0 (.slice none 0 0) (w.alloc (.cells #[.slice none 0 0] 48)) hv hB (fun W _ => ⟨rfl, Nat.zero_le _, fun h => absurd h (Nat.lt_irrefl _)⟩) (Nat.le_refl _) (fun _ _ => trivial) (by simp; omega) (by simp; omega)
  go_enter Try.func27, Try.ntmps27
  go_wp2_with (go_at_call 63; refine T.mono ?_; clear T; rintro e W3 ⟨rfl, vo3, hB3, hK3⟩; obtain ⟨q0, q1⟩ := box_of hB3.blk; obtain ⟨A, c, hs⟩ := str_slice hB3.row; subst hs)
  go_ret
  exact ⟨A, c, rfl, hB3.row, hB3.bel⟩

theorem field_kind (k : Int) (b c d e f g h i : Value) (w : World) : (Instr.field 29 (.agg #[.int .i64 k, b, c, d, e, f, g, h, i]) 0).run Try.prog w = .ok (.int .i64 k) w := by
  simp [Instr.field, run_underlying Try.underlying29, part, Try.isAgg3, asAgg, go_sem]
def awF : Fm := .atom (.name ⟨#[120]⟩) 1 (.num false [3])
theorem aw_nodes : cntN ((wk awF 0).map Prod.snd) = 3 := by simp [cntN, wk, awF, ownN, subT, bump, wrap64]
theorem aw_free : freeL [] awF [] = [⟨#[120]⟩] := by simp [freeL, awF, subT, addName, hasB]
theorem aw_nT : nT awF ≤ 1000000 := by simp [nT, awF, subT]
theorem aw_nQ : nQ awF ≤ 1000000 := by simp [nQ, awF]
theorem aw_small : SmallF awF := ⟨trivial, (by show [(3 : Int)].length ≤ 1000; decide)⟩
theorem aw_wk : (wk awF 0).length ≤ 1000000 := by simp [wk, awF]
set_option maxRecDepth 100000 in
set_option maxHeartbeats 4000000 in
theorem awake_any (w : World) : Calls Try.prog 16 #[] w fun e w' => e = .returned (.bool true) ∧ Below w.heap.size w w' := by
  have hu91 := Try.underlying91
  obtain ⟨w1, hw1⟩ : ∃ w1, (w.alloc (.cells #[.int .u32 3] 103)).alloc (.cells #[.iface 82 (.agg #[.string ⟨#[120]⟩]), .int .i64 1, .iface 80 (.agg #[.bool false, .slice (some ⟨w.heap.size, 0, none⟩) 1 1])] 91) = w1 := ⟨_, rfl⟩
  have hW : Below w.heap.size w w1 := by rw [← hw1]; exact ((Below.refl _ w).alloc (Nat.le_refl _) _).alloc (by simp) _
  have hz : w1.heap.size = w.heap.size + 2 := by rw [← hw1]; simp
  have hb0 : w1.heap[w.heap.size]? = some (.cells #[.int .u32 3] 103 (0, 0)) := by rw [← hw1]; exact blk_alloc (blk_new _ _) _
  have hb1 : w1.heap[w.heap.size + 1]? = some (.cells #[.iface 82 (.agg #[.string ⟨#[120]⟩]), .int .i64 1, .iface 80 (.agg #[.bool false, .slice (some ⟨w.heap.size, 0, none⟩) 1 1])] 91 (0, 0)) := by
    rw [← hw1]
    have := blk_new (w.alloc (.cells #[.int .u32 3] 103)) (.cells #[.iface 82 (.agg #[.string ⟨#[120]⟩]), .int .i64 1, .iface 80 (.agg #[.bool false, .slice (some ⟨w.heap.size, 0, none⟩) 1 1])] 91)
    rwa [World.size_alloc] at this
  have hv : IsFm w1 awF (.iface 91 (.agg #[.iface 82 (.agg #[.string ⟨#[120]⟩]), .int .i64 1, .iface 80 (.agg #[.bool false, .slice (some ⟨w.heap.size, 0, none⟩) 1 1])])) := by
    refine ⟨_, _, rfl, rfl, ⟨_, 1, rfl, Nat.le_refl _, rfl, by simp, fun _ => ⟨_, rfl, fun j p hj => ⟨[.int .u32 p], rfl, rfl, fun i u hu => ?_⟩⟩⟩⟩
    obtain rfl : j = 0 := by rcases j with _ | j <;> simp_all
    obtain rfl : i = 0 := by rcases i with _ | i <;> simp_all
    simp only [List.getElem?_cons_zero, Option.some.injEq] at hj hu
    subst hj hu
    exact (blk_cell hb0 0).trans rfl
  obtain ⟨p0, p1, p2⟩ := three_box hb1
  obtain ⟨V, hV⟩ : ∃ V, (Value.iface 91 (.agg #[.iface 82 (.agg #[.string ⟨#[120]⟩]), .int .i64 1, .iface 80 (.agg #[.bool false, .slice (some ⟨w.heap.size, 0, none⟩) 1 1])])) = V := ⟨_, rfl⟩
  rw [hV] at hv
  have T := freeF_any awF V w1 hv aw_nT aw_nQ
  rw [aw_free] at T
  go_enter Try.func16, Try.ntmps16
  go_upto_region 3 with (go_at_call 27; refine T.mono ?_; clear T; rintro e w2 ⟨A, c, rfl, hR, hB2⟩)
  clear hw1
  have hv2 := hv.below hB2
  obtain ⟨q0, q1, q2⟩ := three_box (blk_below hb1 hB2)
  obtain ⟨_, hc1, hC⟩ := Kd.R_reads' hR
  obtain ⟨ad, rfl, hs0⟩ := Kd.at_string hC 0 (by omega) (by decide)
  simp only [rdOf, Int.toNat_zero, List.getD_cons_zero] at hs0
  have hcc : (1 : Nat) ≤ c := hc1
  have T1 := nodes_any awF V w2 w2 (Below.refl _ _) hv2 aw_wk
  rw [aw_nodes] at T1
  have hl0 : ad.add 0 = ad := by simp [Addr.add]
  rw [hl0] at hs0
  have hBB : Below w.heap.size w w2 := hW.trans (hB2.mono (by omega))
  have hu29 := Try.underlying29
  have k9 : (plainF awF).f0 = 9 := rfl
  have hfk := field_kind
  go_wp2_with (first
    | (go_at_call 35; refine T1.mono ?_; clear T1; rintro e w3 ⟨rfl, hB3⟩
       have r0 := pw_cell_below hB3 q0
       have r1 := pw_cell_below hB3 q1
       have r2 := pw_cell_below hB3 q2
       have t0 := pw_cell_below hB3 hs0)
    | (go_at_call 24; refine (plainF_any awF V _ aw_small (hv2.below hB3)).mono ?_; dsimp only [treeV]; rintro e w4 ⟨v2, v8, rfl, hT, hB4⟩))
  go_ret
  exact ⟨rfl, (hBB.trans (hB3.mono (by have := hB2.size; omega))).trans (hB4.mono (by have := hB2.size; have := hB3.size; omega))⟩
end Go.Proofs.Ytddpojinlapmfaa.PRef
