-- printed by wip/tools/xprint.py (the kit's print program, with stubs); checked by Lean
import Derived.Test.YtddpojinlapmfaaPRefx0
import Derived.Test.YtddpojinlapmfaaPRefRB
import Derived.Test.YtddpojinlapmfaaPRefRC
namespace Go.Proofs.Ytddpojinlapmfaa.PRef
open Go.RowKit Go.Proofs.YtddpojinlapmfaaW.PrintWords Go.Proofs.YtddpojinlapmfaaW.PrintLast Go.Proofs.YtddpojinlapmfaaW.PrintMore
attribute [local go_sem] max2_int min2_int max_two min_two max_three min_three max_four min_four   -- for this text's walks alone
set_option linter.unusedVariables false
set_option linter.unusedSimpArgs false

/-! ### cylinderref34_Parts: function 31 -/
def cylinderref34_Parts.l0 : Nat → List (S29) → List Int → List (S29) → List Int → Int → Int → Option ((List (S29)) × List Int)
  | 0, _, _, _, _, _, _ => none
  | k + 1, x4, x5, x6, x7, x15, x16 => if x16 < x15 then (if 0 ≤ x16 then (if x16 < (x4.length : Int) then ((cylinderref34_isTerm.f ((rd_T29 x4 x16).f0)).bind fun t236 => (if t236 = true then (cylinderref34_Parts.l0 k x4 x5 x6 x7 x15 (wrap64 (x16 + 1))) else (if x6.length < 1353245080339 then (if x16 < (x5.length : Int) then (if x7.length < 17592186044416 then (cylinderref34_Parts.l0 k x4 x5 (x6 ++ [(⟨(rd_T29 x4 x16).f0, (⟨(rd_T29 x4 x16).f1.f0, (rd_T29 x4 x16).f1.f1⟩ : S25), (rd_T29 x4 x16).f2, (rd_T29 x4 x16).f3, (rd_T29 x4 x16).f4, (rd_T29 x4 x16).f5, (rd_T29 x4 x16).f6, (rd_T29 x4 x16).f7⟩ : S29)]) (x7 ++ [rd x5 x16]) x15 (wrap64 (x16 + 1))) else (none)) else (none)) else (none)))) else (none)) else (none)) else (some (x6, x7))
def cylinderref34_Parts.f (k : Nat) (a0_0 : Int) (a0_1 : Bool) (l0_2 : List Int) (a0_3 : ByteArray) (a0_4 : Int) (a0_5 : Int) (a0_6 : Bool) (a0_7 : Bool) (l0_8 : List (S29)) : Option ((List (S29)) × List Int) := (cylinderref34_List.f k a0_0 a0_1 l0_2 a0_3 a0_4 a0_5 a0_6 a0_7 l0_8 0).bind fun bt229 => (cylinderref34_Parts.l0 k bt229.1 bt229.2 ([] : List (S29)) ([] : List Int) (bt229.1.length : Int) 0)
theorem cylinderref34_Parts.mono_l : ∀ k, (∀ y0 y1 y2 y3 y4 y5, LeO (cylinderref34_Parts.l0 k y0 y1 y2 y3 y4 y5) (cylinderref34_Parts.l0 (k + 1) y0 y1 y2 y3 y4 y5))
  | 0 => fun _ _ _ _ _ _ r h => by simp [cylinderref34_Parts.l0] at h
  | k + 1 => by
    have ih0 := cylinderref34_Parts.mono_l k
    · intro y0 y1 y2 y3 y4 y5
      unfold cylinderref34_Parts.l0
      repeat' first
      | (with_reducible exact ih0 _ _ _ _ _ _)
      | (with_reducible exact cylinderref34_List.mono _ _ _ _ _ _ _ _ _ _ _)
      | (with_reducible exact LeO.refl _)
      | (with_reducible exact LeO.none _)
      | (with_reducible refine LeO.ite ?_ ?_)
      | (with_reducible refine LeO.bind ?_ (fun _ => ?_))
      | exact ih0 _ _ _ _ _ _
      | exact cylinderref34_List.mono _ _ _ _ _ _ _ _ _ _ _
      | exact LeO.none _
      | refine LeO.ite ?_ ?_
      | refine LeO.bind ?_ (fun _ => ?_)
theorem cylinderref34_Parts.mono : ∀ a0 a1 a2 a3 a4 a5 a6 a7 a8 k, LeO (cylinderref34_Parts.f k a0 a1 a2 a3 a4 a5 a6 a7 a8) (cylinderref34_Parts.f (k + 1) a0 a1 a2 a3 a4 a5 a6 a7 a8) := by
  intro a0 a1 a2 a3 a4 a5 a6 a7 a8 k
  have ih0 := cylinderref34_Parts.mono_l k
  unfold cylinderref34_Parts.f
  repeat' first
      | (with_reducible exact ih0 _ _ _ _ _ _)
      | (with_reducible exact cylinderref34_List.mono _ _ _ _ _ _ _ _ _ _ _)
      | (with_reducible exact LeO.refl _)
      | (with_reducible exact LeO.none _)
      | (with_reducible refine LeO.ite ?_ ?_)
      | (with_reducible refine LeO.bind ?_ (fun _ => ?_))
      | exact ih0 _ _ _ _ _ _
      | exact cylinderref34_List.mono _ _ _ _ _ _ _ _ _ _ _
      | exact LeO.none _
      | refine LeO.ite ?_ ?_
      | refine LeO.bind ?_ (fun _ => ?_)
set_option maxHeartbeats 8000000 in
set_option maxRecDepth 100000 in
theorem cylinderref34_Parts.calls (k : Nat) (a0_0 : Int) (a0_1 : Bool) (P0_2_ : Nat → Prop) (A0_2 : Option Addr) (c0_2 : Nat) (l0_2 : List Int) (a0_3 : ByteArray) (a0_4 : Int) (a0_5 : Int) (a0_6 : Bool) (a0_7 : Bool) (P0_8_ : Nat → Prop) (A0_8 : Option Addr) (c0_8 : Nat) (l0_8 : List (S29)) (r1 : List (S29)) (r2 : List Int) (w : World) (hs0_2 : Kd.V (Kd.int .u32) 103 w w.heap.size (fun k_ => P0_2_ k_) (.slice A0_2 l0_2.length c0_2) l0_2) (hs0_8 : Kd.V k29 29 w w.heap.size (fun k_ => P0_8_ k_) (.slice A0_8 l0_8.length c0_8) l0_8) (h : cylinderref34_Parts.f k a0_0 a0_1 l0_2 a0_3 a0_4 a0_5 a0_6 a0_7 l0_8 = some (r1, r2)) :
    Calls Try.prog 31 #[.agg #[.int .i64 a0_0, .bool a0_1, .slice A0_2 l0_2.length c0_2, .string a0_3, .int .i64 a0_4, .int .i64 a0_5, .bool a0_6, .bool a0_7, .slice A0_8 l0_8.length c0_8]] w fun e w' => ∃ v0_ v1_ : Value, e = .returned (.tuple #[v0_, v1_]) ∧ Kd.N k29 29 w' w.heap.size (fun k_ => ((P0_2_ k_ ∨ P0_8_ k_) ∨ w.heap.size ≤ k_) ∧ some k_ ≠ (v1_ : Value).ownBlock) v0_ r1 ∧ Kd.R (Kd.int .i64) 3 w' w.heap.size (fun k_ => (w.heap.size ≤ k_)) v1_ r2 ∧ Below w.heap.size w w' := by
  have hu29 := Try.underlying29
  have HO0_2 := Aside0.mk (show Kd.V (Kd.int .u32) 103 w w.heap.size (fun k_ => ((P0_2_ k_ ∨ P0_8_ k_) ∨ w.heap.size ≤ k_)) (.slice A0_2 l0_2.length c0_2) l0_2 from Kd.V_mono hs0_2 (fun k_ hk => .inl (.inl hk)))
  have HO0_8 := Aside0.mk (show Kd.V k29 29 w w.heap.size (fun k_ => ((P0_2_ k_ ∨ P0_8_ k_) ∨ w.heap.size ≤ k_)) (.slice A0_8 l0_8.length c0_8) l0_8 from Kd.V_mono hs0_8 (fun k_ hk => .inl (.inr hk)))
  have HB := Aside0.mk (Below.refl w.heap.size w)
  have H : ((cylinderref34_List.f k a0_0 a0_1 l0_2 a0_3 a0_4 a0_5 a0_6 a0_7 l0_8 0).bind fun bt229 => (cylinderref34_Parts.l0 k bt229.1 bt229.2 ([] : List (S29)) ([] : List Int) (bt229.1.length : Int) 0)) = some (r1, r2) := h
  clear h
  replace H := Option.bind_eq_some_iff.mp H
  obtain ⟨⟨t229, t232⟩, A20, H⟩ := H
  replace H : (cylinderref34_Parts.l0 k t229 t232 ([] : List (S29)) ([] : List Int) (t229.length : Int) 0) = some (r1, r2) := H
  have A2 := Aside0.mk A20
  clear A20
  have H' := Aside0.mk H
  clear H
  go_enter Try.func31, Try.ntmps31
  go_wp2_with (first | ((with_reducible refine gate_dst (N := 1) rfl ?_); refine box_event ?hg (N := 1) ?hd (cs := #[.int .i64 a0_0, .bool a0_1, .slice A0_2 l0_2.length c0_2, .string a0_3, .int .i64 a0_4, .int .i64 a0_5, .bool a0_6, .bool a0_7, .slice A0_8 l0_8.length c0_8]) (t := 29) ?hr ?_; (case hd => rfl); (case hg => rfl); (case hr => first | (go_simp; done) | (go_simp; rfl)); intro gb228 hg w3 hbox hb; have n0_ := Aside0.mk (Kd.V_below (Kd.V_elderB (by (with_reducible repeat (first | apply Kd.V_alloc | apply Kd.V_drewN | apply Kd.V_drew)); exact HO0_2.out) gb228 (Nat.le_of_eq hg.symm)) hb); have n1_ := Aside0.mk (Kd.V_below (Kd.V_elderB (by (with_reducible repeat (first | apply Kd.V_alloc | apply Kd.V_drewN | apply Kd.V_drew)); exact HO0_8.out) gb228 (Nat.le_of_eq hg.symm)) hb); have n2_ := Aside0.mk (below_step (by repeat (first | (with_reducible first | exact HB.out | apply below_alloc | apply pw_below_drewN | apply below_drew1) | exact HB.out)) hb); have n3_ := Aside0.mk (hbox); have n4_ := Aside0.mk ((by rw [hg]; exact (below_size (by repeat (first | (with_reducible first | exact HB.out | apply below_alloc | apply pw_below_drewN | apply below_drew1) | exact HB.out))) : w.heap.size ≤ gb228)); have n5_ := Aside0.mk ((by rw [hg]; exact (below_size (by repeat (first | (with_reducible first | exact HB.out | apply below_alloc | apply pw_below_drewN | apply below_drew1) | exact HB.out))) : w.heap.size ≤ gb228)); clear HO0_2; clear HO0_8; clear HB; have HO0_2 := n0_; have HO0_8 := n1_; have HB := n2_; have BK228 := n3_; have GW228 := n4_; have GE228 := n5_; clear n0_ n1_ n2_ n3_ n4_ n5_; clear hb hbox hg; have hcz4_0 : w3.cell? ⟨gb228, 0, none⟩ = some (.int .i64 a0_0) := (blk_cell BK228.out 0).trans rfl; have hcz4_1 : w3.cell? ⟨gb228, 1, none⟩ = some (.bool a0_1) := (blk_cell BK228.out 1).trans rfl; have hcz4_2 : w3.cell? ⟨gb228, 2, none⟩ = some (.slice A0_2 l0_2.length c0_2) := (blk_cell BK228.out 2).trans rfl; have hcz4_3 : w3.cell? ⟨gb228, 3, none⟩ = some (.string a0_3) := (blk_cell BK228.out 3).trans rfl; have hcz4_4 : w3.cell? ⟨gb228, 4, none⟩ = some (.int .i64 a0_4) := (blk_cell BK228.out 4).trans rfl; have hcz4_5 : w3.cell? ⟨gb228, 5, none⟩ = some (.int .i64 a0_5) := (blk_cell BK228.out 5).trans rfl; have hcz4_6 : w3.cell? ⟨gb228, 6, none⟩ = some (.bool a0_6) := (blk_cell BK228.out 6).trans rfl; have hcz4_7 : w3.cell? ⟨gb228, 7, none⟩ = some (.bool a0_7) := (blk_cell BK228.out 7).trans rfl; have hcz4_8 : w3.cell? ⟨gb228, 8, none⟩ = some (.slice A0_8 l0_8.length c0_8) := (blk_cell BK228.out 8).trans rfl; have hfz4_0 := blk_frozen BK228.out 0; have hfz4_1 := blk_frozen BK228.out 1; have hfz4_2 := blk_frozen BK228.out 2; have hfz4_3 := blk_frozen BK228.out 3; have hfz4_4 := blk_frozen BK228.out 4; have hfz4_5 := blk_frozen BK228.out 5; have hfz4_6 := blk_frozen BK228.out 6; have hfz4_7 := blk_frozen BK228.out 7; have hfz4_8 := blk_frozen BK228.out 8) | ((with_reducible refine gate_callee (f := 54) rfl ?_); refine goesL_ (some 11) rfl rfl Try.func54 (by kernel_rfl) rfl #[.agg #[.int .i64 a0_0, .bool a0_1, .slice A0_2 l0_2.length c0_2, .string a0_3, .int .i64 a0_4, .int .i64 a0_5, .bool a0_6, .bool a0_7, .slice A0_8 l0_8.length c0_8], .int .i64 0] rfl (by (try simp only [List.map_toArray, List.map_cons, List.map_nil]); first | done | rfl | (simp only [List.length_drop, List.length_take]; rfl)) ?_; (with_reducible refine (cylinderref34_List.calls k a0_0 a0_1 (fun k_ => (((P0_2_ k_ ∨ P0_8_ k_) ∨ w.heap.size ≤ k_) ∧ k_ ≠ gb228)) _ _ l0_2 a0_3 a0_4 a0_5 a0_6 a0_7 (fun k_ => (((P0_2_ k_ ∨ P0_8_ k_) ∨ w.heap.size ≤ k_) ∧ k_ ≠ gb228)) _ _ l0_8 0 t229 t232 _ ?side1 ?side2 A2.out).mono ?_); (case side1 => exact HO0_2.out); (case side2 => exact HO0_8.out); rintro e w5 ⟨v230, v233, rfl, ho0, ho1, hb⟩; refine ⟨_, rfl, ?_⟩; have n0_ := Aside0.mk (Kd.V_mono (Kd.V_told (Kd.V_told (Kd.V_old (by (with_reducible repeat (first | apply Kd.V_alloc | apply Kd.V_drewN | apply Kd.V_drew)); exact HO0_2.out) hb) (Kd.N_base ho0)) (Kd.R_base ho1)) (fun _ h_ => h_.1)); have n1_ := Aside0.mk (Kd.V_mono (Kd.V_told (Kd.V_told (Kd.V_old (by (with_reducible repeat (first | apply Kd.V_alloc | apply Kd.V_drewN | apply Kd.V_drew)); exact HO0_8.out) hb) (Kd.N_base ho0)) (Kd.R_base ho1)) (fun _ h_ => h_.1)); have n2_ := Aside0.mk (Kd.N_lower (Kd.N_mono (ok' := fun k_ => ((P0_2_ k_ ∨ P0_8_ k_) ∨ w.heap.size ≤ k_) ∧ some k_ ≠ (v233 : Value).ownBlock ∧ k_ ≠ gb228) ho0 (fun k_ hk_ => ⟨Or.elim hk_.1 (fun hs_ => Or.elim hs_ (fun hs_ => hs_.1) (fun hs_ => hs_.1)) (fun hn_ => (.inr (Nat.le_trans (below_size (by repeat (first | (with_reducible first | exact HB.out | apply below_alloc | apply pw_below_drewN | apply below_drew1 | refine below_set ?_ GE228.out) | exact HB.out))) hn_))), hk_.2, Or.elim hk_.1 (fun hs_ => Or.elim hs_ (fun hs_ => hs_.2) (fun hs_ => hs_.2)) (fun hn_ => (Kd.freshB (g := gb228) (o := .cells #[.int .i64 a0_0, .bool a0_1, .slice A0_2 l0_2.length c0_2, .string a0_3, .int .i64 a0_4, .int .i64 a0_5, .bool a0_6, .bool a0_7, .slice A0_8 l0_8.length c0_8] 29 (0, 0)) (by (with_reducible repeat (first | refine blk_drewN ?_ _ | refine blk_drew ?_ | refine blk_alloc ?_ _)); exact BK228.out) k_ hn_))⟩)) (below_size (by repeat (first | (with_reducible first | exact HB.out | apply below_alloc | apply pw_below_drewN | apply below_drew1 | refine below_set ?_ GE228.out) | exact HB.out)))); have n3_ := Aside0.mk (Kd.R_lower (Kd.R_newM (M := fun k_ => (w.heap.size ≤ k_)) (Kd.R_mono (ok' := fun k_ => True) ho1 (fun _ hk_ => trivial)) (below_size (by repeat (first | (with_reducible first | exact HB.out | apply below_alloc | apply pw_below_drewN | apply below_drew1 | refine below_set ?_ GE228.out) | exact HB.out))) (fun k_ h_ => h_)) (below_size (by repeat (first | (with_reducible first | exact HB.out | apply below_alloc | apply pw_below_drewN | apply below_drew1 | refine below_set ?_ GE228.out) | exact HB.out)))); have n4_ := Aside0.mk (blk_below (g := gb228) (o := .cells #[.int .i64 a0_0, .bool a0_1, .slice A0_2 l0_2.length c0_2, .string a0_3, .int .i64 a0_4, .int .i64 a0_5, .bool a0_6, .bool a0_7, .slice A0_8 l0_8.length c0_8] 29 (0, 0)) (by (with_reducible repeat (first | refine blk_drewN ?_ _ | refine blk_drew ?_ | refine blk_alloc ?_ _)); exact BK228.out) hb); have n5_ := Aside0.mk (below_step (by repeat (first | (with_reducible first | exact HB.out | apply below_alloc | apply pw_below_drewN | apply below_drew1 | refine below_set ?_ GE228.out) | exact HB.out)) hb); clear HO0_2; clear HO0_8; clear BK228; clear HB; have HO0_2 := n0_; have HO0_8 := n1_; have HO231 := n2_; have HO234 := n3_; have BK228 := n4_; have HB := n5_; clear n0_ n1_ n2_ n3_ n4_ n5_; (try clear hb); (try clear hb2); (try clear hk); (try clear hi); (try clear ho0); (try clear ho1); obtain ⟨Ao6, co6, eo6⟩ := Kd.N_slice HO231.out; subst eo6))
  go_loopg [6, 7, 16] k (fun kq v6 v7 v16 w' => ∃ (x6_1 : List (S29)) (x7_1 : List Int) (x16_1 : Int), v16 = .int .i64 x16_1 ∧ Aside0 (cylinderref34_Parts.l0 kq t229 t232 x6_1 x7_1 (t229.length : Int) x16_1 = some (r1, r2)) ∧ Aside0 (kq ≤ k) ∧ Aside0 (Kd.N k29 29 w' w.heap.size (fun k_ => ((P0_2_ k_ ∨ P0_8_ k_) ∨ w.heap.size ≤ k_) ∧ some k_ ≠ (v233 : Value).ownBlock ∧ some k_ ≠ (v6 : Value).ownBlock ∧ some k_ ≠ (v7 : Value).ownBlock ∧ k_ ≠ gb228) (.slice Ao6 t229.length co6) t229) ∧ Aside0 (Kd.R (Kd.int .i64) 3 w' w.heap.size (fun k_ => (w.heap.size ≤ k_) ∧ some k_ ≠ (v7 : Value).ownBlock) v233 t232) ∧ Aside0 (Kd.N k29 29 w' w.heap.size (fun k_ => ((P0_2_ k_ ∨ P0_8_ k_) ∨ w.heap.size ≤ k_) ∧ some k_ ≠ ((.slice Ao6 t229.length co6) : Value).ownBlock ∧ some k_ ≠ (v233 : Value).ownBlock ∧ some k_ ≠ (v7 : Value).ownBlock ∧ k_ ≠ gb228) v6 x6_1) ∧ Aside0 (Kd.R (Kd.int .i64) 3 w' w.heap.size (fun k_ => (w.heap.size ≤ k_) ∧ some k_ ≠ (v233 : Value).ownBlock) v7 x7_1) ∧ Aside0 (Kd.V (Kd.int .u32) 103 w' w.heap.size (fun k_ => ((P0_2_ k_ ∨ P0_8_ k_) ∨ w.heap.size ≤ k_) ∧ some k_ ≠ ((.slice Ao6 t229.length co6) : Value).ownBlock ∧ some k_ ≠ (v233 : Value).ownBlock ∧ some k_ ≠ (v6 : Value).ownBlock ∧ some k_ ≠ (v7 : Value).ownBlock ∧ k_ ≠ gb228) (.slice A0_2 l0_2.length c0_2) l0_2) ∧ Aside0 (Kd.V k29 29 w' w.heap.size (fun k_ => ((P0_2_ k_ ∨ P0_8_ k_) ∨ w.heap.size ≤ k_) ∧ some k_ ≠ ((.slice Ao6 t229.length co6) : Value).ownBlock ∧ some k_ ≠ (v233 : Value).ownBlock ∧ some k_ ≠ (v6 : Value).ownBlock ∧ some k_ ≠ (v7 : Value).ownBlock ∧ k_ ≠ gb228) (.slice A0_8 l0_8.length c0_8) l0_8) ∧ Aside0 (w'.heap[gb228]? = some (.cells #[.int .i64 a0_0, .bool a0_1, (.slice A0_2 l0_2.length c0_2), .string a0_3, .int .i64 a0_4, .int .i64 a0_5, .bool a0_6, .bool a0_7, (.slice A0_8 l0_8.length c0_8)] 29 (0, 0))) ∧ Aside0 (Below w.heap.size w w'))
  case atStart => exact ⟨(([] : List (S29))), (([] : List Int)), (0), (by first | rfl | (simp; done) | (simp [*]; done)), H', ⟨Nat.le_refl _⟩, ⟨by (with_reducible repeat (first | apply Kd.N_alloc | apply Kd.N_drewN | apply Kd.N_drew)); exact Kd.N_mono HO231.out (fun _ hk => ⟨hk.1, ⟨hk.2.1, ⟨(by simp [Value.ownBlock]), ⟨(by simp [Value.ownBlock]), hk.2.2⟩⟩⟩⟩)⟩, ⟨by (with_reducible repeat (first | apply Kd.R_alloc | apply Kd.R_drewN | apply Kd.R_drew)); exact Kd.R_mono HO234.out (fun _ hk => ⟨hk.1, (by simp [Value.ownBlock])⟩)⟩, ⟨by first | exact Kd.R_nil _ _ _ _ _ | exact Kd.N_nil _ _ _ _ _ | exact Kd.V_nil _ _ _ _ _ | exact Kd.Q_nil _ _ _ _ _ | exact Kd.S_nil _ _ _ _ _⟩, ⟨by first | exact Kd.R_nil _ _ _ _ _ | exact Kd.N_nil _ _ _ _ _ | exact Kd.V_nil _ _ _ _ _ | exact Kd.Q_nil _ _ _ _ _ | exact Kd.S_nil _ _ _ _ _⟩, ⟨by (with_reducible repeat (first | apply Kd.V_alloc | apply Kd.V_drewN | apply Kd.V_drew)); exact Kd.V_mono HO0_2.out (fun _ hk => ⟨hk.1.1.1, ⟨hk.1.2, ⟨hk.2, ⟨(by simp [Value.ownBlock]), ⟨(by simp [Value.ownBlock]), hk.1.1.2⟩⟩⟩⟩⟩)⟩, ⟨by (with_reducible repeat (first | apply Kd.V_alloc | apply Kd.V_drewN | apply Kd.V_drew)); exact Kd.V_mono HO0_8.out (fun _ hk => ⟨hk.1.1.1, ⟨hk.1.2, ⟨hk.2, ⟨(by simp [Value.ownBlock]), ⟨(by simp [Value.ownBlock]), hk.1.1.2⟩⟩⟩⟩⟩)⟩, ⟨by (with_reducible repeat (first | refine blk_drewN ?_ _ | refine blk_drew ?_ | refine blk_alloc ?_ _)); exact BK228.out⟩, ⟨by repeat (first | (with_reducible first | exact HB.out | apply below_alloc | apply pw_below_drewN | apply below_drew1 | refine below_set ?_ GE228.out) | exact HB.out)⟩⟩
  case round =>
    clear H'
    try clear p2
    try clear c3
    try clear c5
    try clear hcz4_0
    try clear hcz4_1
    try clear hcz4_2
    try clear hcz4_3
    try clear hcz4_4
    try clear hcz4_5
    try clear hcz4_6
    try clear hcz4_7
    try clear hcz4_8
    try clear hfz4_0
    try clear hfz4_1
    try clear hfz4_2
    try clear hfz4_3
    try clear hfz4_4
    try clear hfz4_5
    try clear hfz4_6
    try clear hfz4_7
    try clear hfz4_8
    obtain ⟨x6_1, x7_1, x16_1, rfl, HA, HK1, HO_4, HO_5, HO_6, HO_7, HO_229002, HO_229008, BK228, HB⟩ := hrel
    cases gk with
    | zero => exact absurd HA.out (by simp [cylinderref34_Parts.l0])
    | succ k1 =>
      have H := HA.out
      clear HA
      simp only [cylinderref34_Parts.l0] at H
      by_cases c7 : x16_1 < (t229.length : Int)
      · rw [if_pos c7] at H
        have c7b0 : decide (x16_1 < (t229.length : Int)) = true := decide_eq_true c7
        clear c7
        by_cases c8 : 0 ≤ x16_1
        · rw [if_pos c8] at H
          have c8b0 : decide (0 ≤ x16_1) = true := decide_eq_true c8
          clear c8
          by_cases c9 : x16_1 < (t229.length : Int)
          · rw [if_pos c9] at H
            have c9b0 : decide (x16_1 < (t229.length : Int)) = true := decide_eq_true c9
            clear c9
            replace H := Option.bind_eq_some_iff.mp H
            obtain ⟨t236, A100, H⟩ := H
            replace H : (if t236 = true then (cylinderref34_Parts.l0 k1 t229 t232 x6_1 x7_1 (t229.length : Int) (wrap64 (x16_1 + 1))) else (if x6_1.length < 1353245080339 then (if x16_1 < (t232.length : Int) then (if x7_1.length < 17592186044416 then (cylinderref34_Parts.l0 k1 t229 t232 (x6_1 ++ [(⟨(rd_T29 t229 x16_1).f0, (⟨(rd_T29 t229 x16_1).f1.f0, (rd_T29 t229 x16_1).f1.f1⟩ : S25), (rd_T29 t229 x16_1).f2, (rd_T29 t229 x16_1).f3, (rd_T29 t229 x16_1).f4, (rd_T29 t229 x16_1).f5, (rd_T29 t229 x16_1).f6, (rd_T29 t229 x16_1).f7⟩ : S29)]) (x7_1 ++ [rd t232 x16_1]) (t229.length : Int) (wrap64 (x16_1 + 1))) else (none)) else (none)) else (none))) = some (r1, r2) := H
            have A10 := Aside0.mk A100
            clear A100
            by_cases c11 : t236 = true
            · subst c11
              have H1 : (cylinderref34_Parts.l0 k1 t229 t232 x6_1 x7_1 (t229.length : Int) (wrap64 (x16_1 + 1))) = some (r1, r2) := by rw [if_pos rfl] at H; exact H
              clear H
              have H := H1
              clear H1
              have H' := Aside0.mk H
              clear H
              have p235 : 0 ≤ (x16_1 : Int) := of_decide_eq_true (by first | (with_reducible assumption) | assumption)
              have q235 : x16_1 < (t229.length : Int) := of_decide_eq_true (by first | (with_reducible assumption) | assumption)
              obtain ⟨ad235, A235_2, c235_2, A235_8, c235_8, e235, hx235_0, hx235_1, hx235_2, hx235_3, hx235_4, hx235_5, hx235_6, hx235_7, hx235_8, hl235_2, hi235_2, hl235_8, hi235_8⟩ := at_T29 (Kd.N_reads' HO_4.out).2.2 x16_1 p235 q235
              cases e235
              obtain ⟨ce235, hce235, hMe235, hcc235⟩ := Kd.N_get HO_4.out z29 x16_1 p235 (by first | exact q235 | exact of_decide_eq_true (by first | (with_reducible assumption) | assumption) | (have e_ := (Kd.N_reads' HO_4.out).1; omega))
              obtain ⟨ua235_2, uc235_2, ua235_8, uc235_8, rfl, ul235_2, ge235_2, ul235_8, ge235_8⟩ := k29_openF hMe235
              have hv235_2 := hcc235 2 _ rfl
              rw [add_field _ _ 2 (by omega)] at hv235_2
              replace hv235_2 := Option.some.inj (hv235_2.symm.trans hx235_2)
              injection hv235_2 with hva_ hvn_ hvc_
              rw [hva_] at ge235_2
              rw [hvc_] at ul235_2
              have HL235_2 := Aside0.mk (show Kd.V (Kd.int .u32) 103 _ w.heap.size _ _ ((rd_T29 t229 x16_1).f1.f1) from Kd.V_mk ul235_2 ge235_2)
              clear hva_ hvn_ hvc_ ge235_2 ul235_2
              have hv235_8 := hcc235 8 _ rfl
              rw [add_field _ _ 8 (by omega)] at hv235_8
              replace hv235_8 := Option.some.inj (hv235_8.symm.trans hx235_8)
              injection hv235_8 with hva_ hvn_ hvc_
              rw [hva_] at ge235_8
              rw [hvc_] at ul235_8
              have HL235_8 := Aside0.mk (show Kd.V k29 29 _ w.heap.size _ _ ((rd_T29 t229 x16_1).f7) from Kd.V_mk ul235_8 ge235_8)
              clear hva_ hvn_ hvc_ ge235_8 ul235_8
              clear hcc235 hce235
              have HR235_2 := Aside0.mk hi235_2
              have HC235_2 := Aside0.mk hl235_2
              clear hi235_2 hl235_2
              have HR235_8 := Aside0.mk hi235_8
              have HC235_8 := Aside0.mk hl235_8
              clear hi235_8 hl235_8
              replace p235 := eq_true p235
              replace q235 := eq_true q235
              go_wp2_with (first | ((with_reducible refine gate_callee (f := 57) rfl ?_); refine goesL_ (some 24) rfl rfl Try.func57 (by kernel_rfl) rfl #[.int .i64 ((rd_T29 t229 x16_1).f0)] rfl (by (try simp only [List.map_toArray, List.map_cons, List.map_nil]); first | done | rfl | (simp only [List.length_drop, List.length_take]; rfl)) ?_; (with_reducible refine (cylinderref34_isTerm.calls ((rd_T29 t229 x16_1).f0) true _ A10.out).mono ?_); rintro e w' ⟨rfl, ⟨nd, rfl⟩⟩; refine ⟨_, rfl, ?_⟩))
              go_roundg k1
              case measure => have := HK1.out; omega
              case rel => exact ⟨(x6_1), (x7_1), (wrap64 (x16_1 + 1)), (by first | rfl | (simp; done) | (simp [*]; done)), H', ⟨by have := HK1.out; omega⟩, ⟨by (with_reducible repeat (first | apply Kd.N_alloc | apply Kd.N_drewN | apply Kd.N_drew)); exact HO_4.out⟩, ⟨by (with_reducible repeat (first | apply Kd.R_alloc | apply Kd.R_drewN | apply Kd.R_drew)); exact HO_5.out⟩, ⟨by (with_reducible repeat (first | apply Kd.N_alloc | apply Kd.N_drewN | apply Kd.N_drew)); exact HO_6.out⟩, ⟨by (with_reducible repeat (first | apply Kd.R_alloc | apply Kd.R_drewN | apply Kd.R_drew)); exact HO_7.out⟩, ⟨by (with_reducible repeat (first | apply Kd.V_alloc | apply Kd.V_drewN | apply Kd.V_drew)); exact HO_229002.out⟩, ⟨by (with_reducible repeat (first | apply Kd.V_alloc | apply Kd.V_drewN | apply Kd.V_drew)); exact HO_229008.out⟩, ⟨by (with_reducible repeat (first | refine blk_drewN ?_ _ | refine blk_drew ?_ | refine blk_alloc ?_ _)); exact BK228.out⟩, ⟨by repeat (first | (with_reducible first | exact HB.out | apply below_alloc | apply pw_below_drewN | apply below_drew1 | refine below_set ?_ GE228.out) | exact HB.out)⟩⟩
            · replace c11 := Bool.eq_false_iff.mpr c11
              subst c11
              have H1 : (if x6_1.length < 1353245080339 then (if x16_1 < (t232.length : Int) then (if x7_1.length < 17592186044416 then (cylinderref34_Parts.l0 k1 t229 t232 (x6_1 ++ [(⟨(rd_T29 t229 x16_1).f0, (⟨(rd_T29 t229 x16_1).f1.f0, (rd_T29 t229 x16_1).f1.f1⟩ : S25), (rd_T29 t229 x16_1).f2, (rd_T29 t229 x16_1).f3, (rd_T29 t229 x16_1).f4, (rd_T29 t229 x16_1).f5, (rd_T29 t229 x16_1).f6, (rd_T29 t229 x16_1).f7⟩ : S29)]) (x7_1 ++ [rd t232 x16_1]) (t229.length : Int) (wrap64 (x16_1 + 1))) else (none)) else (none)) else (none)) = some (r1, r2) := by rw [if_neg (show ¬ (false = true) by decide)] at H; exact H
              clear H
              have H := H1
              clear H1
              by_cases c12 : x6_1.length < 1353245080339
              · rw [if_pos c12] at H
                have LMc12 := Aside0.mk c12
                clear c12
                obtain ⟨y238, hy238⟩ : ∃ y_ : List (S29), y_ = (x6_1 ++ [(⟨(rd_T29 t229 x16_1).f0, (⟨(rd_T29 t229 x16_1).f1.f0, (rd_T29 t229 x16_1).f1.f1⟩ : S25), (rd_T29 t229 x16_1).f2, (rd_T29 t229 x16_1).f3, (rd_T29 t229 x16_1).f4, (rd_T29 t229 x16_1).f5, (rd_T29 t229 x16_1).f6, (rd_T29 t229 x16_1).f7⟩ : S29)]) := ⟨_, rfl⟩
                replace H : (if x16_1 < (t232.length : Int) then (if x7_1.length < 17592186044416 then (cylinderref34_Parts.l0 k1 t229 t232 y238 (x7_1 ++ [rd t232 x16_1]) (t229.length : Int) (wrap64 (x16_1 + 1))) else (none)) else (none)) = some (r1, r2) := by first | (rw [hy238]; with_reducible exact H) | (have H2_ := (Option.bind_some _ _).symm.trans H; rw [hy238]; with_reducible exact H2_) | (have H2_ := (Option.bind_some _ _).symm.trans H; with_reducible exact H2_) | with_reducible exact H | (rw [hy238]; exact H) | exact H
                have Ny238 := Aside0.mk hy238
                clear hy238
                by_cases c13 : x16_1 < (t232.length : Int)
                · rw [if_pos c13] at H
                  have c13b0 : decide (x16_1 < (t232.length : Int)) = true := decide_eq_true c13
                  clear c13
                  by_cases c14 : x7_1.length < 17592186044416
                  · rw [if_pos c14] at H
                    have LMc14 := Aside0.mk c14
                    clear c14
                    obtain ⟨y242, hy242⟩ : ∃ y_ : List Int, y_ = (x7_1 ++ [rd t232 x16_1]) := ⟨_, rfl⟩
                    replace H : (cylinderref34_Parts.l0 k1 t229 t232 y238 y242 (t229.length : Int) (wrap64 (x16_1 + 1))) = some (r1, r2) := by first | (rw [hy242]; with_reducible exact H) | (have H2_ := (Option.bind_some _ _).symm.trans H; rw [hy242]; with_reducible exact H2_) | (have H2_ := (Option.bind_some _ _).symm.trans H; with_reducible exact H2_) | with_reducible exact H | (rw [hy242]; exact H) | exact H
                    have Ny242 := Aside0.mk hy242
                    clear hy242
                    have H' := Aside0.mk H
                    clear H
                    have p235 : 0 ≤ (x16_1 : Int) := of_decide_eq_true (by first | (with_reducible assumption) | assumption)
                    have q235 : x16_1 < (t229.length : Int) := of_decide_eq_true (by first | (with_reducible assumption) | assumption)
                    obtain ⟨ad235, A235_2, c235_2, A235_8, c235_8, e235, hx235_0, hx235_1, hx235_2, hx235_3, hx235_4, hx235_5, hx235_6, hx235_7, hx235_8, hl235_2, hi235_2, hl235_8, hi235_8⟩ := at_T29 (Kd.N_reads' HO_4.out).2.2 x16_1 p235 q235
                    cases e235
                    obtain ⟨ce235, hce235, hMe235, hcc235⟩ := Kd.N_get HO_4.out z29 x16_1 p235 (by first | exact q235 | exact of_decide_eq_true (by first | (with_reducible assumption) | assumption) | (have e_ := (Kd.N_reads' HO_4.out).1; omega))
                    obtain ⟨ua235_2, uc235_2, ua235_8, uc235_8, rfl, ul235_2, ge235_2, ul235_8, ge235_8⟩ := k29_openF hMe235
                    have hv235_2 := hcc235 2 _ rfl
                    rw [add_field _ _ 2 (by omega)] at hv235_2
                    replace hv235_2 := Option.some.inj (hv235_2.symm.trans hx235_2)
                    injection hv235_2 with hva_ hvn_ hvc_
                    rw [hva_] at ge235_2
                    rw [hvc_] at ul235_2
                    have HL235_2 := Aside0.mk (show Kd.V (Kd.int .u32) 103 _ w.heap.size _ _ ((rd_T29 t229 x16_1).f1.f1) from Kd.V_mk ul235_2 ge235_2)
                    clear hva_ hvn_ hvc_ ge235_2 ul235_2
                    have hv235_8 := hcc235 8 _ rfl
                    rw [add_field _ _ 8 (by omega)] at hv235_8
                    replace hv235_8 := Option.some.inj (hv235_8.symm.trans hx235_8)
                    injection hv235_8 with hva_ hvn_ hvc_
                    rw [hva_] at ge235_8
                    rw [hvc_] at ul235_8
                    have HL235_8 := Aside0.mk (show Kd.V k29 29 _ w.heap.size _ _ ((rd_T29 t229 x16_1).f7) from Kd.V_mk ul235_8 ge235_8)
                    clear hva_ hvn_ hvc_ ge235_8 ul235_8
                    clear hcc235 hce235
                    have HR235_2 := Aside0.mk hi235_2
                    have HC235_2 := Aside0.mk hl235_2
                    clear hi235_2 hl235_2
                    have HR235_8 := Aside0.mk hi235_8
                    have HC235_8 := Aside0.mk hl235_8
                    clear hi235_8 hl235_8
                    replace p235 := eq_true p235
                    replace q235 := eq_true q235
                    go_wp2_with (first | ((with_reducible refine gate_callee (f := 57) rfl ?_); refine goesL_ (some 24) rfl rfl Try.func57 (by kernel_rfl) rfl #[.int .i64 ((rd_T29 t229 x16_1).f0)] rfl (by (try simp only [List.map_toArray, List.map_cons, List.map_nil]); first | done | rfl | (simp only [List.length_drop, List.length_take]; rfl)) ?_; (with_reducible refine (cylinderref34_isTerm.calls ((rd_T29 t229 x16_1).f0) false _ A10.out).mono ?_); rintro e w' ⟨rfl, ⟨nd, rfl⟩⟩; refine ⟨_, rfl, ?_⟩; have p237 : 0 ≤ (x16_1 : Int) := of_decide_eq_true (by first | (with_reducible assumption) | assumption); have q237 : x16_1 < (t229.length : Int) := of_decide_eq_true (by first | (with_reducible assumption) | assumption); obtain ⟨ad237, A237_2, c237_2, A237_8, c237_8, e237, hx237_0, hx237_1, hx237_2, hx237_3, hx237_4, hx237_5, hx237_6, hx237_7, hx237_8, hl237_2, hi237_2, hl237_8, hi237_8⟩ := at_T29 (Kd.N_reads' HO_4.out).2.2 x16_1 p237 q237; obtain rfl : ad235 = ad237 := (by injection e237); obtain ⟨ce237, hce237, hMe237, hcc237⟩ := Kd.N_get HO_4.out z29 x16_1 p237 (by first | exact q237 | exact of_decide_eq_true (by first | (with_reducible assumption) | assumption) | (have e_ := (Kd.N_reads' HO_4.out).1; omega)); obtain ⟨ua237_2, uc237_2, ua237_8, uc237_8, rfl, ul237_2, ge237_2, ul237_8, ge237_8⟩ := k29_openF hMe237; have hv237_2 := hcc237 2 _ rfl; rw [add_field _ _ 2 (by omega)] at hv237_2; replace hv237_2 := Option.some.inj (hv237_2.symm.trans hx237_2); injection hv237_2 with hva_ hvn_ hvc_; rw [hva_] at ge237_2; rw [hvc_] at ul237_2; have HL237_2 := Aside0.mk (show Kd.V (Kd.int .u32) 103 _ w.heap.size _ _ ((rd_T29 t229 x16_1).f1.f1) from Kd.V_mk ul237_2 ge237_2); clear hva_ hvn_ hvc_ ge237_2 ul237_2; have hv237_8 := hcc237 8 _ rfl; rw [add_field _ _ 8 (by omega)] at hv237_8; replace hv237_8 := Option.some.inj (hv237_8.symm.trans hx237_8); injection hv237_8 with hva_ hvn_ hvc_; rw [hva_] at ge237_8; rw [hvc_] at ul237_8; have HL237_8 := Aside0.mk (show Kd.V k29 29 _ w.heap.size _ _ ((rd_T29 t229 x16_1).f7) from Kd.V_mk ul237_8 ge237_8); clear hva_ hvn_ hvc_ ge237_8 ul237_8; clear hcc237 hce237; have HR237_2 := Aside0.mk hi237_2; have HC237_2 := Aside0.mk hl237_2; clear hi237_2 hl237_2; have HR237_8 := Aside0.mk hi237_8; have HC237_8 := Aside0.mk hl237_8; clear hi237_8 hl237_8; replace p237 := eq_true p237; replace q237 := eq_true q237; have ea_ := Option.some.inj (hx235_2.symm.trans hx237_2); injection ea_ with ea_ en_ ec_; subst ea_; subst ec_; clear en_; have ea_ := Option.some.inj (hx235_8.symm.trans hx237_8); injection ea_ with ea_ en_ ec_; subst ea_; subst ec_; clear en_) | ((with_reducible refine gate_builtin (b := .append) (xs := #[.tmp 26, .tmp 31]) rfl ?_); at_builtin; refine Kd.N_append k29 (w0 := w) w.heap.size rfl (.tmp 26) (.tmp 31) 27 29 (.agg #[(.int .i64 0), (.bool false), (.slice none 0 0), (.string ⟨#[]⟩), (.int .i64 0), (.int .i64 0), (.bool false), (.bool false), (.slice none 0 0)]) 104 rfl Try.underlying27 info29 rfl (by decide) (by omega) u6 x6_1 (⟨(rd_T29 t229 x16_1).f0, (⟨(rd_T29 t229 x16_1).f1.f0, (rd_T29 t229 x16_1).f1.f1⟩ : S25), (rd_T29 t229 x16_1).f2, (rd_T29 t229 x16_1).f3, (rd_T29 t229 x16_1).f4, (rd_T29 t229 x16_1).f5, (rd_T29 t229 x16_1).f6, (rd_T29 t229 x16_1).f7⟩ : S29) [.int .i64 ((rd_T29 t229 x16_1).f0), .bool ((rd_T29 t229 x16_1).f1.f0), .slice A235_2 ((rd_T29 t229 x16_1).f1.f1).length c235_2, .string ((rd_T29 t229 x16_1).f2), .int .i64 ((rd_T29 t229 x16_1).f3), .int .i64 ((rd_T29 t229 x16_1).f4), .bool ((rd_T29 t229 x16_1).f5), .bool ((rd_T29 t229 x16_1).f6), .slice A235_8 ((rd_T29 t229 x16_1).f7).length c235_8] (fun k_ => ((P0_2_ k_ ∨ P0_8_ k_) ∨ w.heap.size ≤ k_) ∧ some k_ ≠ (.slice (some ad235) t229.length co6 : Value).ownBlock ∧ some k_ ≠ (v233 : Value).ownBlock ∧ some k_ ≠ (u7 : Value).ownBlock ∧ k_ ≠ gb228) (fun k_ => ((fun k_ => ((P0_2_ k_ ∨ P0_8_ k_) ∨ w.heap.size ≤ k_) ∧ some k_ ≠ (.slice (some ad235) t229.length co6 : Value).ownBlock ∧ some k_ ≠ (v233 : Value).ownBlock ∧ some k_ ≠ (u7 : Value).ownBlock ∧ k_ ≠ gb228)) k_ ∧ some k_ ≠ (u6 : Value).ownBlock) rfl rfl ?aP (fun _ hk => hk) ?aF ?aO ?aB ?aS ?aL ?_; (case aP => exact (k29_mkF _ _ (⟨(rd_T29 t229 x16_1).f0, (⟨(rd_T29 t229 x16_1).f1.f0, (rd_T29 t229 x16_1).f1.f1⟩ : S25), (rd_T29 t229 x16_1).f2, (rd_T29 t229 x16_1).f3, (rd_T29 t229 x16_1).f4, (rd_T29 t229 x16_1).f5, (rd_T29 t229 x16_1).f6, (rd_T29 t229 x16_1).f7⟩ : S29) (Kd.V_reads' (Kd.V_mono (ok' := (fun k_ => ((fun k_ => ((P0_2_ k_ ∨ P0_8_ k_) ∨ w.heap.size ≤ k_) ∧ some k_ ≠ (.slice (some ad235) t229.length co6 : Value).ownBlock ∧ some k_ ≠ (v233 : Value).ownBlock ∧ some k_ ≠ (u7 : Value).ownBlock ∧ k_ ≠ gb228)) k_ ∧ some k_ ≠ (u6 : Value).ownBlock)) (HL237_2.out) (fun k_ hk => ⟨⟨hk.1.1, ⟨hk.2, ⟨hk.1.2.1, ⟨hk.1.2.2.2.1, hk.1.2.2.2.2⟩⟩⟩⟩, hk.1.2.2.1⟩))).2.1 (Kd.V_F (Kd.V_mono (ok' := (fun k_ => ((fun k_ => ((P0_2_ k_ ∨ P0_8_ k_) ∨ w.heap.size ≤ k_) ∧ some k_ ≠ (.slice (some ad235) t229.length co6 : Value).ownBlock ∧ some k_ ≠ (v233 : Value).ownBlock ∧ some k_ ≠ (u7 : Value).ownBlock ∧ k_ ≠ gb228)) k_ ∧ some k_ ≠ (u6 : Value).ownBlock)) (HL237_2.out) (fun k_ hk => ⟨⟨hk.1.1, ⟨hk.2, ⟨hk.1.2.1, ⟨hk.1.2.2.2.1, hk.1.2.2.2.2⟩⟩⟩⟩, hk.1.2.2.1⟩))) (Kd.V_reads' (Kd.V_mono (ok' := (fun k_ => ((fun k_ => ((P0_2_ k_ ∨ P0_8_ k_) ∨ w.heap.size ≤ k_) ∧ some k_ ≠ (.slice (some ad235) t229.length co6 : Value).ownBlock ∧ some k_ ≠ (v233 : Value).ownBlock ∧ some k_ ≠ (u7 : Value).ownBlock ∧ k_ ≠ gb228)) k_ ∧ some k_ ≠ (u6 : Value).ownBlock)) (HL237_8.out) (fun k_ hk => ⟨⟨hk.1.1, ⟨hk.2, ⟨hk.1.2.1, ⟨hk.1.2.2.2.1, hk.1.2.2.2.2⟩⟩⟩⟩, hk.1.2.2.1⟩))).2.1 (Kd.V_F (Kd.V_mono (ok' := (fun k_ => ((fun k_ => ((P0_2_ k_ ∨ P0_8_ k_) ∨ w.heap.size ≤ k_) ∧ some k_ ≠ (.slice (some ad235) t229.length co6 : Value).ownBlock ∧ some k_ ≠ (v233 : Value).ownBlock ∧ some k_ ≠ (u7 : Value).ownBlock ∧ k_ ≠ gb228)) k_ ∧ some k_ ≠ (u6 : Value).ownBlock)) (HL237_8.out) (fun k_ hk => ⟨⟨hk.1.1, ⟨hk.2, ⟨hk.1.2.1, ⟨hk.1.2.2.2.1, hk.1.2.2.2.2⟩⟩⟩⟩, hk.1.2.2.1⟩))))); (case aB => exact (by repeat (first | (with_reducible first | exact HB.out | apply below_alloc | apply pw_below_drewN | apply below_drew1 | refine below_set ?_ GE228.out) | exact HB.out))); (case aF => exact (fun k_ hk => ⟨(.inr (Nat.le_trans (below_size (by repeat (first | (with_reducible first | exact HB.out | apply below_alloc | apply pw_below_drewN | apply below_drew1 | refine below_set ?_ GE228.out) | exact HB.out))) hk)), Kd.fresh' (Kd.N_lt (by (with_reducible repeat (first | apply Kd.N_alloc | apply Kd.N_drewN | apply Kd.N_drew)); exact HO_4.out)) k_ hk, Kd.fresh' (Kd.R_lt (by (with_reducible repeat (first | apply Kd.R_alloc | apply Kd.R_drewN | apply Kd.R_drew)); exact HO_5.out)) k_ hk, Kd.fresh' (Kd.R_lt (by (with_reducible repeat (first | apply Kd.R_alloc | apply Kd.R_drewN | apply Kd.R_drew)); exact HO_7.out)) k_ hk, Kd.freshB (g := gb228) (o := .cells #[.int .i64 a0_0, .bool a0_1, .slice A0_2 l0_2.length c0_2, .string a0_3, .int .i64 a0_4, .int .i64 a0_5, .bool a0_6, .bool a0_7, .slice A0_8 l0_8.length c0_8] 29 (0, 0)) (by (with_reducible repeat (first | refine blk_drewN ?_ _ | refine blk_drew ?_ | refine blk_alloc ?_ _)); exact BK228.out) k_ hk⟩)); (case aO => exact (by (with_reducible repeat (first | apply Kd.N_alloc | apply Kd.N_drewN | apply Kd.N_drew)); exact HO_6.out)); (case aS => exact (below_size (by repeat (first | (with_reducible first | exact HB.out | apply below_alloc | apply pw_below_drewN | apply below_drew1 | refine below_set ?_ GE228.out) | exact HB.out)))); (case aL => have := LMc12.out; omega); intro v239 w15 ho hb hg hat; rw [← Ny238.out] at ho; have n0_ := Aside0.mk (Kd.N_afterv (ok := (fun k_ => ((P0_2_ k_ ∨ P0_8_ k_) ∨ w.heap.size ≤ k_) ∧ some k_ ≠ (v233 : Value).ownBlock ∧ some k_ ≠ (u7 : Value).ownBlock ∧ k_ ≠ gb228)) (by (with_reducible repeat (first | apply Kd.N_alloc | apply Kd.N_drewN | apply Kd.N_drew)); exact Kd.N_mono HO_4.out (fun _ hk => ⟨⟨hk.1, ⟨hk.2.1, ⟨hk.2.2.2.1, hk.2.2.2.2⟩⟩⟩, hk.2.2.1⟩)) hg hat); have n1_ := Aside0.mk (Kd.R_over' (by (with_reducible repeat (first | apply Kd.R_alloc | apply Kd.R_drewN | apply Kd.R_drew)); exact HO_5.out) (Kd.N_typed (by (with_reducible repeat (first | apply Kd.N_alloc | apply Kd.N_drewN | apply Kd.N_drew)); exact HO_6.out)) (by decide) hg); have n2_ := Aside0.mk (Kd.R_over' (by (with_reducible repeat (first | apply Kd.R_alloc | apply Kd.R_drewN | apply Kd.R_drew)); exact HO_7.out) (Kd.N_typed (by (with_reducible repeat (first | apply Kd.N_alloc | apply Kd.N_drewN | apply Kd.N_drew)); exact HO_6.out)) (by decide) hg); have n3_ := Aside0.mk (Kd.V_afterv (ok := (fun k_ => ((P0_2_ k_ ∨ P0_8_ k_) ∨ w.heap.size ≤ k_) ∧ some k_ ≠ (.slice (some ad235) t229.length co6 : Value).ownBlock ∧ some k_ ≠ (v233 : Value).ownBlock ∧ some k_ ≠ (u7 : Value).ownBlock ∧ k_ ≠ gb228)) (by (with_reducible repeat (first | apply Kd.V_alloc | apply Kd.V_drewN | apply Kd.V_drew)); exact Kd.V_mono HO_229002.out (fun _ hk => ⟨⟨hk.1, ⟨hk.2.1, ⟨hk.2.2.1, ⟨hk.2.2.2.2.1, hk.2.2.2.2.2⟩⟩⟩⟩, hk.2.2.2.1⟩)) hg hat); have n4_ := Aside0.mk (Kd.V_afterv (ok := (fun k_ => ((P0_2_ k_ ∨ P0_8_ k_) ∨ w.heap.size ≤ k_) ∧ some k_ ≠ (.slice (some ad235) t229.length co6 : Value).ownBlock ∧ some k_ ≠ (v233 : Value).ownBlock ∧ some k_ ≠ (u7 : Value).ownBlock ∧ k_ ≠ gb228)) (by (with_reducible repeat (first | apply Kd.V_alloc | apply Kd.V_drewN | apply Kd.V_drew)); exact Kd.V_mono HO_229008.out (fun _ hk => ⟨⟨hk.1, ⟨hk.2.1, ⟨hk.2.2.1, ⟨hk.2.2.2.2.1, hk.2.2.2.2.2⟩⟩⟩⟩, hk.2.2.2.1⟩)) hg hat); have n5_ := Aside0.mk (blk_grown (g := gb228) (o := .cells #[.int .i64 a0_0, .bool a0_1, .slice A0_2 l0_2.length c0_2, .string a0_3, .int .i64 a0_4, .int .i64 a0_5, .bool a0_6, .bool a0_7, .slice A0_8 l0_8.length c0_8] 29 (0, 0)) (by (with_reducible repeat (first | refine blk_drewN ?_ _ | refine blk_drew ?_ | refine blk_alloc ?_ _)); exact BK228.out) hg (Kd.N_away HO_6.out (fun _ hk => hk.2.2.2.2))); have n6_ := Aside0.mk (Kd.V_afterv (ok := (fun k_ => ((P0_2_ k_ ∨ P0_8_ k_) ∨ w.heap.size ≤ k_) ∧ some k_ ≠ (.slice (some ad235) t229.length co6 : Value).ownBlock ∧ some k_ ≠ (v233 : Value).ownBlock ∧ some k_ ≠ (u7 : Value).ownBlock ∧ k_ ≠ gb228)) (by (with_reducible repeat (first | apply Kd.V_alloc | apply Kd.V_drewN | apply Kd.V_drew)); exact Kd.V_mono HL235_2.out (fun _ hk => ⟨⟨hk.1.1, ⟨hk.2, ⟨hk.1.2.1, ⟨hk.1.2.2.2.1, hk.1.2.2.2.2⟩⟩⟩⟩, hk.1.2.2.1⟩)) hg hat); have n7_ := Aside0.mk (Kd.V_afterv (ok := (fun k_ => ((P0_2_ k_ ∨ P0_8_ k_) ∨ w.heap.size ≤ k_) ∧ some k_ ≠ (.slice (some ad235) t229.length co6 : Value).ownBlock ∧ some k_ ≠ (v233 : Value).ownBlock ∧ some k_ ≠ (u7 : Value).ownBlock ∧ k_ ≠ gb228)) (by (with_reducible repeat (first | apply Kd.V_alloc | apply Kd.V_drewN | apply Kd.V_drew)); exact Kd.V_mono HL235_8.out (fun _ hk => ⟨⟨hk.1.1, ⟨hk.2, ⟨hk.1.2.1, ⟨hk.1.2.2.2.1, hk.1.2.2.2.2⟩⟩⟩⟩, hk.1.2.2.1⟩)) hg hat); have n8_ := Aside0.mk (Kd.V_afterv (ok := (fun k_ => ((P0_2_ k_ ∨ P0_8_ k_) ∨ w.heap.size ≤ k_) ∧ some k_ ≠ (.slice (some ad235) t229.length co6 : Value).ownBlock ∧ some k_ ≠ (v233 : Value).ownBlock ∧ some k_ ≠ (u7 : Value).ownBlock ∧ k_ ≠ gb228)) (by (with_reducible repeat (first | apply Kd.V_alloc | apply Kd.V_drewN | apply Kd.V_drew)); exact Kd.V_mono HL237_2.out (fun _ hk => ⟨⟨hk.1.1, ⟨hk.2, ⟨hk.1.2.1, ⟨hk.1.2.2.2.1, hk.1.2.2.2.2⟩⟩⟩⟩, hk.1.2.2.1⟩)) hg hat); have n9_ := Aside0.mk (Kd.V_afterv (ok := (fun k_ => ((P0_2_ k_ ∨ P0_8_ k_) ∨ w.heap.size ≤ k_) ∧ some k_ ≠ (.slice (some ad235) t229.length co6 : Value).ownBlock ∧ some k_ ≠ (v233 : Value).ownBlock ∧ some k_ ≠ (u7 : Value).ownBlock ∧ k_ ≠ gb228)) (by (with_reducible repeat (first | apply Kd.V_alloc | apply Kd.V_drewN | apply Kd.V_drew)); exact Kd.V_mono HL237_8.out (fun _ hk => ⟨⟨hk.1.1, ⟨hk.2, ⟨hk.1.2.1, ⟨hk.1.2.2.2.1, hk.1.2.2.2.2⟩⟩⟩⟩, hk.1.2.2.1⟩)) hg hat); have n10_ := Aside0.mk (hb); have n11_ := Aside0.mk (ho); clear HO_4; clear HO_5; clear HO_7; clear HO_229002; clear HO_229008; clear BK228; clear HL235_2; clear HL235_8; clear HL237_2; clear HL237_8; clear HB; clear HO_6; have HO_4 := n0_; have HO_5 := n1_; have HO_7 := n2_; have HO_229002 := n3_; have HO_229008 := n4_; have BK228 := n5_; have HL235_2 := n6_; have HL235_8 := n7_; have HL237_2 := n8_; have HL237_8 := n9_; have HB := n10_; have HO240 := n11_; clear n0_ n1_ n2_ n3_ n4_ n5_ n6_ n7_ n8_ n9_ n10_ n11_; clear ho hb hg hat; obtain ⟨Ao16, co16, eo16⟩ := Kd.R_slice HO_5.out; subst eo16; have p241 : 0 ≤ (x16_1 : Int) := of_decide_eq_true (by first | (with_reducible assumption) | assumption); have q241 : x16_1 < (t232.length : Int) := of_decide_eq_true (by first | (with_reducible assumption) | assumption); obtain ⟨ad241, e241, hx241_0⟩ := Kd.at_int (Kd.R_reads' HO_5.out).2.2 x16_1 p241 q241; cases e241; replace p241 := eq_true p241; replace q241 := eq_true q241) | ((with_reducible refine gate_builtin (b := .append) (xs := #[.tmp 33, .tmp 38]) rfl ?_); at_builtin; refine Kd.R_append (Kd.int .i64) (w0 := w) w.heap.size rfl (.tmp 33) (.tmp 38) 51 3 (.int .i64 0) 8 rfl Try.underlying51 info3 rfl (by decide) (by omega) u7 x7_1 (rd t232 x16_1) [.int .i64 (rd t232 x16_1)] (fun k_ => (w.heap.size ≤ k_) ∧ some k_ ≠ (.slice (some ad241) t232.length co16 : Value).ownBlock) (fun _ => False) rfl rfl ?aP (fun _ hk => hk.elim) ?aF ?aO ?aB ?aS ?aL ?_; (case aP => exact rfl); (case aB => exact (by repeat (first | (with_reducible first | exact HB.out | apply below_alloc | apply pw_below_drewN | apply below_drew1 | refine below_set ?_ GE228.out) | exact HB.out))); (case aF => exact (fun k_ hk => ⟨(Nat.le_trans (below_size (by repeat (first | (with_reducible first | exact HB.out | apply below_alloc | apply pw_below_drewN | apply below_drew1 | refine below_set ?_ GE228.out) | exact HB.out))) hk), Kd.fresh' (Kd.R_lt (by (with_reducible repeat (first | apply Kd.R_alloc | apply Kd.R_drewN | apply Kd.R_drew)); exact HO_5.out)) k_ hk⟩)); (case aO => exact (by (with_reducible repeat (first | apply Kd.R_alloc | apply Kd.R_drewN | apply Kd.R_drew)); exact HO_7.out)); (case aS => exact (below_size (by repeat (first | (with_reducible first | exact HB.out | apply below_alloc | apply pw_below_drewN | apply below_drew1 | refine below_set ?_ GE228.out) | exact HB.out)))); (case aL => have := LMc14.out; omega); intro v243 w17 ho hb hg hat; rw [← Ny242.out] at ho; have n0_ := Aside0.mk (Kd.N_afterv (ok := (fun k_ => ((P0_2_ k_ ∨ P0_8_ k_) ∨ w.heap.size ≤ k_) ∧ some k_ ≠ (.slice (some ad241) t232.length co16 : Value).ownBlock ∧ some k_ ≠ (v239 : Value).ownBlock ∧ k_ ≠ gb228)) (by (with_reducible repeat (first | apply Kd.N_alloc | apply Kd.N_drewN | apply Kd.N_drew)); exact Kd.N_mono HO_4.out (fun _ hk => ⟨⟨hk.1.1, ⟨hk.1.2.1, ⟨hk.2, hk.1.2.2.2⟩⟩⟩, hk.1.2.2.1⟩)) hg hat); have n1_ := Aside0.mk (Kd.R_after (ok := (fun k_ => (w.heap.size ≤ k_))) (by (with_reducible repeat (first | apply Kd.R_alloc | apply Kd.R_drewN | apply Kd.R_drew)); exact HO_5.out) hg hat); have n2_ := Aside0.mk (Kd.V_afterv (ok := (fun k_ => ((P0_2_ k_ ∨ P0_8_ k_) ∨ w.heap.size ≤ k_) ∧ some k_ ≠ (.slice (some ad235) t229.length co6 : Value).ownBlock ∧ some k_ ≠ (.slice (some ad241) t232.length co16 : Value).ownBlock ∧ some k_ ≠ (v239 : Value).ownBlock ∧ k_ ≠ gb228)) (by (with_reducible repeat (first | apply Kd.V_alloc | apply Kd.V_drewN | apply Kd.V_drew)); exact Kd.V_mono HO_229002.out (fun _ hk => ⟨⟨hk.1.1, ⟨hk.1.2.1, ⟨hk.1.2.2.1, ⟨hk.2, hk.1.2.2.2.2⟩⟩⟩⟩, hk.1.2.2.2.1⟩)) hg hat); have n3_ := Aside0.mk (Kd.V_afterv (ok := (fun k_ => ((P0_2_ k_ ∨ P0_8_ k_) ∨ w.heap.size ≤ k_) ∧ some k_ ≠ (.slice (some ad235) t229.length co6 : Value).ownBlock ∧ some k_ ≠ (.slice (some ad241) t232.length co16 : Value).ownBlock ∧ some k_ ≠ (v239 : Value).ownBlock ∧ k_ ≠ gb228)) (by (with_reducible repeat (first | apply Kd.V_alloc | apply Kd.V_drewN | apply Kd.V_drew)); exact Kd.V_mono HO_229008.out (fun _ hk => ⟨⟨hk.1.1, ⟨hk.1.2.1, ⟨hk.1.2.2.1, ⟨hk.2, hk.1.2.2.2.2⟩⟩⟩⟩, hk.1.2.2.2.1⟩)) hg hat); have n4_ := Aside0.mk (blk_grown (g := gb228) (o := .cells #[.int .i64 a0_0, .bool a0_1, .slice A0_2 l0_2.length c0_2, .string a0_3, .int .i64 a0_4, .int .i64 a0_5, .bool a0_6, .bool a0_7, .slice A0_8 l0_8.length c0_8] 29 (0, 0)) (by (with_reducible repeat (first | refine blk_drewN ?_ _ | refine blk_drew ?_ | refine blk_alloc ?_ _)); exact BK228.out) hg (Kd.R_ne HO_7.out BK228.out (by decide))); have n5_ := Aside0.mk (Kd.V_afterv (ok := (fun k_ => ((P0_2_ k_ ∨ P0_8_ k_) ∨ w.heap.size ≤ k_) ∧ some k_ ≠ (.slice (some ad235) t229.length co6 : Value).ownBlock ∧ some k_ ≠ (.slice (some ad241) t232.length co16 : Value).ownBlock ∧ some k_ ≠ (v239 : Value).ownBlock ∧ k_ ≠ gb228)) (by (with_reducible repeat (first | apply Kd.V_alloc | apply Kd.V_drewN | apply Kd.V_drew)); exact Kd.V_mono HL235_2.out (fun _ hk => ⟨⟨hk.1.1, ⟨hk.1.2.1, ⟨hk.1.2.2.1, ⟨hk.2, hk.1.2.2.2.2⟩⟩⟩⟩, hk.1.2.2.2.1⟩)) hg hat); have n6_ := Aside0.mk (Kd.V_afterv (ok := (fun k_ => ((P0_2_ k_ ∨ P0_8_ k_) ∨ w.heap.size ≤ k_) ∧ some k_ ≠ (.slice (some ad235) t229.length co6 : Value).ownBlock ∧ some k_ ≠ (.slice (some ad241) t232.length co16 : Value).ownBlock ∧ some k_ ≠ (v239 : Value).ownBlock ∧ k_ ≠ gb228)) (by (with_reducible repeat (first | apply Kd.V_alloc | apply Kd.V_drewN | apply Kd.V_drew)); exact Kd.V_mono HL235_8.out (fun _ hk => ⟨⟨hk.1.1, ⟨hk.1.2.1, ⟨hk.1.2.2.1, ⟨hk.2, hk.1.2.2.2.2⟩⟩⟩⟩, hk.1.2.2.2.1⟩)) hg hat); have n7_ := Aside0.mk (Kd.V_afterv (ok := (fun k_ => ((P0_2_ k_ ∨ P0_8_ k_) ∨ w.heap.size ≤ k_) ∧ some k_ ≠ (.slice (some ad235) t229.length co6 : Value).ownBlock ∧ some k_ ≠ (.slice (some ad241) t232.length co16 : Value).ownBlock ∧ some k_ ≠ (v239 : Value).ownBlock ∧ k_ ≠ gb228)) (by (with_reducible repeat (first | apply Kd.V_alloc | apply Kd.V_drewN | apply Kd.V_drew)); exact Kd.V_mono HL237_2.out (fun _ hk => ⟨⟨hk.1.1, ⟨hk.1.2.1, ⟨hk.1.2.2.1, ⟨hk.2, hk.1.2.2.2.2⟩⟩⟩⟩, hk.1.2.2.2.1⟩)) hg hat); have n8_ := Aside0.mk (Kd.V_afterv (ok := (fun k_ => ((P0_2_ k_ ∨ P0_8_ k_) ∨ w.heap.size ≤ k_) ∧ some k_ ≠ (.slice (some ad235) t229.length co6 : Value).ownBlock ∧ some k_ ≠ (.slice (some ad241) t232.length co16 : Value).ownBlock ∧ some k_ ≠ (v239 : Value).ownBlock ∧ k_ ≠ gb228)) (by (with_reducible repeat (first | apply Kd.V_alloc | apply Kd.V_drewN | apply Kd.V_drew)); exact Kd.V_mono HL237_8.out (fun _ hk => ⟨⟨hk.1.1, ⟨hk.1.2.1, ⟨hk.1.2.2.1, ⟨hk.2, hk.1.2.2.2.2⟩⟩⟩⟩, hk.1.2.2.2.1⟩)) hg hat); have n9_ := Aside0.mk (Kd.N_afterv (ok := (fun k_ => ((P0_2_ k_ ∨ P0_8_ k_) ∨ w.heap.size ≤ k_) ∧ some k_ ≠ (.slice (some ad235) t229.length co6 : Value).ownBlock ∧ some k_ ≠ (.slice (some ad241) t232.length co16 : Value).ownBlock ∧ k_ ≠ gb228)) (by (with_reducible repeat (first | apply Kd.N_alloc | apply Kd.N_drewN | apply Kd.N_drew)); exact Kd.N_mono HO240.out (fun _ hk => ⟨⟨hk.1, ⟨hk.2.1, ⟨hk.2.2.1, hk.2.2.2.2⟩⟩⟩, hk.2.2.2.1⟩)) hg hat); have n10_ := Aside0.mk (hb); have n11_ := Aside0.mk (ho); clear HO_4; clear HO_5; clear HO_229002; clear HO_229008; clear BK228; clear HL235_2; clear HL235_8; clear HL237_2; clear HL237_8; clear HO240; clear HB; clear HO_7; have HO_4 := n0_; have HO_5 := n1_; have HO_229002 := n2_; have HO_229008 := n3_; have BK228 := n4_; have HL235_2 := n5_; have HL235_8 := n6_; have HL237_2 := n7_; have HL237_8 := n8_; have HO240 := n9_; have HB := n10_; have HO244 := n11_; clear n0_ n1_ n2_ n3_ n4_ n5_ n6_ n7_ n8_ n9_ n10_ n11_; clear ho hb hg hat))
                    go_roundg k1
                    case measure => have := HK1.out; omega
                    case rel => exact ⟨(y238), (y242), (wrap64 (x16_1 + 1)), (by first | rfl | (simp; done) | (simp [*]; done)), H', ⟨by have := HK1.out; omega⟩, ⟨by (with_reducible repeat (first | apply Kd.N_alloc | apply Kd.N_drewN | apply Kd.N_drew)); exact Kd.N_mono HO_4.out (fun _ hk => ⟨hk.1.1, ⟨hk.1.2.1, ⟨hk.1.2.2.1, ⟨hk.2, hk.1.2.2.2⟩⟩⟩⟩)⟩, ⟨by (with_reducible repeat (first | apply Kd.R_alloc | apply Kd.R_drewN | apply Kd.R_drew)); exact HO_5.out⟩, ⟨by (with_reducible repeat (first | apply Kd.N_alloc | apply Kd.N_drewN | apply Kd.N_drew)); exact Kd.N_mono HO240.out (fun _ hk => ⟨hk.1.1, ⟨hk.1.2.1, ⟨hk.1.2.2.1, ⟨hk.2, hk.1.2.2.2⟩⟩⟩⟩)⟩, ⟨by (with_reducible repeat (first | apply Kd.R_alloc | apply Kd.R_drewN | apply Kd.R_drew)); exact HO244.out⟩, ⟨by (with_reducible repeat (first | apply Kd.V_alloc | apply Kd.V_drewN | apply Kd.V_drew)); exact Kd.V_mono HO_229002.out (fun _ hk => ⟨hk.1.1, ⟨hk.1.2.1, ⟨hk.1.2.2.1, ⟨hk.1.2.2.2.1, ⟨hk.2, hk.1.2.2.2.2⟩⟩⟩⟩⟩)⟩, ⟨by (with_reducible repeat (first | apply Kd.V_alloc | apply Kd.V_drewN | apply Kd.V_drew)); exact Kd.V_mono HO_229008.out (fun _ hk => ⟨hk.1.1, ⟨hk.1.2.1, ⟨hk.1.2.2.1, ⟨hk.1.2.2.2.1, ⟨hk.2, hk.1.2.2.2.2⟩⟩⟩⟩⟩)⟩, ⟨by (with_reducible repeat (first | refine blk_drewN ?_ _ | refine blk_drew ?_ | refine blk_alloc ?_ _)); exact BK228.out⟩, ⟨by repeat (first | (with_reducible first | exact HB.out | apply below_alloc | apply pw_below_drewN | apply below_drew1 | refine below_set ?_ GE228.out) | exact HB.out)⟩⟩
                  · rw [if_neg c14] at H
                    exact absurd H (by simp)
                · rw [if_neg c13] at H
                  exact absurd H (by simp)
              · rw [if_neg c12] at H
                exact absurd H (by simp)
          · rw [if_neg c9] at H
            exact absurd H (by simp)
        · rw [if_neg c8] at H
          exact absurd H (by simp)
      · rw [if_neg c7] at H
        have c7b0 : decide (x16_1 < (t229.length : Int)) = false := decide_eq_false c7
        clear c7
        simp only [Option.some.injEq, Prod.mk.injEq] at H
        obtain ⟨rfl, rfl⟩ := H
        go_wp2
        go_ret2
        exact ⟨_, _, by first | rfl | (simp [errW_none, errW_some] <;> rfl) | (simp [*, errW_none, errW_some] <;> rfl), by (with_reducible repeat (first | apply Kd.N_alloc | apply Kd.N_drewN | apply Kd.N_drew)); exact Kd.N_mono HO_6.out (fun _ hk => ⟨hk.1, hk.2.2.2.1⟩), by (with_reducible repeat (first | apply Kd.R_alloc | apply Kd.R_drewN | apply Kd.R_drew)); exact Kd.R_mono HO_7.out (fun _ hk => hk.1), by repeat (first | (with_reducible first | exact HB.out | apply below_alloc | apply pw_below_drewN | apply below_drew1 | refine below_set ?_ GE228.out) | exact HB.out)⟩

/-! ### cylinderref34_Bound: function 30 -/
def cylinderref34_Bound.l0 : Nat → List ByteArray → List (S29) → Int → Int → Option (List ByteArray)
  | 0, _, _, _, _ => none
  | k + 1, x3, x4, x13, x14 => if x14 < x13 then (if 0 ≤ x14 then (if x14 < (x4.length : Int) then (if ((rd_T29 x4 x14).f0) = 15 then (if x3.length < 8796093022208 then (cylinderref34_Bound.l0 k (x3 ++ [(rd_T29 x4 x14).f2]) x4 x13 (wrap64 (x14 + 1))) else (none)) else (cylinderref34_Bound.l0 k x3 x4 x13 (wrap64 (x14 + 1)))) else (none)) else (none)) else (some x3)
def cylinderref34_Bound.f (k : Nat) (a0_0 : Int) (a0_1 : Bool) (l0_2 : List Int) (a0_3 : ByteArray) (a0_4 : Int) (a0_5 : Int) (a0_6 : Bool) (a0_7 : Bool) (l0_8 : List (S29)) : Option (List ByteArray) := (cylinderref34_Parts.f k a0_0 a0_1 l0_2 a0_3 a0_4 a0_5 a0_6 a0_7 l0_8).bind fun bt246 => (cylinderref34_Bound.l0 k ([] : List ByteArray) bt246.1 (bt246.1.length : Int) 0)
theorem cylinderref34_Bound.mono_l : ∀ k, (∀ y0 y1 y2 y3, LeO (cylinderref34_Bound.l0 k y0 y1 y2 y3) (cylinderref34_Bound.l0 (k + 1) y0 y1 y2 y3))
  | 0 => fun _ _ _ _ r h => by simp [cylinderref34_Bound.l0] at h
  | k + 1 => by
    have ih0 := cylinderref34_Bound.mono_l k
    · intro y0 y1 y2 y3
      unfold cylinderref34_Bound.l0
      repeat' first
      | (with_reducible exact ih0 _ _ _ _)
      | (with_reducible exact cylinderref34_Parts.mono _ _ _ _ _ _ _ _ _ _)
      | (with_reducible exact LeO.refl _)
      | (with_reducible exact LeO.none _)
      | (with_reducible refine LeO.ite ?_ ?_)
      | (with_reducible refine LeO.bind ?_ (fun _ => ?_))
      | exact ih0 _ _ _ _
      | exact cylinderref34_Parts.mono _ _ _ _ _ _ _ _ _ _
      | exact LeO.none _
      | refine LeO.ite ?_ ?_
      | refine LeO.bind ?_ (fun _ => ?_)
theorem cylinderref34_Bound.mono : ∀ a0 a1 a2 a3 a4 a5 a6 a7 a8 k, LeO (cylinderref34_Bound.f k a0 a1 a2 a3 a4 a5 a6 a7 a8) (cylinderref34_Bound.f (k + 1) a0 a1 a2 a3 a4 a5 a6 a7 a8) := by
  intro a0 a1 a2 a3 a4 a5 a6 a7 a8 k
  have ih0 := cylinderref34_Bound.mono_l k
  unfold cylinderref34_Bound.f
  repeat' first
      | (with_reducible exact ih0 _ _ _ _)
      | (with_reducible exact cylinderref34_Parts.mono _ _ _ _ _ _ _ _ _ _)
      | (with_reducible exact LeO.refl _)
      | (with_reducible exact LeO.none _)
      | (with_reducible refine LeO.ite ?_ ?_)
      | (with_reducible refine LeO.bind ?_ (fun _ => ?_))
      | exact ih0 _ _ _ _
      | exact cylinderref34_Parts.mono _ _ _ _ _ _ _ _ _ _
      | exact LeO.none _
      | refine LeO.ite ?_ ?_
      | refine LeO.bind ?_ (fun _ => ?_)
set_option maxHeartbeats 8000000 in
set_option maxRecDepth 100000 in
theorem cylinderref34_Bound.calls (k : Nat) (a0_0 : Int) (a0_1 : Bool) (A0_2 : Option Addr) (c0_2 : Nat) (l0_2 : List Int) (a0_3 : ByteArray) (a0_4 : Int) (a0_5 : Int) (a0_6 : Bool) (a0_7 : Bool) (A0_8 : Option Addr) (c0_8 : Nat) (l0_8 : List (S29)) (r : List ByteArray) (w : World) (hr0_2 : Kd.C (Kd.int .u32) w A0_2 l0_2.length l0_2) (hc0_2 : l0_2.length ≤ c0_2) (hr0_8 : Kd.C k29 w A0_8 l0_8.length l0_8) (hc0_8 : l0_8.length ≤ c0_8) (h : cylinderref34_Bound.f k a0_0 a0_1 l0_2 a0_3 a0_4 a0_5 a0_6 a0_7 l0_8 = some r) :
    Calls Try.prog 30 #[.agg #[.int .i64 a0_0, .bool a0_1, .slice A0_2 l0_2.length c0_2, .string a0_3, .int .i64 a0_4, .int .i64 a0_5, .bool a0_6, .bool a0_7, .slice A0_8 l0_8.length c0_8]] w fun e w' => ∃ v0_ : Value, e = .returned (v0_) ∧ Kd.R Kd.string 9 w' w.heap.size (fun _ => True) v0_ r ∧ Below w.heap.size w w' := by
  have hu29 := Try.underlying29
  have HR0_2 := Aside0.mk hr0_2
  have HC0_2 := Aside0.mk hc0_2
  clear hr0_2 hc0_2
  have HR0_8 := Aside0.mk hr0_8
  have HC0_8 := Aside0.mk hc0_8
  clear hr0_8 hc0_8
  have HB := Aside0.mk (Below.refl w.heap.size w)
  have H : ((cylinderref34_Parts.f k a0_0 a0_1 l0_2 a0_3 a0_4 a0_5 a0_6 a0_7 l0_8).bind fun bt246 => (cylinderref34_Bound.l0 k ([] : List ByteArray) bt246.1 (bt246.1.length : Int) 0)) = some r := h
  clear h
  replace H := Option.bind_eq_some_iff.mp H
  obtain ⟨⟨t246, t249⟩, A20, H⟩ := H
  replace H : (cylinderref34_Bound.l0 k ([] : List ByteArray) t246 (t246.length : Int) 0) = some r := H
  have A2 := Aside0.mk A20
  clear A20
  have H' := Aside0.mk H
  clear H
  go_enter Try.func30, Try.ntmps30
  go_wp2_with (first | ((with_reducible refine gate_dst (N := 1) rfl ?_); refine box_event ?hg (N := 1) ?hd (cs := #[.int .i64 a0_0, .bool a0_1, .slice A0_2 l0_2.length c0_2, .string a0_3, .int .i64 a0_4, .int .i64 a0_5, .bool a0_6, .bool a0_7, .slice A0_8 l0_8.length c0_8]) (t := 29) ?hr ?_; (case hd => rfl); (case hg => rfl); (case hr => first | (go_simp; done) | (go_simp; rfl)); intro gb245 hg w3 hbox hb; have n0_ := Aside0.mk (below_step (by repeat (first | (with_reducible first | exact HB.out | apply below_alloc | apply pw_below_drewN | apply below_drew1) | exact HB.out)) hb); have n1_ := Aside0.mk (hbox); have n2_ := Aside0.mk ((by rw [hg]; exact (below_size (by repeat (first | (with_reducible first | exact HB.out | apply below_alloc | apply pw_below_drewN | apply below_drew1) | exact HB.out))) : w.heap.size ≤ gb245)); have n3_ := Aside0.mk ((by rw [hg]; exact (below_size (by repeat (first | (with_reducible first | exact HB.out | apply below_alloc | apply pw_below_drewN | apply below_drew1) | exact HB.out))) : w.heap.size ≤ gb245)); clear HB; have HB := n0_; have BK245 := n1_; have GW245 := n2_; have GE245 := n3_; clear n0_ n1_ n2_ n3_; clear hb hbox hg; have hcz4_0 : w3.cell? ⟨gb245, 0, none⟩ = some (.int .i64 a0_0) := (blk_cell BK245.out 0).trans rfl; have hcz4_1 : w3.cell? ⟨gb245, 1, none⟩ = some (.bool a0_1) := (blk_cell BK245.out 1).trans rfl; have hcz4_2 : w3.cell? ⟨gb245, 2, none⟩ = some (.slice A0_2 l0_2.length c0_2) := (blk_cell BK245.out 2).trans rfl; have hcz4_3 : w3.cell? ⟨gb245, 3, none⟩ = some (.string a0_3) := (blk_cell BK245.out 3).trans rfl; have hcz4_4 : w3.cell? ⟨gb245, 4, none⟩ = some (.int .i64 a0_4) := (blk_cell BK245.out 4).trans rfl; have hcz4_5 : w3.cell? ⟨gb245, 5, none⟩ = some (.int .i64 a0_5) := (blk_cell BK245.out 5).trans rfl; have hcz4_6 : w3.cell? ⟨gb245, 6, none⟩ = some (.bool a0_6) := (blk_cell BK245.out 6).trans rfl; have hcz4_7 : w3.cell? ⟨gb245, 7, none⟩ = some (.bool a0_7) := (blk_cell BK245.out 7).trans rfl; have hcz4_8 : w3.cell? ⟨gb245, 8, none⟩ = some (.slice A0_8 l0_8.length c0_8) := (blk_cell BK245.out 8).trans rfl; have hfz4_0 := blk_frozen BK245.out 0; have hfz4_1 := blk_frozen BK245.out 1; have hfz4_2 := blk_frozen BK245.out 2; have hfz4_3 := blk_frozen BK245.out 3; have hfz4_4 := blk_frozen BK245.out 4; have hfz4_5 := blk_frozen BK245.out 5; have hfz4_6 := blk_frozen BK245.out 6; have hfz4_7 := blk_frozen BK245.out 7; have hfz4_8 := blk_frozen BK245.out 8) | ((with_reducible refine gate_callee (f := 31) rfl ?_); refine goesL_ (some 9) rfl rfl Try.func31 (by kernel_rfl) rfl #[.agg #[.int .i64 a0_0, .bool a0_1, .slice A0_2 l0_2.length c0_2, .string a0_3, .int .i64 a0_4, .int .i64 a0_5, .bool a0_6, .bool a0_7, .slice A0_8 l0_8.length c0_8]] rfl (by (try simp only [List.map_toArray, List.map_cons, List.map_nil]); first | done | rfl | (simp only [List.length_drop, List.length_take]; rfl)) ?_; (with_reducible refine (cylinderref34_Parts.calls k a0_0 a0_1 (fun k_ => k_ < w.heap.size) _ _ l0_2 a0_3 a0_4 a0_5 a0_6 a0_7 (fun k_ => k_ < w.heap.size) _ _ l0_8 t246 t249 _ ?side1 ?side2 A2.out).mono ?_); (case side1 => exact Kd.V_mk HC0_2.out (Kd.F_below (Kd.C_F (Kd.heap_int .u32) HR0_2.out) (by repeat (first | (with_reducible first | exact HB.out | apply below_alloc | apply pw_below_drewN | apply below_drew1 | refine below_set ?_ GE245.out) | exact HB.out)))); (case side2 => exact Kd.V_mk HC0_8.out (Kd.F_below (Kd.C_F k29_heap HR0_8.out) (by repeat (first | (with_reducible first | exact HB.out | apply below_alloc | apply pw_below_drewN | apply below_drew1 | refine below_set ?_ GE245.out) | exact HB.out)))); rintro e w5 ⟨v247, v250, rfl, ho0, ho1, hb⟩; refine ⟨_, rfl, ?_⟩; have n0_ := Aside0.mk (Kd.N_lower (Kd.N_mono (ok' := fun k_ => some k_ ≠ (v250 : Value).ownBlock ∧ k_ ≠ gb245) ho0 (fun k_ hk_ => ⟨hk_.2, Or.elim hk_.1 (fun hs_ => Or.elim hs_ (fun hs_ => fun e_ => Nat.not_le.2 hs_ (by rw [e_]; exact GW245.out)) (fun hs_ => fun e_ => Nat.not_le.2 hs_ (by rw [e_]; exact GW245.out))) (fun hn_ => (Kd.freshB (g := gb245) (o := .cells #[.int .i64 a0_0, .bool a0_1, .slice A0_2 l0_2.length c0_2, .string a0_3, .int .i64 a0_4, .int .i64 a0_5, .bool a0_6, .bool a0_7, .slice A0_8 l0_8.length c0_8] 29 (0, 0)) (by (with_reducible repeat (first | refine blk_drewN ?_ _ | refine blk_drew ?_ | refine blk_alloc ?_ _)); exact BK245.out) k_ hn_))⟩)) (below_size (by repeat (first | (with_reducible first | exact HB.out | apply below_alloc | apply pw_below_drewN | apply below_drew1 | refine below_set ?_ GE245.out) | exact HB.out)))); have n1_ := Aside0.mk (Kd.R_lower (Kd.R_mono (ok' := fun k_ => True) ho1 (fun _ hk_ => trivial)) (below_size (by repeat (first | (with_reducible first | exact HB.out | apply below_alloc | apply pw_below_drewN | apply below_drew1 | refine below_set ?_ GE245.out) | exact HB.out)))); have n2_ := Aside0.mk (blk_below (g := gb245) (o := .cells #[.int .i64 a0_0, .bool a0_1, .slice A0_2 l0_2.length c0_2, .string a0_3, .int .i64 a0_4, .int .i64 a0_5, .bool a0_6, .bool a0_7, .slice A0_8 l0_8.length c0_8] 29 (0, 0)) (by (with_reducible repeat (first | refine blk_drewN ?_ _ | refine blk_drew ?_ | refine blk_alloc ?_ _)); exact BK245.out) hb); have n3_ := Aside0.mk (below_step (by repeat (first | (with_reducible first | exact HB.out | apply below_alloc | apply pw_below_drewN | apply below_drew1 | refine below_set ?_ GE245.out) | exact HB.out)) hb); clear BK245; clear HB; have HO248 := n0_; have HO251 := n1_; have BK245 := n2_; have HB := n3_; clear n0_ n1_ n2_ n3_; (try clear hb); (try clear hb2); (try clear hk); (try clear hi); (try clear ho0); (try clear ho1); obtain ⟨Ao6, co6, eo6⟩ := Kd.N_slice HO248.out; subst eo6))
  go_loopg [3, 14] k (fun kq v3 v14 w' => ∃ (x3_1 : List ByteArray) (x14_1 : Int), v14 = .int .i64 x14_1 ∧ Aside0 (cylinderref34_Bound.l0 kq x3_1 t246 (t246.length : Int) x14_1 = some r) ∧ Aside0 (kq ≤ k) ∧ Aside0 (Kd.R Kd.string 9 w' w.heap.size (fun _ => True) v3 x3_1) ∧ Aside0 (Kd.N k29 29 w' w.heap.size (fun k_ => some k_ ≠ (v3 : Value).ownBlock ∧ k_ ≠ gb245) (.slice Ao6 t246.length co6) t246) ∧ Aside0 (w'.heap[gb245]? = some (.cells #[.int .i64 a0_0, .bool a0_1, (.slice A0_2 l0_2.length c0_2), .string a0_3, .int .i64 a0_4, .int .i64 a0_5, .bool a0_6, .bool a0_7, (.slice A0_8 l0_8.length c0_8)] 29 (0, 0))) ∧ Aside0 (Below w.heap.size w w'))
  case atStart => exact ⟨(([] : List ByteArray)), (0), (by first | rfl | (simp; done) | (simp [*]; done)), H', ⟨Nat.le_refl _⟩, ⟨by first | exact Kd.R_nil _ _ _ _ _ | exact Kd.N_nil _ _ _ _ _ | exact Kd.V_nil _ _ _ _ _ | exact Kd.Q_nil _ _ _ _ _ | exact Kd.S_nil _ _ _ _ _⟩, ⟨by (with_reducible repeat (first | apply Kd.N_alloc | apply Kd.N_drewN | apply Kd.N_drew)); exact Kd.N_mono HO248.out (fun _ hk => ⟨(by simp [Value.ownBlock]), hk.2⟩)⟩, ⟨by (with_reducible repeat (first | refine blk_drewN ?_ _ | refine blk_drew ?_ | refine blk_alloc ?_ _)); exact BK245.out⟩, ⟨by repeat (first | (with_reducible first | exact HB.out | apply below_alloc | apply pw_below_drewN | apply below_drew1 | refine below_set ?_ GE245.out) | exact HB.out)⟩⟩
  case round =>
    clear H'
    try clear p2
    try clear c3
    try clear hcz4_0
    try clear hcz4_1
    try clear hcz4_2
    try clear hcz4_3
    try clear hcz4_4
    try clear hcz4_5
    try clear hcz4_6
    try clear hcz4_7
    try clear hcz4_8
    try clear hfz4_0
    try clear hfz4_1
    try clear hfz4_2
    try clear hfz4_3
    try clear hfz4_4
    try clear hfz4_5
    try clear hfz4_6
    try clear hfz4_7
    try clear hfz4_8
    obtain ⟨x3_1, x14_1, rfl, HA, HK1, HO_3, HO_4, BK245, HB⟩ := hrel
    cases gk with
    | zero => exact absurd HA.out (by simp [cylinderref34_Bound.l0])
    | succ k1 =>
      have H := HA.out
      clear HA
      simp only [cylinderref34_Bound.l0] at H
      by_cases c7 : x14_1 < (t246.length : Int)
      · rw [if_pos c7] at H
        have c7b0 : decide (x14_1 < (t246.length : Int)) = true := decide_eq_true c7
        clear c7
        by_cases c8 : 0 ≤ x14_1
        · rw [if_pos c8] at H
          have c8b0 : decide (0 ≤ x14_1) = true := decide_eq_true c8
          clear c8
          by_cases c9 : x14_1 < (t246.length : Int)
          · rw [if_pos c9] at H
            have c9b0 : decide (x14_1 < (t246.length : Int)) = true := decide_eq_true c9
            clear c9
            by_cases c10 : ((rd_T29 t246 x14_1).f0) = 15
            · rw [if_pos c10] at H
              have c10b0 : (((rd_T29 t246 x14_1).f0) == 15) = true := beq_iff_eq.mpr c10
              have c10b1 : (((rd_T29 t246 x14_1).f0) != 15) = false := bne_eq_false_iff_eq.mpr c10
              clear c10
              by_cases c11 : x3_1.length < 8796093022208
              · rw [if_pos c11] at H
                have LMc11 := Aside0.mk c11
                clear c11
                obtain ⟨y254, hy254⟩ : ∃ y_ : List ByteArray, y_ = (x3_1 ++ [(rd_T29 t246 x14_1).f2]) := ⟨_, rfl⟩
                replace H : (cylinderref34_Bound.l0 k1 y254 t246 (t246.length : Int) (wrap64 (x14_1 + 1))) = some r := by first | (rw [hy254]; with_reducible exact H) | (have H2_ := (Option.bind_some _ _).symm.trans H; rw [hy254]; with_reducible exact H2_) | (have H2_ := (Option.bind_some _ _).symm.trans H; with_reducible exact H2_) | with_reducible exact H | (rw [hy254]; exact H) | exact H
                have Ny254 := Aside0.mk hy254
                clear hy254
                have H' := Aside0.mk H
                clear H
                have p252 : 0 ≤ (x14_1 : Int) := of_decide_eq_true (by first | (with_reducible assumption) | assumption)
                have q252 : x14_1 < (t246.length : Int) := of_decide_eq_true (by first | (with_reducible assumption) | assumption)
                obtain ⟨ad252, A252_2, c252_2, A252_8, c252_8, e252, hx252_0, hx252_1, hx252_2, hx252_3, hx252_4, hx252_5, hx252_6, hx252_7, hx252_8, hl252_2, hi252_2, hl252_8, hi252_8⟩ := at_T29 (Kd.N_reads' HO_4.out).2.2 x14_1 p252 q252
                cases e252
                obtain ⟨ce252, hce252, hMe252, hcc252⟩ := Kd.N_get HO_4.out z29 x14_1 p252 (by first | exact q252 | exact of_decide_eq_true (by first | (with_reducible assumption) | assumption) | (have e_ := (Kd.N_reads' HO_4.out).1; omega))
                obtain ⟨ua252_2, uc252_2, ua252_8, uc252_8, rfl, ul252_2, ge252_2, ul252_8, ge252_8⟩ := k29_openF hMe252
                have hv252_2 := hcc252 2 _ rfl
                rw [add_field _ _ 2 (by omega)] at hv252_2
                replace hv252_2 := Option.some.inj (hv252_2.symm.trans hx252_2)
                injection hv252_2 with hva_ hvn_ hvc_
                rw [hva_] at ge252_2
                rw [hvc_] at ul252_2
                have HL252_2 := Aside0.mk (show Kd.V (Kd.int .u32) 103 _ w.heap.size _ _ ((rd_T29 t246 x14_1).f1.f1) from Kd.V_mk ul252_2 ge252_2)
                clear hva_ hvn_ hvc_ ge252_2 ul252_2
                have hv252_8 := hcc252 8 _ rfl
                rw [add_field _ _ 8 (by omega)] at hv252_8
                replace hv252_8 := Option.some.inj (hv252_8.symm.trans hx252_8)
                injection hv252_8 with hva_ hvn_ hvc_
                rw [hva_] at ge252_8
                rw [hvc_] at ul252_8
                have HL252_8 := Aside0.mk (show Kd.V k29 29 _ w.heap.size _ _ ((rd_T29 t246 x14_1).f7) from Kd.V_mk ul252_8 ge252_8)
                clear hva_ hvn_ hvc_ ge252_8 ul252_8
                clear hcc252 hce252
                have HR252_2 := Aside0.mk hi252_2
                have HC252_2 := Aside0.mk hl252_2
                clear hi252_2 hl252_2
                have HR252_8 := Aside0.mk hi252_8
                have HC252_8 := Aside0.mk hl252_8
                clear hi252_8 hl252_8
                replace p252 := eq_true p252
                replace q252 := eq_true q252
                have p253 : 0 ≤ (x14_1 : Int) := of_decide_eq_true (by first | (with_reducible assumption) | assumption)
                have q253 : x14_1 < (t246.length : Int) := of_decide_eq_true (by first | (with_reducible assumption) | assumption)
                obtain ⟨ad253, A253_2, c253_2, A253_8, c253_8, e253, hx253_0, hx253_1, hx253_2, hx253_3, hx253_4, hx253_5, hx253_6, hx253_7, hx253_8, hl253_2, hi253_2, hl253_8, hi253_8⟩ := at_T29 (Kd.N_reads' HO_4.out).2.2 x14_1 p253 q253
                obtain rfl : ad252 = ad253 := (by injection e253)
                obtain ⟨ce253, hce253, hMe253, hcc253⟩ := Kd.N_get HO_4.out z29 x14_1 p253 (by first | exact q253 | exact of_decide_eq_true (by first | (with_reducible assumption) | assumption) | (have e_ := (Kd.N_reads' HO_4.out).1; omega))
                obtain ⟨ua253_2, uc253_2, ua253_8, uc253_8, rfl, ul253_2, ge253_2, ul253_8, ge253_8⟩ := k29_openF hMe253
                have hv253_2 := hcc253 2 _ rfl
                rw [add_field _ _ 2 (by omega)] at hv253_2
                replace hv253_2 := Option.some.inj (hv253_2.symm.trans hx253_2)
                injection hv253_2 with hva_ hvn_ hvc_
                rw [hva_] at ge253_2
                rw [hvc_] at ul253_2
                have HL253_2 := Aside0.mk (show Kd.V (Kd.int .u32) 103 _ w.heap.size _ _ ((rd_T29 t246 x14_1).f1.f1) from Kd.V_mk ul253_2 ge253_2)
                clear hva_ hvn_ hvc_ ge253_2 ul253_2
                have hv253_8 := hcc253 8 _ rfl
                rw [add_field _ _ 8 (by omega)] at hv253_8
                replace hv253_8 := Option.some.inj (hv253_8.symm.trans hx253_8)
                injection hv253_8 with hva_ hvn_ hvc_
                rw [hva_] at ge253_8
                rw [hvc_] at ul253_8
                have HL253_8 := Aside0.mk (show Kd.V k29 29 _ w.heap.size _ _ ((rd_T29 t246 x14_1).f7) from Kd.V_mk ul253_8 ge253_8)
                clear hva_ hvn_ hvc_ ge253_8 ul253_8
                clear hcc253 hce253
                have HR253_2 := Aside0.mk hi253_2
                have HC253_2 := Aside0.mk hl253_2
                clear hi253_2 hl253_2
                have HR253_8 := Aside0.mk hi253_8
                have HC253_8 := Aside0.mk hl253_8
                clear hi253_8 hl253_8
                replace p253 := eq_true p253
                replace q253 := eq_true q253
                have ea_ := Option.some.inj (hx252_2.symm.trans hx253_2)
                injection ea_ with ea_ en_ ec_
                subst ea_
                subst ec_
                clear en_
                have ea_ := Option.some.inj (hx252_8.symm.trans hx253_8)
                injection ea_ with ea_ en_ ec_
                subst ea_
                subst ec_
                clear en_
                go_wp2_with (first | ((with_reducible refine gate_builtin (b := .append) (xs := #[.tmp 23, .tmp 29]) rfl ?_); at_builtin; refine Kd.R_append Kd.string (w0 := w) w.heap.size rfl (.tmp 23) (.tmp 29) 48 9 (.string ⟨#[]⟩) 16 rfl Try.underlying48 info9 rfl (by decide) (by omega) u3 x3_1 ((rd_T29 t246 x14_1).f2) [.string ((rd_T29 t246 x14_1).f2)] (fun _ => True) (fun _ => False) rfl rfl ?aP (fun _ hk => hk.elim) ?aF ?aO ?aB ?aS ?aL ?_; (case aP => exact rfl); (case aB => exact (by repeat (first | (with_reducible first | exact HB.out | apply below_alloc | apply pw_below_drewN | apply below_drew1 | refine below_set ?_ GE245.out) | exact HB.out))); (case aF => exact (fun _ _ => trivial)); (case aO => exact (by (with_reducible repeat (first | apply Kd.R_alloc | apply Kd.R_drewN | apply Kd.R_drew)); exact HO_3.out)); (case aS => exact (below_size (by repeat (first | (with_reducible first | exact HB.out | apply below_alloc | apply pw_below_drewN | apply below_drew1 | refine below_set ?_ GE245.out) | exact HB.out)))); (case aL => have := LMc11.out; omega); intro v255 w12 ho hb hg hat; rw [← Ny254.out] at ho; have n0_ := Aside0.mk (Kd.N_afterv (ok := (fun k_ => k_ ≠ gb245)) (by (with_reducible repeat (first | apply Kd.N_alloc | apply Kd.N_drewN | apply Kd.N_drew)); exact Kd.N_mono HO_4.out (fun _ hk => ⟨hk.2, hk.1⟩)) hg hat); have n1_ := Aside0.mk (blk_grown (g := gb245) (o := .cells #[.int .i64 a0_0, .bool a0_1, .slice A0_2 l0_2.length c0_2, .string a0_3, .int .i64 a0_4, .int .i64 a0_5, .bool a0_6, .bool a0_7, .slice A0_8 l0_8.length c0_8] 29 (0, 0)) (by (with_reducible repeat (first | refine blk_drewN ?_ _ | refine blk_drew ?_ | refine blk_alloc ?_ _)); exact BK245.out) hg (Kd.R_ne HO_3.out BK245.out (by decide))); have n2_ := Aside0.mk (Kd.V_afterv (ok := (fun k_ => some k_ ≠ (.slice (some ad252) t246.length co6 : Value).ownBlock ∧ k_ ≠ gb245)) (by (with_reducible repeat (first | apply Kd.V_alloc | apply Kd.V_drewN | apply Kd.V_drew)); exact Kd.V_mono HL252_2.out (fun _ hk => ⟨⟨hk.2, hk.1.2⟩, hk.1.1⟩)) hg hat); have n3_ := Aside0.mk (Kd.V_afterv (ok := (fun k_ => some k_ ≠ (.slice (some ad252) t246.length co6 : Value).ownBlock ∧ k_ ≠ gb245)) (by (with_reducible repeat (first | apply Kd.V_alloc | apply Kd.V_drewN | apply Kd.V_drew)); exact Kd.V_mono HL252_8.out (fun _ hk => ⟨⟨hk.2, hk.1.2⟩, hk.1.1⟩)) hg hat); have n4_ := Aside0.mk (Kd.V_afterv (ok := (fun k_ => some k_ ≠ (.slice (some ad252) t246.length co6 : Value).ownBlock ∧ k_ ≠ gb245)) (by (with_reducible repeat (first | apply Kd.V_alloc | apply Kd.V_drewN | apply Kd.V_drew)); exact Kd.V_mono HL253_2.out (fun _ hk => ⟨⟨hk.2, hk.1.2⟩, hk.1.1⟩)) hg hat); have n5_ := Aside0.mk (Kd.V_afterv (ok := (fun k_ => some k_ ≠ (.slice (some ad252) t246.length co6 : Value).ownBlock ∧ k_ ≠ gb245)) (by (with_reducible repeat (first | apply Kd.V_alloc | apply Kd.V_drewN | apply Kd.V_drew)); exact Kd.V_mono HL253_8.out (fun _ hk => ⟨⟨hk.2, hk.1.2⟩, hk.1.1⟩)) hg hat); have n6_ := Aside0.mk (hb); have n7_ := Aside0.mk (ho); clear HO_4; clear BK245; clear HL252_2; clear HL252_8; clear HL253_2; clear HL253_8; clear HB; clear HO_3; have HO_4 := n0_; have BK245 := n1_; have HL252_2 := n2_; have HL252_8 := n3_; have HL253_2 := n4_; have HL253_8 := n5_; have HB := n6_; have HO256 := n7_; clear n0_ n1_ n2_ n3_ n4_ n5_ n6_ n7_; clear ho hb hg hat))
                go_roundg k1
                case measure => have := HK1.out; omega
                case rel => exact ⟨(y254), (wrap64 (x14_1 + 1)), (by first | rfl | (simp; done) | (simp [*]; done)), H', ⟨by have := HK1.out; omega⟩, ⟨by (with_reducible repeat (first | apply Kd.R_alloc | apply Kd.R_drewN | apply Kd.R_drew)); exact HO256.out⟩, ⟨by (with_reducible repeat (first | apply Kd.N_alloc | apply Kd.N_drewN | apply Kd.N_drew)); exact Kd.N_mono HO_4.out (fun _ hk => ⟨hk.2, hk.1⟩)⟩, ⟨by (with_reducible repeat (first | refine blk_drewN ?_ _ | refine blk_drew ?_ | refine blk_alloc ?_ _)); exact BK245.out⟩, ⟨by repeat (first | (with_reducible first | exact HB.out | apply below_alloc | apply pw_below_drewN | apply below_drew1 | refine below_set ?_ GE245.out) | exact HB.out)⟩⟩
              · rw [if_neg c11] at H
                exact absurd H (by simp)
            · rw [if_neg c10] at H
              have c10b0 : (((rd_T29 t246 x14_1).f0) == 15) = false := beq_eq_false_iff_ne.mpr c10
              have c10b1 : (((rd_T29 t246 x14_1).f0) != 15) = true := bne_iff_ne.mpr c10
              have H' := Aside0.mk H
              clear H
              have p252 : 0 ≤ (x14_1 : Int) := of_decide_eq_true (by first | (with_reducible assumption) | assumption)
              have q252 : x14_1 < (t246.length : Int) := of_decide_eq_true (by first | (with_reducible assumption) | assumption)
              obtain ⟨ad252, A252_2, c252_2, A252_8, c252_8, e252, hx252_0, hx252_1, hx252_2, hx252_3, hx252_4, hx252_5, hx252_6, hx252_7, hx252_8, hl252_2, hi252_2, hl252_8, hi252_8⟩ := at_T29 (Kd.N_reads' HO_4.out).2.2 x14_1 p252 q252
              cases e252
              obtain ⟨ce252, hce252, hMe252, hcc252⟩ := Kd.N_get HO_4.out z29 x14_1 p252 (by first | exact q252 | exact of_decide_eq_true (by first | (with_reducible assumption) | assumption) | (have e_ := (Kd.N_reads' HO_4.out).1; omega))
              obtain ⟨ua252_2, uc252_2, ua252_8, uc252_8, rfl, ul252_2, ge252_2, ul252_8, ge252_8⟩ := k29_openF hMe252
              have hv252_2 := hcc252 2 _ rfl
              rw [add_field _ _ 2 (by omega)] at hv252_2
              replace hv252_2 := Option.some.inj (hv252_2.symm.trans hx252_2)
              injection hv252_2 with hva_ hvn_ hvc_
              rw [hva_] at ge252_2
              rw [hvc_] at ul252_2
              have HL252_2 := Aside0.mk (show Kd.V (Kd.int .u32) 103 _ w.heap.size _ _ ((rd_T29 t246 x14_1).f1.f1) from Kd.V_mk ul252_2 ge252_2)
              clear hva_ hvn_ hvc_ ge252_2 ul252_2
              have hv252_8 := hcc252 8 _ rfl
              rw [add_field _ _ 8 (by omega)] at hv252_8
              replace hv252_8 := Option.some.inj (hv252_8.symm.trans hx252_8)
              injection hv252_8 with hva_ hvn_ hvc_
              rw [hva_] at ge252_8
              rw [hvc_] at ul252_8
              have HL252_8 := Aside0.mk (show Kd.V k29 29 _ w.heap.size _ _ ((rd_T29 t246 x14_1).f7) from Kd.V_mk ul252_8 ge252_8)
              clear hva_ hvn_ hvc_ ge252_8 ul252_8
              clear hcc252 hce252
              have HR252_2 := Aside0.mk hi252_2
              have HC252_2 := Aside0.mk hl252_2
              clear hi252_2 hl252_2
              have HR252_8 := Aside0.mk hi252_8
              have HC252_8 := Aside0.mk hl252_8
              clear hi252_8 hl252_8
              replace p252 := eq_true p252
              replace q252 := eq_true q252
              go_wp2
              go_roundg k1
              case measure => have := HK1.out; omega
              case rel => exact ⟨(x3_1), (wrap64 (x14_1 + 1)), (by first | rfl | (simp; done) | (simp [*]; done)), H', ⟨by have := HK1.out; omega⟩, ⟨by (with_reducible repeat (first | apply Kd.R_alloc | apply Kd.R_drewN | apply Kd.R_drew)); exact HO_3.out⟩, ⟨by (with_reducible repeat (first | apply Kd.N_alloc | apply Kd.N_drewN | apply Kd.N_drew)); exact HO_4.out⟩, ⟨by (with_reducible repeat (first | refine blk_drewN ?_ _ | refine blk_drew ?_ | refine blk_alloc ?_ _)); exact BK245.out⟩, ⟨by repeat (first | (with_reducible first | exact HB.out | apply below_alloc | apply pw_below_drewN | apply below_drew1 | refine below_set ?_ GE245.out) | exact HB.out)⟩⟩
          · rw [if_neg c9] at H
            exact absurd H (by simp)
        · rw [if_neg c8] at H
          exact absurd H (by simp)
      · rw [if_neg c7] at H
        have c7b0 : decide (x14_1 < (t246.length : Int)) = false := decide_eq_false c7
        clear c7
        obtain rfl := Option.some.inj H
        go_wp2
        go_ret
        exact ⟨_, by first | rfl | (simp [errW_none, errW_some] <;> rfl) | (simp [*, errW_none, errW_some] <;> rfl), by (with_reducible repeat (first | apply Kd.R_alloc | apply Kd.R_drewN | apply Kd.R_drew)); exact HO_3.out, by repeat (first | (with_reducible first | exact HB.out | apply below_alloc | apply pw_below_drewN | apply below_drew1 | refine below_set ?_ GE245.out) | exact HB.out)⟩

end Go.Proofs.Ytddpojinlapmfaa.PRef
