-- printed by wip/tools/xprint.py (the kit's print program, with stubs); checked by Lean
import Derived.Test.YtddpojinlapmfaaPRefx0
import Derived.Test.YtddpojinlapmfaaPRefRB
import Derived.Test.YtddpojinlapmfaaPRefRI
namespace Go.Proofs.Ytddpojinlapmfaa.PRef
open Go.RowKit Go.Proofs.YtddpojinlapmfaaW.PrintWords Go.Proofs.YtddpojinlapmfaaW.PrintLast Go.Proofs.YtddpojinlapmfaaW.PrintMore
attribute [local go_sem] max2_int min2_int max_two min_two max_three min_three max_four min_four   -- for this text's walks alone
set_option linter.unusedVariables false
set_option linter.unusedSimpArgs false

/-! ### cylinderref34_Atoms: function 34 -/
def cylinderref34_Atoms.l0 : Nat → Int → List (S29) → Int → Int → Option (Int)
  | 0, _, _, _, _ => none
  | k + 1, x3, x4, x13, x14 => if x14 < x13 then (if 0 ≤ x14 then (if x14 < (x4.length : Int) then (if ((rd_T29 x4 x14).f0) = 9 then (cylinderref34_Atoms.l0 k (wrap64 (x3 + 1)) x4 x13 (wrap64 (x14 + 1))) else (cylinderref34_Atoms.l0 k x3 x4 x13 (wrap64 (x14 + 1)))) else (none)) else (none)) else (some x3)
def cylinderref34_Atoms.f (k : Nat) (a0_0 : Int) (a0_1 : Bool) (l0_2 : List Int) (a0_3 : ByteArray) (a0_4 : Int) (a0_5 : Int) (a0_6 : Bool) (a0_7 : Bool) (l0_8 : List (S29)) : Option (Int) := (cylinderref34_Parts.f k a0_0 a0_1 l0_2 a0_3 a0_4 a0_5 a0_6 a0_7 l0_8).bind fun bt259 => (cylinderref34_Atoms.l0 k 0 bt259.1 (bt259.1.length : Int) 0)
theorem cylinderref34_Atoms.mono_l : ∀ k, (∀ y0 y1 y2 y3, LeO (cylinderref34_Atoms.l0 k y0 y1 y2 y3) (cylinderref34_Atoms.l0 (k + 1) y0 y1 y2 y3))
  | 0 => fun _ _ _ _ r h => by simp [cylinderref34_Atoms.l0] at h
  | k + 1 => by
    have ih0 := cylinderref34_Atoms.mono_l k
    · intro y0 y1 y2 y3
      unfold cylinderref34_Atoms.l0
      repeat' first
      | (with_reducible exact ih0 _ _ _ _)
      | (with_reducible exact cylinderref34_Parts.mono _ _ _ _ _ _ _ _ _ _)
      | (with_reducible exact LeO.refl _)
      | (with_reducible exact LeO.none _)
      | (with_reducible refine LeO.ite ?_ ?_)
      | (with_reducible refine LeO.bind ?_ (fun _ => ?_))
      | exact ih0 _ _ _ _
      | exact cylinderref34_Parts.mono _ _ _ _ _ _ _ _ _ _
      | exact LeO.none _
      | refine LeO.ite ?_ ?_
      | refine LeO.bind ?_ (fun _ => ?_)
theorem cylinderref34_Atoms.mono : ∀ a0 a1 a2 a3 a4 a5 a6 a7 a8 k, LeO (cylinderref34_Atoms.f k a0 a1 a2 a3 a4 a5 a6 a7 a8) (cylinderref34_Atoms.f (k + 1) a0 a1 a2 a3 a4 a5 a6 a7 a8) := by
  intro a0 a1 a2 a3 a4 a5 a6 a7 a8 k
  have ih0 := cylinderref34_Atoms.mono_l k
  unfold cylinderref34_Atoms.f
  repeat' first
      | (with_reducible exact ih0 _ _ _ _)
      | (with_reducible exact cylinderref34_Parts.mono _ _ _ _ _ _ _ _ _ _)
      | (with_reducible exact LeO.refl _)
      | (with_reducible exact LeO.none _)
      | (with_reducible refine LeO.ite ?_ ?_)
      | (with_reducible refine LeO.bind ?_ (fun _ => ?_))
      | exact ih0 _ _ _ _
      | exact cylinderref34_Parts.mono _ _ _ _ _ _ _ _ _ _
      | exact LeO.none _
      | refine LeO.ite ?_ ?_
      | refine LeO.bind ?_ (fun _ => ?_)
set_option maxHeartbeats 8000000 in
set_option maxRecDepth 100000 in
theorem cylinderref34_Atoms.calls (k : Nat) (a0_0 : Int) (a0_1 : Bool) (A0_2 : Option Addr) (c0_2 : Nat) (l0_2 : List Int) (a0_3 : ByteArray) (a0_4 : Int) (a0_5 : Int) (a0_6 : Bool) (a0_7 : Bool) (A0_8 : Option Addr) (c0_8 : Nat) (l0_8 : List (S29)) (r : Int) (w : World) (hr0_2 : Kd.C (Kd.int .u32) w A0_2 l0_2.length l0_2) (hc0_2 : l0_2.length ≤ c0_2) (hr0_8 : Kd.C k29 w A0_8 l0_8.length l0_8) (hc0_8 : l0_8.length ≤ c0_8) (h : cylinderref34_Atoms.f k a0_0 a0_1 l0_2 a0_3 a0_4 a0_5 a0_6 a0_7 l0_8 = some r) :
    Calls Try.prog 34 #[.agg #[.int .i64 a0_0, .bool a0_1, .slice A0_2 l0_2.length c0_2, .string a0_3, .int .i64 a0_4, .int .i64 a0_5, .bool a0_6, .bool a0_7, .slice A0_8 l0_8.length c0_8]] w fun e w' => e = .returned (.int .i64 r) ∧ Below w.heap.size w w' := by
  have hu29 := Try.underlying29
  have HR0_2 := Aside0.mk hr0_2
  have HC0_2 := Aside0.mk hc0_2
  clear hr0_2 hc0_2
  have HR0_8 := Aside0.mk hr0_8
  have HC0_8 := Aside0.mk hc0_8
  clear hr0_8 hc0_8
  have HB := Aside0.mk (Below.refl w.heap.size w)
  have H : ((cylinderref34_Parts.f k a0_0 a0_1 l0_2 a0_3 a0_4 a0_5 a0_6 a0_7 l0_8).bind fun bt259 => (cylinderref34_Atoms.l0 k 0 bt259.1 (bt259.1.length : Int) 0)) = some r := h
  clear h
  replace H := Option.bind_eq_some_iff.mp H
  obtain ⟨⟨t259, t262⟩, A20, H⟩ := H
  replace H : (cylinderref34_Atoms.l0 k 0 t259 (t259.length : Int) 0) = some r := H
  have A2 := Aside0.mk A20
  clear A20
  have H' := Aside0.mk H
  clear H
  go_enter Try.func34, Try.ntmps34
  go_wp2_with (first | ((with_reducible refine gate_dst (N := 1) rfl ?_); refine box_event ?hg (N := 1) ?hd (cs := #[.int .i64 a0_0, .bool a0_1, .slice A0_2 l0_2.length c0_2, .string a0_3, .int .i64 a0_4, .int .i64 a0_5, .bool a0_6, .bool a0_7, .slice A0_8 l0_8.length c0_8]) (t := 29) ?hr ?_; (case hd => rfl); (case hg => rfl); (case hr => first | (go_simp; done) | (go_simp; rfl)); intro gb258 hg w3 hbox hb; have n0_ := Aside0.mk (below_step (by repeat (first | (with_reducible first | exact HB.out | apply below_alloc | apply pw_below_drewN | apply below_drew1) | exact HB.out)) hb); have n1_ := Aside0.mk (hbox); have n2_ := Aside0.mk ((by rw [hg]; exact (below_size (by repeat (first | (with_reducible first | exact HB.out | apply below_alloc | apply pw_below_drewN | apply below_drew1) | exact HB.out))) : w.heap.size ≤ gb258)); have n3_ := Aside0.mk ((by rw [hg]; exact (below_size (by repeat (first | (with_reducible first | exact HB.out | apply below_alloc | apply pw_below_drewN | apply below_drew1) | exact HB.out))) : w.heap.size ≤ gb258)); clear HB; have HB := n0_; have BK258 := n1_; have GW258 := n2_; have GE258 := n3_; clear n0_ n1_ n2_ n3_; clear hb hbox hg; have hcz4_0 : w3.cell? ⟨gb258, 0, none⟩ = some (.int .i64 a0_0) := (blk_cell BK258.out 0).trans rfl; have hcz4_1 : w3.cell? ⟨gb258, 1, none⟩ = some (.bool a0_1) := (blk_cell BK258.out 1).trans rfl; have hcz4_2 : w3.cell? ⟨gb258, 2, none⟩ = some (.slice A0_2 l0_2.length c0_2) := (blk_cell BK258.out 2).trans rfl; have hcz4_3 : w3.cell? ⟨gb258, 3, none⟩ = some (.string a0_3) := (blk_cell BK258.out 3).trans rfl; have hcz4_4 : w3.cell? ⟨gb258, 4, none⟩ = some (.int .i64 a0_4) := (blk_cell BK258.out 4).trans rfl; have hcz4_5 : w3.cell? ⟨gb258, 5, none⟩ = some (.int .i64 a0_5) := (blk_cell BK258.out 5).trans rfl; have hcz4_6 : w3.cell? ⟨gb258, 6, none⟩ = some (.bool a0_6) := (blk_cell BK258.out 6).trans rfl; have hcz4_7 : w3.cell? ⟨gb258, 7, none⟩ = some (.bool a0_7) := (blk_cell BK258.out 7).trans rfl; have hcz4_8 : w3.cell? ⟨gb258, 8, none⟩ = some (.slice A0_8 l0_8.length c0_8) := (blk_cell BK258.out 8).trans rfl; have hfz4_0 := blk_frozen BK258.out 0; have hfz4_1 := blk_frozen BK258.out 1; have hfz4_2 := blk_frozen BK258.out 2; have hfz4_3 := blk_frozen BK258.out 3; have hfz4_4 := blk_frozen BK258.out 4; have hfz4_5 := blk_frozen BK258.out 5; have hfz4_6 := blk_frozen BK258.out 6; have hfz4_7 := blk_frozen BK258.out 7; have hfz4_8 := blk_frozen BK258.out 8) | ((with_reducible refine gate_callee (f := 31) rfl ?_); refine goesL_ (some 9) rfl rfl Try.func31 (by kernel_rfl) rfl #[.agg #[.int .i64 a0_0, .bool a0_1, .slice A0_2 l0_2.length c0_2, .string a0_3, .int .i64 a0_4, .int .i64 a0_5, .bool a0_6, .bool a0_7, .slice A0_8 l0_8.length c0_8]] rfl (by (try simp only [List.map_toArray, List.map_cons, List.map_nil]); first | done | rfl | (simp only [List.length_drop, List.length_take]; rfl)) ?_; (with_reducible refine (cylinderref34_Parts.calls k a0_0 a0_1 (fun k_ => k_ < w.heap.size) _ _ l0_2 a0_3 a0_4 a0_5 a0_6 a0_7 (fun k_ => k_ < w.heap.size) _ _ l0_8 t259 t262 _ ?side1 ?side2 A2.out).mono ?_); (case side1 => exact Kd.V_mk HC0_2.out (Kd.F_below (Kd.C_F (Kd.heap_int .u32) HR0_2.out) (by repeat (first | (with_reducible first | exact HB.out | apply below_alloc | apply pw_below_drewN | apply below_drew1 | refine below_set ?_ GE258.out) | exact HB.out)))); (case side2 => exact Kd.V_mk HC0_8.out (Kd.F_below (Kd.C_F k29_heap HR0_8.out) (by repeat (first | (with_reducible first | exact HB.out | apply below_alloc | apply pw_below_drewN | apply below_drew1 | refine below_set ?_ GE258.out) | exact HB.out)))); rintro e w5 ⟨v260, v263, rfl, ho0, ho1, hb⟩; refine ⟨_, rfl, ?_⟩; have n0_ := Aside0.mk (Kd.N_lower (Kd.N_mono (ok' := fun k_ => some k_ ≠ (v263 : Value).ownBlock ∧ k_ ≠ gb258) ho0 (fun k_ hk_ => ⟨hk_.2, Or.elim hk_.1 (fun hs_ => Or.elim hs_ (fun hs_ => fun e_ => Nat.not_le.2 hs_ (by rw [e_]; exact GW258.out)) (fun hs_ => fun e_ => Nat.not_le.2 hs_ (by rw [e_]; exact GW258.out))) (fun hn_ => (Kd.freshB (g := gb258) (o := .cells #[.int .i64 a0_0, .bool a0_1, .slice A0_2 l0_2.length c0_2, .string a0_3, .int .i64 a0_4, .int .i64 a0_5, .bool a0_6, .bool a0_7, .slice A0_8 l0_8.length c0_8] 29 (0, 0)) (by (with_reducible repeat (first | refine blk_drewN ?_ _ | refine blk_drew ?_ | refine blk_alloc ?_ _)); exact BK258.out) k_ hn_))⟩)) (below_size (by repeat (first | (with_reducible first | exact HB.out | apply below_alloc | apply pw_below_drewN | apply below_drew1 | refine below_set ?_ GE258.out) | exact HB.out)))); have n1_ := Aside0.mk (Kd.R_lower (Kd.R_mono (ok' := fun k_ => True) ho1 (fun _ hk_ => trivial)) (below_size (by repeat (first | (with_reducible first | exact HB.out | apply below_alloc | apply pw_below_drewN | apply below_drew1 | refine below_set ?_ GE258.out) | exact HB.out)))); have n2_ := Aside0.mk (blk_below (g := gb258) (o := .cells #[.int .i64 a0_0, .bool a0_1, .slice A0_2 l0_2.length c0_2, .string a0_3, .int .i64 a0_4, .int .i64 a0_5, .bool a0_6, .bool a0_7, .slice A0_8 l0_8.length c0_8] 29 (0, 0)) (by (with_reducible repeat (first | refine blk_drewN ?_ _ | refine blk_drew ?_ | refine blk_alloc ?_ _)); exact BK258.out) hb); have n3_ := Aside0.mk (below_step (by repeat (first | (with_reducible first | exact HB.out | apply below_alloc | apply pw_below_drewN | apply below_drew1 | refine below_set ?_ GE258.out) | exact HB.out)) hb); clear BK258; clear HB; have HO261 := n0_; have HO264 := n1_; have BK258 := n2_; have HB := n3_; clear n0_ n1_ n2_ n3_; (try clear hb); (try clear hb2); (try clear hk); (try clear hi); (try clear ho0); (try clear ho1); obtain ⟨Ao6, co6, eo6⟩ := Kd.N_slice HO261.out; subst eo6))
  go_loopg [3, 14] k (fun kq v3 v14 w' => ∃ (x3_1 : Int) (x14_1 : Int), v3 = .int .i64 x3_1 ∧ v14 = .int .i64 x14_1 ∧ Aside0 (cylinderref34_Atoms.l0 kq x3_1 t259 (t259.length : Int) x14_1 = some r) ∧ Aside0 (kq ≤ k) ∧ Aside0 (Kd.N k29 29 w' w.heap.size (fun k_ => k_ ≠ gb258) (.slice Ao6 t259.length co6) t259) ∧ Aside0 (w'.heap[gb258]? = some (.cells #[.int .i64 a0_0, .bool a0_1, (.slice A0_2 l0_2.length c0_2), .string a0_3, .int .i64 a0_4, .int .i64 a0_5, .bool a0_6, .bool a0_7, (.slice A0_8 l0_8.length c0_8)] 29 (0, 0))) ∧ Aside0 (Below w.heap.size w w'))
  case atStart => exact ⟨(0), (0), (by first | rfl | (simp; done) | (simp [*]; done)), (by first | rfl | (simp; done) | (simp [*]; done)), H', ⟨Nat.le_refl _⟩, ⟨by (with_reducible repeat (first | apply Kd.N_alloc | apply Kd.N_drewN | apply Kd.N_drew)); exact Kd.N_mono HO261.out (fun _ hk => hk.2)⟩, ⟨by (with_reducible repeat (first | refine blk_drewN ?_ _ | refine blk_drew ?_ | refine blk_alloc ?_ _)); exact BK258.out⟩, ⟨by repeat (first | (with_reducible first | exact HB.out | apply below_alloc | apply pw_below_drewN | apply below_drew1 | refine below_set ?_ GE258.out) | exact HB.out)⟩⟩
  case round =>
    clear H'
    try clear p2
    try clear c3
    try clear hcz4_0
    try clear hcz4_1
    try clear hcz4_2
    try clear hcz4_3
    try clear hcz4_4
    try clear hcz4_5
    try clear hcz4_6
    try clear hcz4_7
    try clear hcz4_8
    try clear hfz4_0
    try clear hfz4_1
    try clear hfz4_2
    try clear hfz4_3
    try clear hfz4_4
    try clear hfz4_5
    try clear hfz4_6
    try clear hfz4_7
    try clear hfz4_8
    obtain ⟨x3_1, x14_1, rfl, rfl, HA, HK1, HO_4, BK258, HB⟩ := hrel
    cases gk with
    | zero => exact absurd HA.out (by simp [cylinderref34_Atoms.l0])
    | succ k1 =>
      have H := HA.out
      clear HA
      simp only [cylinderref34_Atoms.l0] at H
      by_cases c7 : x14_1 < (t259.length : Int)
      · rw [if_pos c7] at H
        have c7b0 : decide (x14_1 < (t259.length : Int)) = true := decide_eq_true c7
        clear c7
        by_cases c8 : 0 ≤ x14_1
        · rw [if_pos c8] at H
          have c8b0 : decide (0 ≤ x14_1) = true := decide_eq_true c8
          clear c8
          by_cases c9 : x14_1 < (t259.length : Int)
          · rw [if_pos c9] at H
            have c9b0 : decide (x14_1 < (t259.length : Int)) = true := decide_eq_true c9
            clear c9
            by_cases c10 : ((rd_T29 t259 x14_1).f0) = 9
            · rw [if_pos c10] at H
              have c10b0 : (((rd_T29 t259 x14_1).f0) == 9) = true := beq_iff_eq.mpr c10
              have c10b1 : (((rd_T29 t259 x14_1).f0) != 9) = false := bne_eq_false_iff_eq.mpr c10
              clear c10
              have H' := Aside0.mk H
              clear H
              have p265 : 0 ≤ (x14_1 : Int) := of_decide_eq_true (by first | (with_reducible assumption) | assumption)
              have q265 : x14_1 < (t259.length : Int) := of_decide_eq_true (by first | (with_reducible assumption) | assumption)
              obtain ⟨ad265, A265_2, c265_2, A265_8, c265_8, e265, hx265_0, hx265_1, hx265_2, hx265_3, hx265_4, hx265_5, hx265_6, hx265_7, hx265_8, hl265_2, hi265_2, hl265_8, hi265_8⟩ := at_T29 (Kd.N_reads' HO_4.out).2.2 x14_1 p265 q265
              cases e265
              obtain ⟨ce265, hce265, hMe265, hcc265⟩ := Kd.N_get HO_4.out z29 x14_1 p265 (by first | exact q265 | exact of_decide_eq_true (by first | (with_reducible assumption) | assumption) | (have e_ := (Kd.N_reads' HO_4.out).1; omega))
              obtain ⟨ua265_2, uc265_2, ua265_8, uc265_8, rfl, ul265_2, ge265_2, ul265_8, ge265_8⟩ := k29_openF hMe265
              have hv265_2 := hcc265 2 _ rfl
              rw [add_field _ _ 2 (by omega)] at hv265_2
              replace hv265_2 := Option.some.inj (hv265_2.symm.trans hx265_2)
              injection hv265_2 with hva_ hvn_ hvc_
              rw [hva_] at ge265_2
              rw [hvc_] at ul265_2
              have HL265_2 := Aside0.mk (show Kd.V (Kd.int .u32) 103 _ w.heap.size _ _ ((rd_T29 t259 x14_1).f1.f1) from Kd.V_mk ul265_2 ge265_2)
              clear hva_ hvn_ hvc_ ge265_2 ul265_2
              have hv265_8 := hcc265 8 _ rfl
              rw [add_field _ _ 8 (by omega)] at hv265_8
              replace hv265_8 := Option.some.inj (hv265_8.symm.trans hx265_8)
              injection hv265_8 with hva_ hvn_ hvc_
              rw [hva_] at ge265_8
              rw [hvc_] at ul265_8
              have HL265_8 := Aside0.mk (show Kd.V k29 29 _ w.heap.size _ _ ((rd_T29 t259 x14_1).f7) from Kd.V_mk ul265_8 ge265_8)
              clear hva_ hvn_ hvc_ ge265_8 ul265_8
              clear hcc265 hce265
              have HR265_2 := Aside0.mk hi265_2
              have HC265_2 := Aside0.mk hl265_2
              clear hi265_2 hl265_2
              have HR265_8 := Aside0.mk hi265_8
              have HC265_8 := Aside0.mk hl265_8
              clear hi265_8 hl265_8
              replace p265 := eq_true p265
              replace q265 := eq_true q265
              go_wp2
              go_roundg k1
              case measure => have := HK1.out; omega
              case rel => exact ⟨(wrap64 (x3_1 + 1)), (wrap64 (x14_1 + 1)), (by first | rfl | (simp; done) | (simp [*]; done)), (by first | rfl | (simp; done) | (simp [*]; done)), H', ⟨by have := HK1.out; omega⟩, ⟨by (with_reducible repeat (first | apply Kd.N_alloc | apply Kd.N_drewN | apply Kd.N_drew)); exact HO_4.out⟩, ⟨by (with_reducible repeat (first | refine blk_drewN ?_ _ | refine blk_drew ?_ | refine blk_alloc ?_ _)); exact BK258.out⟩, ⟨by repeat (first | (with_reducible first | exact HB.out | apply below_alloc | apply pw_below_drewN | apply below_drew1 | refine below_set ?_ GE258.out) | exact HB.out)⟩⟩
            · rw [if_neg c10] at H
              have c10b0 : (((rd_T29 t259 x14_1).f0) == 9) = false := beq_eq_false_iff_ne.mpr c10
              have c10b1 : (((rd_T29 t259 x14_1).f0) != 9) = true := bne_iff_ne.mpr c10
              have H' := Aside0.mk H
              clear H
              have p265 : 0 ≤ (x14_1 : Int) := of_decide_eq_true (by first | (with_reducible assumption) | assumption)
              have q265 : x14_1 < (t259.length : Int) := of_decide_eq_true (by first | (with_reducible assumption) | assumption)
              obtain ⟨ad265, A265_2, c265_2, A265_8, c265_8, e265, hx265_0, hx265_1, hx265_2, hx265_3, hx265_4, hx265_5, hx265_6, hx265_7, hx265_8, hl265_2, hi265_2, hl265_8, hi265_8⟩ := at_T29 (Kd.N_reads' HO_4.out).2.2 x14_1 p265 q265
              cases e265
              obtain ⟨ce265, hce265, hMe265, hcc265⟩ := Kd.N_get HO_4.out z29 x14_1 p265 (by first | exact q265 | exact of_decide_eq_true (by first | (with_reducible assumption) | assumption) | (have e_ := (Kd.N_reads' HO_4.out).1; omega))
              obtain ⟨ua265_2, uc265_2, ua265_8, uc265_8, rfl, ul265_2, ge265_2, ul265_8, ge265_8⟩ := k29_openF hMe265
              have hv265_2 := hcc265 2 _ rfl
              rw [add_field _ _ 2 (by omega)] at hv265_2
              replace hv265_2 := Option.some.inj (hv265_2.symm.trans hx265_2)
              injection hv265_2 with hva_ hvn_ hvc_
              rw [hva_] at ge265_2
              rw [hvc_] at ul265_2
              have HL265_2 := Aside0.mk (show Kd.V (Kd.int .u32) 103 _ w.heap.size _ _ ((rd_T29 t259 x14_1).f1.f1) from Kd.V_mk ul265_2 ge265_2)
              clear hva_ hvn_ hvc_ ge265_2 ul265_2
              have hv265_8 := hcc265 8 _ rfl
              rw [add_field _ _ 8 (by omega)] at hv265_8
              replace hv265_8 := Option.some.inj (hv265_8.symm.trans hx265_8)
              injection hv265_8 with hva_ hvn_ hvc_
              rw [hva_] at ge265_8
              rw [hvc_] at ul265_8
              have HL265_8 := Aside0.mk (show Kd.V k29 29 _ w.heap.size _ _ ((rd_T29 t259 x14_1).f7) from Kd.V_mk ul265_8 ge265_8)
              clear hva_ hvn_ hvc_ ge265_8 ul265_8
              clear hcc265 hce265
              have HR265_2 := Aside0.mk hi265_2
              have HC265_2 := Aside0.mk hl265_2
              clear hi265_2 hl265_2
              have HR265_8 := Aside0.mk hi265_8
              have HC265_8 := Aside0.mk hl265_8
              clear hi265_8 hl265_8
              replace p265 := eq_true p265
              replace q265 := eq_true q265
              go_wp2
              go_roundg k1
              case measure => have := HK1.out; omega
              case rel => exact ⟨(x3_1), (wrap64 (x14_1 + 1)), (by first | rfl | (simp; done) | (simp [*]; done)), (by first | rfl | (simp; done) | (simp [*]; done)), H', ⟨by have := HK1.out; omega⟩, ⟨by (with_reducible repeat (first | apply Kd.N_alloc | apply Kd.N_drewN | apply Kd.N_drew)); exact HO_4.out⟩, ⟨by (with_reducible repeat (first | refine blk_drewN ?_ _ | refine blk_drew ?_ | refine blk_alloc ?_ _)); exact BK258.out⟩, ⟨by repeat (first | (with_reducible first | exact HB.out | apply below_alloc | apply pw_below_drewN | apply below_drew1 | refine below_set ?_ GE258.out) | exact HB.out)⟩⟩
          · rw [if_neg c9] at H
            exact absurd H (by simp)
        · rw [if_neg c8] at H
          exact absurd H (by simp)
      · rw [if_neg c7] at H
        have c7b0 : decide (x14_1 < (t259.length : Int)) = false := decide_eq_false c7
        clear c7
        obtain rfl := Option.some.inj H
        go_wp2
        go_ret
        exact ⟨by first | rfl | (simp [errW_none, errW_some] <;> rfl) | (simp [*, errW_none, errW_some] <;> rfl), by repeat (first | (with_reducible first | exact HB.out | apply below_alloc | apply pw_below_drewN | apply below_drew1 | refine below_set ?_ GE258.out) | exact HB.out)⟩

/-! ### cylinderref34_Nodes: function 36 -/
def cylinderref34_Nodes.f (k : Nat) (a0_0 : Int) (a0_1 : Bool) (l0_2 : List Int) (a0_3 : ByteArray) (a0_4 : Int) (a0_5 : Int) (a0_6 : Bool) (a0_7 : Bool) (l0_8 : List (S29)) : Option (Int) := (cylinderref34_List.f k a0_0 a0_1 l0_2 a0_3 a0_4 a0_5 a0_6 a0_7 l0_8 0).bind fun bt267 => (some (bt267.1.length : Int))
theorem cylinderref34_Nodes.mono : ∀ a0 a1 a2 a3 a4 a5 a6 a7 a8 k, LeO (cylinderref34_Nodes.f k a0 a1 a2 a3 a4 a5 a6 a7 a8) (cylinderref34_Nodes.f (k + 1) a0 a1 a2 a3 a4 a5 a6 a7 a8) := by
  intro a0 a1 a2 a3 a4 a5 a6 a7 a8 k
  unfold cylinderref34_Nodes.f
  repeat' first
      | (with_reducible exact cylinderref34_List.mono _ _ _ _ _ _ _ _ _ _ _)
      | (with_reducible exact LeO.refl _)
      | (with_reducible exact LeO.none _)
      | (with_reducible refine LeO.ite ?_ ?_)
      | (with_reducible refine LeO.bind ?_ (fun _ => ?_))
      | exact cylinderref34_List.mono _ _ _ _ _ _ _ _ _ _ _
      | exact LeO.none _
      | refine LeO.ite ?_ ?_
      | refine LeO.bind ?_ (fun _ => ?_)
set_option maxHeartbeats 8000000 in
set_option maxRecDepth 100000 in
theorem cylinderref34_Nodes.calls (k : Nat) (a0_0 : Int) (a0_1 : Bool) (A0_2 : Option Addr) (c0_2 : Nat) (l0_2 : List Int) (a0_3 : ByteArray) (a0_4 : Int) (a0_5 : Int) (a0_6 : Bool) (a0_7 : Bool) (A0_8 : Option Addr) (c0_8 : Nat) (l0_8 : List (S29)) (r : Int) (w : World) (hr0_2 : Kd.C (Kd.int .u32) w A0_2 l0_2.length l0_2) (hc0_2 : l0_2.length ≤ c0_2) (hr0_8 : Kd.C k29 w A0_8 l0_8.length l0_8) (hc0_8 : l0_8.length ≤ c0_8) (h : cylinderref34_Nodes.f k a0_0 a0_1 l0_2 a0_3 a0_4 a0_5 a0_6 a0_7 l0_8 = some r) :
    Calls Try.prog 36 #[.agg #[.int .i64 a0_0, .bool a0_1, .slice A0_2 l0_2.length c0_2, .string a0_3, .int .i64 a0_4, .int .i64 a0_5, .bool a0_6, .bool a0_7, .slice A0_8 l0_8.length c0_8]] w fun e w' => e = .returned (.int .i64 r) ∧ Below w.heap.size w w' := by
  have hu29 := Try.underlying29
  have HR0_2 := Aside0.mk hr0_2
  have HC0_2 := Aside0.mk hc0_2
  clear hr0_2 hc0_2
  have HR0_8 := Aside0.mk hr0_8
  have HC0_8 := Aside0.mk hc0_8
  clear hr0_8 hc0_8
  have HB := Aside0.mk (Below.refl w.heap.size w)
  have H : ((cylinderref34_List.f k a0_0 a0_1 l0_2 a0_3 a0_4 a0_5 a0_6 a0_7 l0_8 0).bind fun bt267 => (some (bt267.1.length : Int))) = some r := h
  clear h
  replace H := Option.bind_eq_some_iff.mp H
  obtain ⟨⟨t267, t270⟩, A20, H⟩ := H
  replace H : (some (t267.length : Int)) = some r := H
  have A2 := Aside0.mk A20
  clear A20
  obtain rfl := Option.some.inj H
  go_enter Try.func36, Try.ntmps36
  go_wp2_with (first | ((with_reducible refine gate_dst (N := 1) rfl ?_); refine box_event ?hg (N := 1) ?hd (cs := #[.int .i64 a0_0, .bool a0_1, .slice A0_2 l0_2.length c0_2, .string a0_3, .int .i64 a0_4, .int .i64 a0_5, .bool a0_6, .bool a0_7, .slice A0_8 l0_8.length c0_8]) (t := 29) ?hr ?_; (case hd => rfl); (case hg => rfl); (case hr => first | (go_simp; done) | (go_simp; rfl)); intro gb266 hg w3 hbox hb; have n0_ := Aside0.mk (below_step (by repeat (first | (with_reducible first | exact HB.out | apply below_alloc | apply pw_below_drewN | apply below_drew1) | exact HB.out)) hb); have n1_ := Aside0.mk (hbox); have n2_ := Aside0.mk ((by rw [hg]; exact (below_size (by repeat (first | (with_reducible first | exact HB.out | apply below_alloc | apply pw_below_drewN | apply below_drew1) | exact HB.out))) : w.heap.size ≤ gb266)); have n3_ := Aside0.mk ((by rw [hg]; exact (below_size (by repeat (first | (with_reducible first | exact HB.out | apply below_alloc | apply pw_below_drewN | apply below_drew1) | exact HB.out))) : w.heap.size ≤ gb266)); clear HB; have HB := n0_; have BK266 := n1_; have GW266 := n2_; have GE266 := n3_; clear n0_ n1_ n2_ n3_; clear hb hbox hg; have hcz4_0 : w3.cell? ⟨gb266, 0, none⟩ = some (.int .i64 a0_0) := (blk_cell BK266.out 0).trans rfl; have hcz4_1 : w3.cell? ⟨gb266, 1, none⟩ = some (.bool a0_1) := (blk_cell BK266.out 1).trans rfl; have hcz4_2 : w3.cell? ⟨gb266, 2, none⟩ = some (.slice A0_2 l0_2.length c0_2) := (blk_cell BK266.out 2).trans rfl; have hcz4_3 : w3.cell? ⟨gb266, 3, none⟩ = some (.string a0_3) := (blk_cell BK266.out 3).trans rfl; have hcz4_4 : w3.cell? ⟨gb266, 4, none⟩ = some (.int .i64 a0_4) := (blk_cell BK266.out 4).trans rfl; have hcz4_5 : w3.cell? ⟨gb266, 5, none⟩ = some (.int .i64 a0_5) := (blk_cell BK266.out 5).trans rfl; have hcz4_6 : w3.cell? ⟨gb266, 6, none⟩ = some (.bool a0_6) := (blk_cell BK266.out 6).trans rfl; have hcz4_7 : w3.cell? ⟨gb266, 7, none⟩ = some (.bool a0_7) := (blk_cell BK266.out 7).trans rfl; have hcz4_8 : w3.cell? ⟨gb266, 8, none⟩ = some (.slice A0_8 l0_8.length c0_8) := (blk_cell BK266.out 8).trans rfl; have hfz4_0 := blk_frozen BK266.out 0; have hfz4_1 := blk_frozen BK266.out 1; have hfz4_2 := blk_frozen BK266.out 2; have hfz4_3 := blk_frozen BK266.out 3; have hfz4_4 := blk_frozen BK266.out 4; have hfz4_5 := blk_frozen BK266.out 5; have hfz4_6 := blk_frozen BK266.out 6; have hfz4_7 := blk_frozen BK266.out 7; have hfz4_8 := blk_frozen BK266.out 8) | ((with_reducible refine gate_callee (f := 54) rfl ?_); refine goesL_ (some 7) rfl rfl Try.func54 (by kernel_rfl) rfl #[.agg #[.int .i64 a0_0, .bool a0_1, .slice A0_2 l0_2.length c0_2, .string a0_3, .int .i64 a0_4, .int .i64 a0_5, .bool a0_6, .bool a0_7, .slice A0_8 l0_8.length c0_8], .int .i64 0] rfl (by (try simp only [List.map_toArray, List.map_cons, List.map_nil]); first | done | rfl | (simp only [List.length_drop, List.length_take]; rfl)) ?_; (with_reducible refine (cylinderref34_List.calls k a0_0 a0_1 (fun k_ => k_ < w.heap.size) _ _ l0_2 a0_3 a0_4 a0_5 a0_6 a0_7 (fun k_ => k_ < w.heap.size) _ _ l0_8 0 t267 t270 _ ?side1 ?side2 A2.out).mono ?_); (case side1 => exact Kd.V_mk HC0_2.out (Kd.F_below (Kd.C_F (Kd.heap_int .u32) HR0_2.out) (by repeat (first | (with_reducible first | exact HB.out | apply below_alloc | apply pw_below_drewN | apply below_drew1 | refine below_set ?_ GE266.out) | exact HB.out)))); (case side2 => exact Kd.V_mk HC0_8.out (Kd.F_below (Kd.C_F k29_heap HR0_8.out) (by repeat (first | (with_reducible first | exact HB.out | apply below_alloc | apply pw_below_drewN | apply below_drew1 | refine below_set ?_ GE266.out) | exact HB.out)))); rintro e w5 ⟨v268, v271, rfl, ho0, ho1, hb⟩; refine ⟨_, rfl, ?_⟩; have n0_ := Aside0.mk (Kd.N_lower (Kd.N_mono (ok' := fun k_ => some k_ ≠ (v271 : Value).ownBlock ∧ k_ ≠ gb266) ho0 (fun k_ hk_ => ⟨hk_.2, Or.elim hk_.1 (fun hs_ => Or.elim hs_ (fun hs_ => fun e_ => Nat.not_le.2 hs_ (by rw [e_]; exact GW266.out)) (fun hs_ => fun e_ => Nat.not_le.2 hs_ (by rw [e_]; exact GW266.out))) (fun hn_ => (Kd.freshB (g := gb266) (o := .cells #[.int .i64 a0_0, .bool a0_1, .slice A0_2 l0_2.length c0_2, .string a0_3, .int .i64 a0_4, .int .i64 a0_5, .bool a0_6, .bool a0_7, .slice A0_8 l0_8.length c0_8] 29 (0, 0)) (by (with_reducible repeat (first | refine blk_drewN ?_ _ | refine blk_drew ?_ | refine blk_alloc ?_ _)); exact BK266.out) k_ hn_))⟩)) (below_size (by repeat (first | (with_reducible first | exact HB.out | apply below_alloc | apply pw_below_drewN | apply below_drew1 | refine below_set ?_ GE266.out) | exact HB.out)))); have n1_ := Aside0.mk (Kd.R_lower (Kd.R_mono (ok' := fun k_ => True) ho1 (fun _ hk_ => trivial)) (below_size (by repeat (first | (with_reducible first | exact HB.out | apply below_alloc | apply pw_below_drewN | apply below_drew1 | refine below_set ?_ GE266.out) | exact HB.out)))); have n2_ := Aside0.mk (blk_below (g := gb266) (o := .cells #[.int .i64 a0_0, .bool a0_1, .slice A0_2 l0_2.length c0_2, .string a0_3, .int .i64 a0_4, .int .i64 a0_5, .bool a0_6, .bool a0_7, .slice A0_8 l0_8.length c0_8] 29 (0, 0)) (by (with_reducible repeat (first | refine blk_drewN ?_ _ | refine blk_drew ?_ | refine blk_alloc ?_ _)); exact BK266.out) hb); have n3_ := Aside0.mk (below_step (by repeat (first | (with_reducible first | exact HB.out | apply below_alloc | apply pw_below_drewN | apply below_drew1 | refine below_set ?_ GE266.out) | exact HB.out)) hb); clear BK266; clear HB; have HO269 := n0_; have HO272 := n1_; have BK266 := n2_; have HB := n3_; clear n0_ n1_ n2_ n3_; (try clear hb); (try clear hb2); (try clear hk); (try clear hi); (try clear ho0); (try clear ho1); obtain ⟨Ao6, co6, eo6⟩ := Kd.N_slice HO269.out; subst eo6))
  go_ret
  exact ⟨by first | rfl | (simp [errW_none, errW_some] <;> rfl) | (simp [*, errW_none, errW_some] <;> rfl), by repeat (first | (with_reducible first | exact HB.out | apply below_alloc | apply pw_below_drewN | apply below_drew1 | refine below_set ?_ GE266.out) | exact HB.out)⟩

end Go.Proofs.Ytddpojinlapmfaa.PRef
