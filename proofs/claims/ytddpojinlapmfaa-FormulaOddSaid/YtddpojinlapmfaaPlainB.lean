/- formula.Plain: the canonical tree of a formula. (printed by wip/tools/plainb.py) -/
import Derived.Test.YtddpojinlapmfaaPRefRA
import Derived.Test.YtddpojinlapmfaaPlainA
namespace Go.Proofs.Ytddpojinlapmfaa.PRef
set_option linter.unusedVariables false
set_option linter.unusedSimpArgs false
open Go.RowKit Go.Proofs.YtddpojinlapmfaaW.PrintWords Go.Proofs.YtddpojinlapmfaaW.PrintLast Go.Proofs.YtddpojinlapmfaaW.PrintMore
attribute [local go_sem] max2_int min2_int max_two min_two max_three min_three max_four min_four
attribute [local go_sem] taH78 taM78 taN78 taH91 taM91 taN91 taH93 taM93 taN93 taH85 taM85 taN85 taH87 taM87 taN87 taH116 taM116 taN116 taH117 taM117 taN117 taH61 taM61 taN61

/-- The numbers of a formula are short. -/
def SmallF : Fm → Prop
  | .truth _ => True
  | .atom l _ r => SmallT l ∧ SmallT r
  | .not a => SmallF a
  | .and a b => SmallF a ∧ SmallF b
  | .or a b => SmallF a ∧ SmallF b
  | .imp a b => SmallF a ∧ SmallF b
  | .iff a b => SmallF a ∧ SmallF b
  | .quant _ _ a => SmallF a
  | .odd _ => True
theorem IsFm.one {w : World} : ∀ {t : Fm} {v : Value}, IsFm w t v → v.oneCell' = true
  | .truth _, v, h => by cases h; rfl
  | .atom .., v, h => by obtain ⟨_, _, rfl, _⟩ := h; rfl
  | .not _, v, h => by obtain ⟨_, rfl, _⟩ := h; rfl
  | .and .., v, h => by obtain ⟨_, _, rfl, _⟩ := h; rfl
  | .or .., v, h => by obtain ⟨_, _, rfl, _⟩ := h; rfl
  | .imp .., v, h => by obtain ⟨_, _, rfl, _⟩ := h; rfl
  | .iff .., v, h => by obtain ⟨_, _, rfl, _⟩ := h; rfl
  | .quant .., v, h => by obtain ⟨_, rfl, _⟩ := h; rfl
  | .odd _, v, h => by obtain ⟨rfl, rfl | ⟨_, rfl⟩⟩ := h <;> rfl
theorem IsFm.drew {w : World} {t : Fm} {v : Value} (h : IsFm w t v) : IsFm w.drew t v := h.below (below_drew (Below.refl _ _))
theorem IsFm.drewN {w : World} {t : Fm} {v : Value} (h : IsFm w t v) (n : Nat) : IsFm (w.drewN n) t v := h.below (pw_below_drewN (Below.refl _ _) n)
theorem six_is (r : Int) : formula_six.f r = some (sixB r) := by
  unfold formula_six.f sixB
  by_cases h : r ≥ 1
  · rw [if_pos h, decide_eq_true (show 1 ≤ r from h), Bool.true_and]
  · rw [if_neg h, decide_eq_false (show ¬ 1 ≤ r from h), Bool.false_and]

set_option maxRecDepth 100000 in
set_option maxHeartbeats 4000000 in
theorem plainF_any : ∀ (t : Fm) (v : Value) (w : World), SmallF t → IsFm w t v →
    Calls Try.prog 24 #[v] w fun e w' => ∃ v2 v8, e = .returned (treeV (plainF t) v2 v8) ∧ TreeR w' w.heap.size (plainF t) v2 v8 ∧ Below w.heap.size w w' := by
  have hu29 := Try.underlying29
  have hu25 := Try.underlying25
  intro t
  induction t with
  | truth b =>
    rintro v w hs rfl
    go_enter Try.func24, Try.ntmps24
    go_wp2_with fail
    exact tree_ret Try.results24 rfl (blk_alloc (blk_new _ _) _) ⟨_, _, rfl, ⟨nil_R, nil_R⟩, ((Below.refl _ w).alloc (Nat.le_refl _) _).alloc (by rw [World.size_alloc]; omega) _⟩
  | odd u =>
    rintro v w hs ⟨rfl, hu⟩
    rcases hu with rfl | ⟨p, rfl⟩
    · go_enter Try.func24, Try.ntmps24
      go_wp2_with fail
      exact tree_ret Try.results24 rfl (blk_new _ _) ⟨_, _, rfl, ⟨nil_R, nil_R⟩, (Below.refl _ w).alloc (Nat.le_refl _) _⟩
    · go_enter Try.func24, Try.ntmps24
      go_wp2_with fail
      exact tree_ret Try.results24 rfl (blk_new _ _) ⟨_, _, rfl, ⟨nil_R, nil_R⟩, (Below.refl _ w).alloc (Nat.le_refl _) _⟩
  | not a iha =>
    rintro v w hs ⟨va, rfl, ha⟩
    have hs' : SmallF a := hs
    have hst := one_store ha.one
    go_enter Try.func24, Try.ntmps24
    go_wp2_with (go_at_call 24; refine (iha va _ hs' (by repeat (first | exact ha | refine IsFm.below ((Below.refl _ _).alloc (Nat.le_refl _) _) ?_))).mono ?_; rintro e w1 ⟨v2, v8, rfl, hT1, hB1⟩; obtain ⟨A2, c2, A8, c8, rfl, rfl, -⟩ := hT1.forms; have hb := blk_below (blk_alloc (blk_new w (.cells #[.int .i64 0, .bool false, .slice none 0 0, .string ⟨#[]⟩, .int .i64 0, .int .i64 0, .bool false, .bool false, .slice none 0 0] 29)) (.cells #[va] 93)) hB1; have hb' := blk_alloc hb (.cells (treeL (plainF a) (.slice A2 (plainF a).f1.f1.length c2) (.slice A8 (plainF a).f7.length c8)).toArray 29); obtain ⟨p0, p1, p2, p3, p4, p5, p6, p7, p8, pf⟩ := nine_cells hb')
    have hz := hB1.size
    simp only [World.size_alloc] at hz
    have hB2 : Below w.heap.size w w1 := (((Below.refl _ w).alloc (Nat.le_refl _) _).alloc (by rw [World.size_alloc]; omega) _).trans (hB1.mono (by simp only [World.size_alloc]; omega))
    have hT2 : TreeR w1 (w.heap.size + 1) (plainF a) (.slice A2 (plainF a).f1.f1.length c2) (.slice A8 (plainF a).f7.length c8) := hT1.lower (by simp only [World.size_alloc]; omega)
    have hT3 : TreeR _ (w.heap.size + 1) (plainF (.not a)) (.slice none 0 0) (.slice (some ⟨w1.heap.size, 0, none⟩) 1 1) := ⟨nil_R, kids1 hT2 (by omega)⟩
    exact tree_ret Try.results24 rfl (nine_put hb' _ _ _ _ _ _ _ _ _) ⟨_, _, rfl, (hT3.put (Nat.lt_succ_self _) ..).lower (Nat.le_succ _), below_put9 (hB2.alloc (by omega) _) (Nat.le_refl _) _ _ _ _ _ _ _ _ _⟩
  | and a b iha ihb =>
    rintro v w hs ⟨va, vb, rfl, ha, hb⟩
    have hsa : SmallF a := hs.1
    have hsb : SmallF b := hs.2
    have hst := one_store ha.one
    have hst2 := one_store hb.one
    go_enter Try.func24, Try.ntmps24
    go_upto_region 16 with (fail)
    obtain ⟨W0, hW0⟩ : ∃ W0, ((w.alloc (.cells #[.int .i64 0, .bool false, .slice none 0 0, .string ⟨#[]⟩, .int .i64 0, .int .i64 0, .bool false, .bool false, .slice none 0 0] 29)).alloc (.cells #[va, vb] 85)) = W0 := ⟨_, rfl⟩
    have hz : W0.heap.size = w.heap.size + 2 := by rw [← hW0]; simp
    have hB0 : Below w.heap.size w W0 := by rw [← hW0]; exact ((Below.refl _ w).alloc (Nat.le_refl _) _).alloc (by rw [World.size_alloc]; omega) _
    have hr0 : W0.heap[w.heap.size]? = some (.cells #[.int .i64 0, .bool false, .slice none 0 0, .string ⟨#[]⟩, .int .i64 0, .int .i64 0, .bool false, .bool false, .slice none 0 0] 29 (0, 0)) := by rw [← hW0]; exact blk_alloc (blk_new _ _) _
    have hc0 : W0.heap[w.heap.size + 1]? = some (.cells #[va, vb] 85 (0, 0)) := by
      rw [← hW0]
      have := blk_new (w.alloc (.cells #[.int .i64 0, .bool false, .slice none 0 0, .string ⟨#[]⟩, .int .i64 0, .int .i64 0, .bool false, .bool false, .slice none 0 0] 29)) (.cells #[va, vb] 85)
      rw [World.size_alloc] at this; exact this
    have s0 : W0.cell? ⟨w.heap.size + 1, 0, none⟩ = some (va) := (blk_cell hc0 0).trans rfl
    have s0d : W0.drew.cell? ⟨w.heap.size + 1, 0, none⟩ = some (va) := s0
    have s1 : W0.cell? ⟨w.heap.size + 1, 1, none⟩ = some (vb) := (blk_cell hc0 1).trans rfl
    have s1d : W0.drew.cell? ⟨w.heap.size + 1, 1, none⟩ = some (vb) := s1
    have ha0 := ha.below hB0
    have ha1 := hb.below hB0
    rw [hW0]
    clear hW0
    go_region_held3 (fun w' => w'.cell? ⟨w.heap.size + 1, 0, none⟩ = some (va) ∧ w'.cell? ⟨w.heap.size + 1, 1, none⟩ = some (vb)) (first | exact ⟨by with_reducible assumption, by with_reducible assumption⟩ | (refine ⟨?_, ?_⟩ <;> (repeat (with_reducible refine far_cell (by simp) ?_)) <;> with_reducible assumption))
      (first
        | (go_at_call_of 24 va; refine (iha va _ hsa ?_).mono ?_; (first | exact ha0 | exact ha0.drew | exact ha0.drewN _); rintro e w1 ⟨x2, x8, rfl, hT1, hB1⟩; obtain ⟨A2, c2, A8, c8, rfl, rfl, -⟩ := hT1.forms
           have hb1 : IsFm w1 b vb := by first | exact ha1.below hB1 | exact ha1.drew.below hB1 | exact (ha1.drewN _).below hB1
           have t00 := pw_cell_below hB1 s0
           have t01 := pw_cell_below hB1 s1
           have hr1 := blk_on hB1 hr0)
        | (go_at_call_of 24 vb; refine (ihb vb _ hsb ?_).mono ?_; (first | exact hb1 | exact hb1.drew | exact hb1.drewN _); rintro e w2 ⟨x2, x8, rfl, hT2, hB2⟩; obtain ⟨D2, d2, D8, d8, rfl, rfl, -⟩ := hT2.forms
           have t10 := pw_cell_below hB2 t00
           have t11 := pw_cell_below hB2 t01
           have hr2 := blk_on hB2 hr1
           have hr3 := blk_alloc hr2 (.cells #[.int .i64 (plainF a).f0, .bool (plainF a).f1.f0, .slice A2 (plainF a).f1.f1.length c2, .string (plainF a).f2, .int .i64 (plainF a).f3, .int .i64 (plainF a).f4, .bool (plainF a).f5, .bool (plainF a).f6, .slice A8 (plainF a).f7.length c8, .int .i64 (plainF b).f0, .bool (plainF b).f1.f0, .slice D2 (plainF b).f1.f1.length d2, .string (plainF b).f2, .int .i64 (plainF b).f3, .int .i64 (plainF b).f4, .bool (plainF b).f5, .bool (plainF b).f6, .slice D8 (plainF b).f7.length d8] 29)
           have t90 := pw_cell_below ((Below.refl _ w2).alloc (Nat.le_refl _) (.cells #[.int .i64 (plainF a).f0, .bool (plainF a).f1.f0, .slice A2 (plainF a).f1.f1.length c2, .string (plainF a).f2, .int .i64 (plainF a).f3, .int .i64 (plainF a).f4, .bool (plainF a).f5, .bool (plainF a).f6, .slice A8 (plainF a).f7.length c8, .int .i64 (plainF b).f0, .bool (plainF b).f1.f0, .slice D2 (plainF b).f1.f1.length d2, .string (plainF b).f2, .int .i64 (plainF b).f3, .int .i64 (plainF b).f4, .bool (plainF b).f5, .bool (plainF b).f6, .slice D8 (plainF b).f7.length d8] 29)) t10
           have t91 := pw_cell_below ((Below.refl _ w2).alloc (Nat.le_refl _) (.cells #[.int .i64 (plainF a).f0, .bool (plainF a).f1.f0, .slice A2 (plainF a).f1.f1.length c2, .string (plainF a).f2, .int .i64 (plainF a).f3, .int .i64 (plainF a).f4, .bool (plainF a).f5, .bool (plainF a).f6, .slice A8 (plainF a).f7.length c8, .int .i64 (plainF b).f0, .bool (plainF b).f1.f0, .slice D2 (plainF b).f1.f1.length d2, .string (plainF b).f2, .int .i64 (plainF b).f3, .int .i64 (plainF b).f4, .bool (plainF b).f5, .bool (plainF b).f6, .slice D8 (plainF b).f7.length d8] 29)) t11
           obtain ⟨p0, p1, p2, p3, p4, p5, p6, p7, p8, pf⟩ := nine_cells hr3))
    go_wp2_with fail
    have hz1 := hB1.size
    have hzd : W0.drew.heap.size = W0.heap.size := rfl
    rw [hzd] at hz1
    have hz2 := hB2.size
    have hBB : Below w.heap.size w w2 := (hB0.drew.trans (hB1.mono (by rw [hzd]; omega))).trans (hB2.mono (by omega))
    have hU0 : TreeR w2 (w.heap.size + 1) (plainF a) (.slice A2 (plainF a).f1.f1.length c2) (.slice A8 (plainF a).f7.length c8) := (hT1.below hB2).lower (by rw [hzd]; omega)
    have hU1 : TreeR w2 (w.heap.size + 1) (plainF b) (.slice D2 (plainF b).f1.f1.length d2) (.slice D8 (plainF b).f7.length d8) := hT2.lower (by omega)
    have hT9 : TreeR _ (w.heap.size + 1) (plainF (.and a b)) (.slice none 0 0) (.slice (some ⟨w2.heap.size, 0, none⟩) 2 2) := ⟨nil_R, kids2 hU0 hU1 (by omega)⟩
    exact tree_ret Try.results24 rfl (nine_put hr3 _ _ _ _ _ _ _ _ _) ⟨_, _, rfl, (hT9.put (Nat.lt_succ_self _) ..).lower (Nat.le_succ _), below_put9 (hBB.alloc (by omega) _) (Nat.le_refl _) _ _ _ _ _ _ _ _ _⟩
  | or a b iha ihb =>
    rintro v w hs ⟨va, vb, rfl, ha, hb⟩
    have hsa : SmallF a := hs.1
    have hsb : SmallF b := hs.2
    have hst := one_store ha.one
    have hst2 := one_store hb.one
    go_enter Try.func24, Try.ntmps24
    go_upto_region 19 with (fail)
    obtain ⟨W0, hW0⟩ : ∃ W0, ((w.alloc (.cells #[.int .i64 0, .bool false, .slice none 0 0, .string ⟨#[]⟩, .int .i64 0, .int .i64 0, .bool false, .bool false, .slice none 0 0] 29)).alloc (.cells #[va, vb] 87)) = W0 := ⟨_, rfl⟩
    have hz : W0.heap.size = w.heap.size + 2 := by rw [← hW0]; simp
    have hB0 : Below w.heap.size w W0 := by rw [← hW0]; exact ((Below.refl _ w).alloc (Nat.le_refl _) _).alloc (by rw [World.size_alloc]; omega) _
    have hr0 : W0.heap[w.heap.size]? = some (.cells #[.int .i64 0, .bool false, .slice none 0 0, .string ⟨#[]⟩, .int .i64 0, .int .i64 0, .bool false, .bool false, .slice none 0 0] 29 (0, 0)) := by rw [← hW0]; exact blk_alloc (blk_new _ _) _
    have hc0 : W0.heap[w.heap.size + 1]? = some (.cells #[va, vb] 87 (0, 0)) := by
      rw [← hW0]
      have := blk_new (w.alloc (.cells #[.int .i64 0, .bool false, .slice none 0 0, .string ⟨#[]⟩, .int .i64 0, .int .i64 0, .bool false, .bool false, .slice none 0 0] 29)) (.cells #[va, vb] 87)
      rw [World.size_alloc] at this; exact this
    have s0 : W0.cell? ⟨w.heap.size + 1, 0, none⟩ = some (va) := (blk_cell hc0 0).trans rfl
    have s0d : W0.drew.cell? ⟨w.heap.size + 1, 0, none⟩ = some (va) := s0
    have s1 : W0.cell? ⟨w.heap.size + 1, 1, none⟩ = some (vb) := (blk_cell hc0 1).trans rfl
    have s1d : W0.drew.cell? ⟨w.heap.size + 1, 1, none⟩ = some (vb) := s1
    have ha0 := ha.below hB0
    have ha1 := hb.below hB0
    rw [hW0]
    clear hW0
    go_region_held3 (fun w' => w'.cell? ⟨w.heap.size + 1, 0, none⟩ = some (va) ∧ w'.cell? ⟨w.heap.size + 1, 1, none⟩ = some (vb)) (first | exact ⟨by with_reducible assumption, by with_reducible assumption⟩ | (refine ⟨?_, ?_⟩ <;> (repeat (with_reducible refine far_cell (by simp) ?_)) <;> with_reducible assumption))
      (first
        | (go_at_call_of 24 va; refine (iha va _ hsa ?_).mono ?_; (first | exact ha0 | exact ha0.drew | exact ha0.drewN _); rintro e w1 ⟨x2, x8, rfl, hT1, hB1⟩; obtain ⟨A2, c2, A8, c8, rfl, rfl, -⟩ := hT1.forms
           have hb1 : IsFm w1 b vb := by first | exact ha1.below hB1 | exact ha1.drew.below hB1 | exact (ha1.drewN _).below hB1
           have t00 := pw_cell_below hB1 s0
           have t01 := pw_cell_below hB1 s1
           have hr1 := blk_on hB1 hr0)
        | (go_at_call_of 24 vb; refine (ihb vb _ hsb ?_).mono ?_; (first | exact hb1 | exact hb1.drew | exact hb1.drewN _); rintro e w2 ⟨x2, x8, rfl, hT2, hB2⟩; obtain ⟨D2, d2, D8, d8, rfl, rfl, -⟩ := hT2.forms
           have t10 := pw_cell_below hB2 t00
           have t11 := pw_cell_below hB2 t01
           have hr2 := blk_on hB2 hr1
           have hr3 := blk_alloc hr2 (.cells #[.int .i64 (plainF a).f0, .bool (plainF a).f1.f0, .slice A2 (plainF a).f1.f1.length c2, .string (plainF a).f2, .int .i64 (plainF a).f3, .int .i64 (plainF a).f4, .bool (plainF a).f5, .bool (plainF a).f6, .slice A8 (plainF a).f7.length c8, .int .i64 (plainF b).f0, .bool (plainF b).f1.f0, .slice D2 (plainF b).f1.f1.length d2, .string (plainF b).f2, .int .i64 (plainF b).f3, .int .i64 (plainF b).f4, .bool (plainF b).f5, .bool (plainF b).f6, .slice D8 (plainF b).f7.length d8] 29)
           have t90 := pw_cell_below ((Below.refl _ w2).alloc (Nat.le_refl _) (.cells #[.int .i64 (plainF a).f0, .bool (plainF a).f1.f0, .slice A2 (plainF a).f1.f1.length c2, .string (plainF a).f2, .int .i64 (plainF a).f3, .int .i64 (plainF a).f4, .bool (plainF a).f5, .bool (plainF a).f6, .slice A8 (plainF a).f7.length c8, .int .i64 (plainF b).f0, .bool (plainF b).f1.f0, .slice D2 (plainF b).f1.f1.length d2, .string (plainF b).f2, .int .i64 (plainF b).f3, .int .i64 (plainF b).f4, .bool (plainF b).f5, .bool (plainF b).f6, .slice D8 (plainF b).f7.length d8] 29)) t10
           have t91 := pw_cell_below ((Below.refl _ w2).alloc (Nat.le_refl _) (.cells #[.int .i64 (plainF a).f0, .bool (plainF a).f1.f0, .slice A2 (plainF a).f1.f1.length c2, .string (plainF a).f2, .int .i64 (plainF a).f3, .int .i64 (plainF a).f4, .bool (plainF a).f5, .bool (plainF a).f6, .slice A8 (plainF a).f7.length c8, .int .i64 (plainF b).f0, .bool (plainF b).f1.f0, .slice D2 (plainF b).f1.f1.length d2, .string (plainF b).f2, .int .i64 (plainF b).f3, .int .i64 (plainF b).f4, .bool (plainF b).f5, .bool (plainF b).f6, .slice D8 (plainF b).f7.length d8] 29)) t11
           obtain ⟨p0, p1, p2, p3, p4, p5, p6, p7, p8, pf⟩ := nine_cells hr3))
    go_wp2_with fail
    have hz1 := hB1.size
    have hzd : W0.drew.heap.size = W0.heap.size := rfl
    rw [hzd] at hz1
    have hz2 := hB2.size
    have hBB : Below w.heap.size w w2 := (hB0.drew.trans (hB1.mono (by rw [hzd]; omega))).trans (hB2.mono (by omega))
    have hU0 : TreeR w2 (w.heap.size + 1) (plainF a) (.slice A2 (plainF a).f1.f1.length c2) (.slice A8 (plainF a).f7.length c8) := (hT1.below hB2).lower (by rw [hzd]; omega)
    have hU1 : TreeR w2 (w.heap.size + 1) (plainF b) (.slice D2 (plainF b).f1.f1.length d2) (.slice D8 (plainF b).f7.length d8) := hT2.lower (by omega)
    have hT9 : TreeR _ (w.heap.size + 1) (plainF (.or a b)) (.slice none 0 0) (.slice (some ⟨w2.heap.size, 0, none⟩) 2 2) := ⟨nil_R, kids2 hU0 hU1 (by omega)⟩
    exact tree_ret Try.results24 rfl (nine_put hr3 _ _ _ _ _ _ _ _ _) ⟨_, _, rfl, (hT9.put (Nat.lt_succ_self _) ..).lower (Nat.le_succ _), below_put9 (hBB.alloc (by omega) _) (Nat.le_refl _) _ _ _ _ _ _ _ _ _⟩
  | imp a b iha ihb =>
    rintro v w hs ⟨va, vb, rfl, ha, hb⟩
    have hsa : SmallF a := hs.1
    have hsb : SmallF b := hs.2
    have hst := one_store ha.one
    have hst2 := one_store hb.one
    go_enter Try.func24, Try.ntmps24
    go_upto_region 22 with (fail)
    obtain ⟨W0, hW0⟩ : ∃ W0, ((w.alloc (.cells #[.int .i64 0, .bool false, .slice none 0 0, .string ⟨#[]⟩, .int .i64 0, .int .i64 0, .bool false, .bool false, .slice none 0 0] 29)).alloc (.cells #[va, vb] 116)) = W0 := ⟨_, rfl⟩
    have hz : W0.heap.size = w.heap.size + 2 := by rw [← hW0]; simp
    have hB0 : Below w.heap.size w W0 := by rw [← hW0]; exact ((Below.refl _ w).alloc (Nat.le_refl _) _).alloc (by rw [World.size_alloc]; omega) _
    have hr0 : W0.heap[w.heap.size]? = some (.cells #[.int .i64 0, .bool false, .slice none 0 0, .string ⟨#[]⟩, .int .i64 0, .int .i64 0, .bool false, .bool false, .slice none 0 0] 29 (0, 0)) := by rw [← hW0]; exact blk_alloc (blk_new _ _) _
    have hc0 : W0.heap[w.heap.size + 1]? = some (.cells #[va, vb] 116 (0, 0)) := by
      rw [← hW0]
      have := blk_new (w.alloc (.cells #[.int .i64 0, .bool false, .slice none 0 0, .string ⟨#[]⟩, .int .i64 0, .int .i64 0, .bool false, .bool false, .slice none 0 0] 29)) (.cells #[va, vb] 116)
      rw [World.size_alloc] at this; exact this
    have s0 : W0.cell? ⟨w.heap.size + 1, 0, none⟩ = some (va) := (blk_cell hc0 0).trans rfl
    have s0d : W0.drew.cell? ⟨w.heap.size + 1, 0, none⟩ = some (va) := s0
    have s1 : W0.cell? ⟨w.heap.size + 1, 1, none⟩ = some (vb) := (blk_cell hc0 1).trans rfl
    have s1d : W0.drew.cell? ⟨w.heap.size + 1, 1, none⟩ = some (vb) := s1
    have ha0 := ha.below hB0
    have ha1 := hb.below hB0
    rw [hW0]
    clear hW0
    go_region_held3 (fun w' => w'.cell? ⟨w.heap.size + 1, 0, none⟩ = some (va) ∧ w'.cell? ⟨w.heap.size + 1, 1, none⟩ = some (vb)) (first | exact ⟨by with_reducible assumption, by with_reducible assumption⟩ | (refine ⟨?_, ?_⟩ <;> (repeat (with_reducible refine far_cell (by simp) ?_)) <;> with_reducible assumption))
      (first
        | (go_at_call_of 24 va; refine (iha va _ hsa ?_).mono ?_; (first | exact ha0 | exact ha0.drew | exact ha0.drewN _); rintro e w1 ⟨x2, x8, rfl, hT1, hB1⟩; obtain ⟨A2, c2, A8, c8, rfl, rfl, -⟩ := hT1.forms
           have hb1 : IsFm w1 b vb := by first | exact ha1.below hB1 | exact ha1.drew.below hB1 | exact (ha1.drewN _).below hB1
           have t00 := pw_cell_below hB1 s0
           have t01 := pw_cell_below hB1 s1
           have hr1 := blk_on hB1 hr0)
        | (go_at_call_of 24 vb; refine (ihb vb _ hsb ?_).mono ?_; (first | exact hb1 | exact hb1.drew | exact hb1.drewN _); rintro e w2 ⟨x2, x8, rfl, hT2, hB2⟩; obtain ⟨D2, d2, D8, d8, rfl, rfl, -⟩ := hT2.forms
           have t10 := pw_cell_below hB2 t00
           have t11 := pw_cell_below hB2 t01
           have hr2 := blk_on hB2 hr1
           have hr3 := blk_alloc hr2 (.cells #[.int .i64 (plainF a).f0, .bool (plainF a).f1.f0, .slice A2 (plainF a).f1.f1.length c2, .string (plainF a).f2, .int .i64 (plainF a).f3, .int .i64 (plainF a).f4, .bool (plainF a).f5, .bool (plainF a).f6, .slice A8 (plainF a).f7.length c8, .int .i64 (plainF b).f0, .bool (plainF b).f1.f0, .slice D2 (plainF b).f1.f1.length d2, .string (plainF b).f2, .int .i64 (plainF b).f3, .int .i64 (plainF b).f4, .bool (plainF b).f5, .bool (plainF b).f6, .slice D8 (plainF b).f7.length d8] 29)
           have t90 := pw_cell_below ((Below.refl _ w2).alloc (Nat.le_refl _) (.cells #[.int .i64 (plainF a).f0, .bool (plainF a).f1.f0, .slice A2 (plainF a).f1.f1.length c2, .string (plainF a).f2, .int .i64 (plainF a).f3, .int .i64 (plainF a).f4, .bool (plainF a).f5, .bool (plainF a).f6, .slice A8 (plainF a).f7.length c8, .int .i64 (plainF b).f0, .bool (plainF b).f1.f0, .slice D2 (plainF b).f1.f1.length d2, .string (plainF b).f2, .int .i64 (plainF b).f3, .int .i64 (plainF b).f4, .bool (plainF b).f5, .bool (plainF b).f6, .slice D8 (plainF b).f7.length d8] 29)) t10
           have t91 := pw_cell_below ((Below.refl _ w2).alloc (Nat.le_refl _) (.cells #[.int .i64 (plainF a).f0, .bool (plainF a).f1.f0, .slice A2 (plainF a).f1.f1.length c2, .string (plainF a).f2, .int .i64 (plainF a).f3, .int .i64 (plainF a).f4, .bool (plainF a).f5, .bool (plainF a).f6, .slice A8 (plainF a).f7.length c8, .int .i64 (plainF b).f0, .bool (plainF b).f1.f0, .slice D2 (plainF b).f1.f1.length d2, .string (plainF b).f2, .int .i64 (plainF b).f3, .int .i64 (plainF b).f4, .bool (plainF b).f5, .bool (plainF b).f6, .slice D8 (plainF b).f7.length d8] 29)) t11
           obtain ⟨p0, p1, p2, p3, p4, p5, p6, p7, p8, pf⟩ := nine_cells hr3))
    go_wp2_with fail
    have hz1 := hB1.size
    have hzd : W0.drew.heap.size = W0.heap.size := rfl
    rw [hzd] at hz1
    have hz2 := hB2.size
    have hBB : Below w.heap.size w w2 := (hB0.drew.trans (hB1.mono (by rw [hzd]; omega))).trans (hB2.mono (by omega))
    have hU0 : TreeR w2 (w.heap.size + 1) (plainF a) (.slice A2 (plainF a).f1.f1.length c2) (.slice A8 (plainF a).f7.length c8) := (hT1.below hB2).lower (by rw [hzd]; omega)
    have hU1 : TreeR w2 (w.heap.size + 1) (plainF b) (.slice D2 (plainF b).f1.f1.length d2) (.slice D8 (plainF b).f7.length d8) := hT2.lower (by omega)
    have hT9 : TreeR _ (w.heap.size + 1) (plainF (.imp a b)) (.slice none 0 0) (.slice (some ⟨w2.heap.size, 0, none⟩) 2 2) := ⟨nil_R, kids2 hU0 hU1 (by omega)⟩
    exact tree_ret Try.results24 rfl (nine_put hr3 _ _ _ _ _ _ _ _ _) ⟨_, _, rfl, (hT9.put (Nat.lt_succ_self _) ..).lower (Nat.le_succ _), below_put9 (hBB.alloc (by omega) _) (Nat.le_refl _) _ _ _ _ _ _ _ _ _⟩
  | iff a b iha ihb =>
    rintro v w hs ⟨va, vb, rfl, ha, hb⟩
    have hsa : SmallF a := hs.1
    have hsb : SmallF b := hs.2
    have hst := one_store ha.one
    have hst2 := one_store hb.one
    go_enter Try.func24, Try.ntmps24
    go_upto_region 25 with (fail)
    obtain ⟨W0, hW0⟩ : ∃ W0, ((w.alloc (.cells #[.int .i64 0, .bool false, .slice none 0 0, .string ⟨#[]⟩, .int .i64 0, .int .i64 0, .bool false, .bool false, .slice none 0 0] 29)).alloc (.cells #[va, vb] 117)) = W0 := ⟨_, rfl⟩
    have hz : W0.heap.size = w.heap.size + 2 := by rw [← hW0]; simp
    have hB0 : Below w.heap.size w W0 := by rw [← hW0]; exact ((Below.refl _ w).alloc (Nat.le_refl _) _).alloc (by rw [World.size_alloc]; omega) _
    have hr0 : W0.heap[w.heap.size]? = some (.cells #[.int .i64 0, .bool false, .slice none 0 0, .string ⟨#[]⟩, .int .i64 0, .int .i64 0, .bool false, .bool false, .slice none 0 0] 29 (0, 0)) := by rw [← hW0]; exact blk_alloc (blk_new _ _) _
    have hc0 : W0.heap[w.heap.size + 1]? = some (.cells #[va, vb] 117 (0, 0)) := by
      rw [← hW0]
      have := blk_new (w.alloc (.cells #[.int .i64 0, .bool false, .slice none 0 0, .string ⟨#[]⟩, .int .i64 0, .int .i64 0, .bool false, .bool false, .slice none 0 0] 29)) (.cells #[va, vb] 117)
      rw [World.size_alloc] at this; exact this
    have s0 : W0.cell? ⟨w.heap.size + 1, 0, none⟩ = some (va) := (blk_cell hc0 0).trans rfl
    have s0d : W0.drew.cell? ⟨w.heap.size + 1, 0, none⟩ = some (va) := s0
    have s1 : W0.cell? ⟨w.heap.size + 1, 1, none⟩ = some (vb) := (blk_cell hc0 1).trans rfl
    have s1d : W0.drew.cell? ⟨w.heap.size + 1, 1, none⟩ = some (vb) := s1
    have ha0 := ha.below hB0
    have ha1 := hb.below hB0
    rw [hW0]
    clear hW0
    go_region_held3 (fun w' => w'.cell? ⟨w.heap.size + 1, 0, none⟩ = some (va) ∧ w'.cell? ⟨w.heap.size + 1, 1, none⟩ = some (vb)) (first | exact ⟨by with_reducible assumption, by with_reducible assumption⟩ | (refine ⟨?_, ?_⟩ <;> (repeat (with_reducible refine far_cell (by simp) ?_)) <;> with_reducible assumption))
      (first
        | (go_at_call_of 24 va; refine (iha va _ hsa ?_).mono ?_; (first | exact ha0 | exact ha0.drew | exact ha0.drewN _); rintro e w1 ⟨x2, x8, rfl, hT1, hB1⟩; obtain ⟨A2, c2, A8, c8, rfl, rfl, -⟩ := hT1.forms
           have hb1 : IsFm w1 b vb := by first | exact ha1.below hB1 | exact ha1.drew.below hB1 | exact (ha1.drewN _).below hB1
           have t00 := pw_cell_below hB1 s0
           have t01 := pw_cell_below hB1 s1
           have hr1 := blk_on hB1 hr0)
        | (go_at_call_of 24 vb; refine (ihb vb _ hsb ?_).mono ?_; (first | exact hb1 | exact hb1.drew | exact hb1.drewN _); rintro e w2 ⟨x2, x8, rfl, hT2, hB2⟩; obtain ⟨D2, d2, D8, d8, rfl, rfl, -⟩ := hT2.forms
           have t10 := pw_cell_below hB2 t00
           have t11 := pw_cell_below hB2 t01
           have hr2 := blk_on hB2 hr1
           have hr3 := blk_alloc hr2 (.cells #[.int .i64 (plainF a).f0, .bool (plainF a).f1.f0, .slice A2 (plainF a).f1.f1.length c2, .string (plainF a).f2, .int .i64 (plainF a).f3, .int .i64 (plainF a).f4, .bool (plainF a).f5, .bool (plainF a).f6, .slice A8 (plainF a).f7.length c8, .int .i64 (plainF b).f0, .bool (plainF b).f1.f0, .slice D2 (plainF b).f1.f1.length d2, .string (plainF b).f2, .int .i64 (plainF b).f3, .int .i64 (plainF b).f4, .bool (plainF b).f5, .bool (plainF b).f6, .slice D8 (plainF b).f7.length d8] 29)
           have t90 := pw_cell_below ((Below.refl _ w2).alloc (Nat.le_refl _) (.cells #[.int .i64 (plainF a).f0, .bool (plainF a).f1.f0, .slice A2 (plainF a).f1.f1.length c2, .string (plainF a).f2, .int .i64 (plainF a).f3, .int .i64 (plainF a).f4, .bool (plainF a).f5, .bool (plainF a).f6, .slice A8 (plainF a).f7.length c8, .int .i64 (plainF b).f0, .bool (plainF b).f1.f0, .slice D2 (plainF b).f1.f1.length d2, .string (plainF b).f2, .int .i64 (plainF b).f3, .int .i64 (plainF b).f4, .bool (plainF b).f5, .bool (plainF b).f6, .slice D8 (plainF b).f7.length d8] 29)) t10
           have t91 := pw_cell_below ((Below.refl _ w2).alloc (Nat.le_refl _) (.cells #[.int .i64 (plainF a).f0, .bool (plainF a).f1.f0, .slice A2 (plainF a).f1.f1.length c2, .string (plainF a).f2, .int .i64 (plainF a).f3, .int .i64 (plainF a).f4, .bool (plainF a).f5, .bool (plainF a).f6, .slice A8 (plainF a).f7.length c8, .int .i64 (plainF b).f0, .bool (plainF b).f1.f0, .slice D2 (plainF b).f1.f1.length d2, .string (plainF b).f2, .int .i64 (plainF b).f3, .int .i64 (plainF b).f4, .bool (plainF b).f5, .bool (plainF b).f6, .slice D8 (plainF b).f7.length d8] 29)) t11
           obtain ⟨p0, p1, p2, p3, p4, p5, p6, p7, p8, pf⟩ := nine_cells hr3))
    go_wp2_with fail
    have hz1 := hB1.size
    have hzd : W0.drew.heap.size = W0.heap.size := rfl
    rw [hzd] at hz1
    have hz2 := hB2.size
    have hBB : Below w.heap.size w w2 := (hB0.drew.trans (hB1.mono (by rw [hzd]; omega))).trans (hB2.mono (by omega))
    have hU0 : TreeR w2 (w.heap.size + 1) (plainF a) (.slice A2 (plainF a).f1.f1.length c2) (.slice A8 (plainF a).f7.length c8) := (hT1.below hB2).lower (by rw [hzd]; omega)
    have hU1 : TreeR w2 (w.heap.size + 1) (plainF b) (.slice D2 (plainF b).f1.f1.length d2) (.slice D8 (plainF b).f7.length d8) := hT2.lower (by omega)
    have hT9 : TreeR _ (w.heap.size + 1) (plainF (.iff a b)) (.slice none 0 0) (.slice (some ⟨w2.heap.size, 0, none⟩) 2 2) := ⟨nil_R, kids2 hU0 hU1 (by omega)⟩
    exact tree_ret Try.results24 rfl (nine_put hr3 _ _ _ _ _ _ _ _ _) ⟨_, _, rfl, (hT9.put (Nat.lt_succ_self _) ..).lower (Nat.le_succ _), below_put9 (hBB.alloc (by omega) _) (Nat.le_refl _) _ _ _ _ _ _ _ _ _⟩
  | quant all s a iha =>
    rintro v w hs ⟨va, rfl, ha⟩
    have hsa : SmallF a := hs
    have hst := one_store ha.one
    go_enter Try.func24, Try.ntmps24
    go_upto_region 28 with (fail)
    obtain ⟨W0, hW0⟩ : ∃ W0, ((w.alloc (.cells #[.int .i64 0, .bool false, .slice none 0 0, .string ⟨#[]⟩, .int .i64 0, .int .i64 0, .bool false, .bool false, .slice none 0 0] 29)).alloc (.cells #[.bool all, .string s, va] 61)) = W0 := ⟨_, rfl⟩
    have hz : W0.heap.size = w.heap.size + 2 := by rw [← hW0]; simp
    have hB0 : Below w.heap.size w W0 := by rw [← hW0]; exact ((Below.refl _ w).alloc (Nat.le_refl _) _).alloc (by rw [World.size_alloc]; omega) _
    have hr0 : W0.heap[w.heap.size]? = some (.cells #[.int .i64 0, .bool false, .slice none 0 0, .string ⟨#[]⟩, .int .i64 0, .int .i64 0, .bool false, .bool false, .slice none 0 0] 29 (0, 0)) := by rw [← hW0]; exact blk_alloc (blk_new _ _) _
    have hc0 : W0.heap[w.heap.size + 1]? = some (.cells #[.bool all, .string s, va] 61 (0, 0)) := by
      rw [← hW0]
      have := blk_new (w.alloc (.cells #[.int .i64 0, .bool false, .slice none 0 0, .string ⟨#[]⟩, .int .i64 0, .int .i64 0, .bool false, .bool false, .slice none 0 0] 29)) (.cells #[.bool all, .string s, va] 61)
      rw [World.size_alloc] at this; exact this
    have s0 : W0.cell? ⟨w.heap.size + 1, 0, none⟩ = some (.bool all) := (blk_cell hc0 0).trans rfl
    have s0d : W0.drew.cell? ⟨w.heap.size + 1, 0, none⟩ = some (.bool all) := s0
    have s1 : W0.cell? ⟨w.heap.size + 1, 1, none⟩ = some (.string s) := (blk_cell hc0 1).trans rfl
    have s1d : W0.drew.cell? ⟨w.heap.size + 1, 1, none⟩ = some (.string s) := s1
    have s2 : W0.cell? ⟨w.heap.size + 1, 2, none⟩ = some (va) := (blk_cell hc0 2).trans rfl
    have s2d : W0.drew.cell? ⟨w.heap.size + 1, 2, none⟩ = some (va) := s2
    have ha0 := ha.below hB0
    rw [hW0]
    clear hW0
    go_region_held3 (fun w' => w'.cell? ⟨w.heap.size + 1, 0, none⟩ = some (.bool all) ∧ w'.cell? ⟨w.heap.size + 1, 1, none⟩ = some (.string s) ∧ w'.cell? ⟨w.heap.size + 1, 2, none⟩ = some (va)) (first | exact ⟨by with_reducible assumption, by with_reducible assumption, by with_reducible assumption⟩ | (refine ⟨?_, ?_, ?_⟩ <;> (repeat (with_reducible refine far_cell (by simp) ?_)) <;> with_reducible assumption))
      (first
        | (go_at_call_of 24 va; refine (iha va _ hsa ?_).mono ?_; (first | exact ha0 | exact ha0.drew | exact ha0.drewN _); rintro e w1 ⟨x2, x8, rfl, hT1, hB1⟩; obtain ⟨A2, c2, A8, c8, rfl, rfl, -⟩ := hT1.forms
           have t00 := pw_cell_below hB1 s0
           have t01 := pw_cell_below hB1 s1
           have t02 := pw_cell_below hB1 s2
           have hr1 := blk_on hB1 hr0
           have hr3 := blk_alloc hr1 (.cells #[.int .i64 (plainF a).f0, .bool (plainF a).f1.f0, .slice A2 (plainF a).f1.f1.length c2, .string (plainF a).f2, .int .i64 (plainF a).f3, .int .i64 (plainF a).f4, .bool (plainF a).f5, .bool (plainF a).f6, .slice A8 (plainF a).f7.length c8] 29)
           have t90 := pw_cell_below ((Below.refl _ w1).alloc (Nat.le_refl _) (.cells #[.int .i64 (plainF a).f0, .bool (plainF a).f1.f0, .slice A2 (plainF a).f1.f1.length c2, .string (plainF a).f2, .int .i64 (plainF a).f3, .int .i64 (plainF a).f4, .bool (plainF a).f5, .bool (plainF a).f6, .slice A8 (plainF a).f7.length c8] 29)) t00
           have t91 := pw_cell_below ((Below.refl _ w1).alloc (Nat.le_refl _) (.cells #[.int .i64 (plainF a).f0, .bool (plainF a).f1.f0, .slice A2 (plainF a).f1.f1.length c2, .string (plainF a).f2, .int .i64 (plainF a).f3, .int .i64 (plainF a).f4, .bool (plainF a).f5, .bool (plainF a).f6, .slice A8 (plainF a).f7.length c8] 29)) t01
           have t92 := pw_cell_below ((Below.refl _ w1).alloc (Nat.le_refl _) (.cells #[.int .i64 (plainF a).f0, .bool (plainF a).f1.f0, .slice A2 (plainF a).f1.f1.length c2, .string (plainF a).f2, .int .i64 (plainF a).f3, .int .i64 (plainF a).f4, .bool (plainF a).f5, .bool (plainF a).f6, .slice A8 (plainF a).f7.length c8] 29)) t02
           obtain ⟨p0, p1, p2, p3, p4, p5, p6, p7, p8, pf⟩ := nine_cells hr3))
    go_wp2_with fail
    have hz1 := hB1.size
    have hzd : W0.drew.heap.size = W0.heap.size := rfl
    rw [hzd] at hz1
    have hBB : Below w.heap.size w w1 := hB0.drew.trans (hB1.mono (by rw [hzd]; omega))
    have hU0 : TreeR w1 (w.heap.size + 1) (plainF a) (.slice A2 (plainF a).f1.f1.length c2) (.slice A8 (plainF a).f7.length c8) := hT1.lower (by rw [hzd]; omega)
    have hT9 : TreeR _ (w.heap.size + 1) (plainF (.quant all s a)) (.slice none 0 0) (.slice (some ⟨w1.heap.size, 0, none⟩) 1 1) := ⟨nil_R, kids1 hU0 (by omega)⟩
    exact tree_ret Try.results24 rfl (nine_put hr3 _ _ _ _ _ _ _ _ _) ⟨_, _, rfl, (hT9.put (Nat.lt_succ_self _) ..).lower (Nat.le_succ _), below_put9 (hBB.alloc (by omega) _) (Nat.le_refl _) _ _ _ _ _ _ _ _ _⟩
  | atom l rel r =>
    rintro v w hs ⟨vl, vr, rfl, hl, hr⟩
    have hsl : SmallT l := hs.1
    have hsr : SmallT r := hs.2
    have hst := one_store hl.one
    have hst2 := one_store hr.one
    cases hsb : sixB rel with
    | true =>
      have hsix : formula_six.f rel = some true := by rw [six_is, hsb]
      go_enter Try.func24, Try.ntmps24
      go_upto_region 10 with (go_at_call 62; refine (formula_six.calls rel true _ hsix).mono ?_; rintro e w' ⟨rfl, ⟨nd, rfl⟩⟩)
      obtain ⟨W0, hW0⟩ : ∃ W0, ((w.alloc (.cells #[.int .i64 0, .bool false, .slice none 0 0, .string ⟨#[]⟩, .int .i64 0, .int .i64 0, .bool false, .bool false, .slice none 0 0] 29)).alloc (.cells #[vl, .int .i64 rel, vr] 91)).drewN nd = W0 := ⟨_, rfl⟩
      have hz : W0.heap.size = w.heap.size + 2 := by rw [← hW0]; show ((w.alloc (.cells #[.int .i64 0, .bool false, .slice none 0 0, .string ⟨#[]⟩, .int .i64 0, .int .i64 0, .bool false, .bool false, .slice none 0 0] 29)).alloc (.cells #[vl, .int .i64 rel, vr] 91)).heap.size = _; simp
      have hB0 : Below w.heap.size w W0 := by rw [← hW0]; exact pw_below_drewN (((Below.refl _ w).alloc (Nat.le_refl _) _).alloc (by rw [World.size_alloc]; omega) _) _
      have hr0 : W0.heap[w.heap.size]? = some (.cells #[.int .i64 0, .bool false, .slice none 0 0, .string ⟨#[]⟩, .int .i64 0, .int .i64 0, .bool false, .bool false, .slice none 0 0] 29 (0, 0)) := by rw [← hW0]; exact blk_alloc (blk_new _ _) _
      have hc0 : W0.heap[w.heap.size + 1]? = some (.cells #[vl, .int .i64 rel, vr] 91 (0, 0)) := by
        rw [← hW0]
        have := blk_new (w.alloc (.cells #[.int .i64 0, .bool false, .slice none 0 0, .string ⟨#[]⟩, .int .i64 0, .int .i64 0, .bool false, .bool false, .slice none 0 0] 29)) (.cells #[vl, .int .i64 rel, vr] 91)
        rw [World.size_alloc] at this; exact this
      have s0 : W0.cell? ⟨w.heap.size + 1, 0, none⟩ = some (vl) := (blk_cell hc0 0).trans rfl
      have s0d : W0.drew.cell? ⟨w.heap.size + 1, 0, none⟩ = some (vl) := s0
      have s1 : W0.cell? ⟨w.heap.size + 1, 1, none⟩ = some (.int .i64 rel) := (blk_cell hc0 1).trans rfl
      have s1d : W0.drew.cell? ⟨w.heap.size + 1, 1, none⟩ = some (.int .i64 rel) := s1
      have s2 : W0.cell? ⟨w.heap.size + 1, 2, none⟩ = some (vr) := (blk_cell hc0 2).trans rfl
      have s2d : W0.drew.cell? ⟨w.heap.size + 1, 2, none⟩ = some (vr) := s2
      have ha0 := hl.below hB0
      have ha1 := hr.below hB0
      rw [hW0]
      clear hW0
      go_region_held3 (fun w' => w'.cell? ⟨w.heap.size + 1, 0, none⟩ = some (vl) ∧ w'.cell? ⟨w.heap.size + 1, 1, none⟩ = some (.int .i64 rel) ∧ w'.cell? ⟨w.heap.size + 1, 2, none⟩ = some (vr)) (first | exact ⟨by with_reducible assumption, by with_reducible assumption, by with_reducible assumption⟩ | (refine ⟨?_, ?_, ?_⟩ <;> (repeat (with_reducible refine far_cell (by simp) ?_)) <;> with_reducible assumption))
        (first
          | (go_at_call_of 21 vl; refine (plainT_any l vl _ hsl ?_).mono ?_; (first | exact ha0 | exact ha0.drew | exact ha0.drewN _); rintro e w1 ⟨x2, x8, rfl, hT1, hB1⟩; obtain ⟨A2, c2, A8, c8, rfl, rfl, -⟩ := hT1.forms
             have hb1 : IsTm w1 r vr := by first | exact ha1.below hB1 | exact ha1.drew.below hB1 | exact (ha1.drewN _).below hB1
             have t00 := pw_cell_below hB1 s0
             have t01 := pw_cell_below hB1 s1
             have t02 := pw_cell_below hB1 s2
             have hr1 := blk_on hB1 hr0)
          | (go_at_call_of 21 vr; refine (plainT_any r vr _ hsr ?_).mono ?_; (first | exact hb1 | exact hb1.drew | exact hb1.drewN _); rintro e w2 ⟨x2, x8, rfl, hT2, hB2⟩; obtain ⟨D2, d2, D8, d8, rfl, rfl, -⟩ := hT2.forms
             have t10 := pw_cell_below hB2 t00
             have t11 := pw_cell_below hB2 t01
             have t12 := pw_cell_below hB2 t02
             have hr2 := blk_on hB2 hr1
             have hr3 := blk_alloc hr2 (.cells #[.int .i64 (plainT l).f0, .bool (plainT l).f1.f0, .slice A2 (plainT l).f1.f1.length c2, .string (plainT l).f2, .int .i64 (plainT l).f3, .int .i64 (plainT l).f4, .bool (plainT l).f5, .bool (plainT l).f6, .slice A8 (plainT l).f7.length c8, .int .i64 (plainT r).f0, .bool (plainT r).f1.f0, .slice D2 (plainT r).f1.f1.length d2, .string (plainT r).f2, .int .i64 (plainT r).f3, .int .i64 (plainT r).f4, .bool (plainT r).f5, .bool (plainT r).f6, .slice D8 (plainT r).f7.length d8] 29)
             have t90 := pw_cell_below ((Below.refl _ w2).alloc (Nat.le_refl _) (.cells #[.int .i64 (plainT l).f0, .bool (plainT l).f1.f0, .slice A2 (plainT l).f1.f1.length c2, .string (plainT l).f2, .int .i64 (plainT l).f3, .int .i64 (plainT l).f4, .bool (plainT l).f5, .bool (plainT l).f6, .slice A8 (plainT l).f7.length c8, .int .i64 (plainT r).f0, .bool (plainT r).f1.f0, .slice D2 (plainT r).f1.f1.length d2, .string (plainT r).f2, .int .i64 (plainT r).f3, .int .i64 (plainT r).f4, .bool (plainT r).f5, .bool (plainT r).f6, .slice D8 (plainT r).f7.length d8] 29)) t10
             have t91 := pw_cell_below ((Below.refl _ w2).alloc (Nat.le_refl _) (.cells #[.int .i64 (plainT l).f0, .bool (plainT l).f1.f0, .slice A2 (plainT l).f1.f1.length c2, .string (plainT l).f2, .int .i64 (plainT l).f3, .int .i64 (plainT l).f4, .bool (plainT l).f5, .bool (plainT l).f6, .slice A8 (plainT l).f7.length c8, .int .i64 (plainT r).f0, .bool (plainT r).f1.f0, .slice D2 (plainT r).f1.f1.length d2, .string (plainT r).f2, .int .i64 (plainT r).f3, .int .i64 (plainT r).f4, .bool (plainT r).f5, .bool (plainT r).f6, .slice D8 (plainT r).f7.length d8] 29)) t11
             have t92 := pw_cell_below ((Below.refl _ w2).alloc (Nat.le_refl _) (.cells #[.int .i64 (plainT l).f0, .bool (plainT l).f1.f0, .slice A2 (plainT l).f1.f1.length c2, .string (plainT l).f2, .int .i64 (plainT l).f3, .int .i64 (plainT l).f4, .bool (plainT l).f5, .bool (plainT l).f6, .slice A8 (plainT l).f7.length c8, .int .i64 (plainT r).f0, .bool (plainT r).f1.f0, .slice D2 (plainT r).f1.f1.length d2, .string (plainT r).f2, .int .i64 (plainT r).f3, .int .i64 (plainT r).f4, .bool (plainT r).f5, .bool (plainT r).f6, .slice D8 (plainT r).f7.length d8] 29)) t12
             obtain ⟨p0, p1, p2, p3, p4, p5, p6, p7, p8, pf⟩ := nine_cells hr3))
      go_wp2_with fail
      have hz1 := hB1.size
      have hzd : W0.drew.heap.size = W0.heap.size := rfl
      rw [hzd] at hz1
      have hz2 := hB2.size
      have hBB : Below w.heap.size w w2 := (hB0.drew.trans (hB1.mono (by rw [hzd]; omega))).trans (hB2.mono (by omega))
      have hU0 : TreeR w2 (w.heap.size + 1) (plainT l) (.slice A2 (plainT l).f1.f1.length c2) (.slice A8 (plainT l).f7.length c8) := (hT1.below hB2).lower (by rw [hzd]; omega)
      have hU1 : TreeR w2 (w.heap.size + 1) (plainT r) (.slice D2 (plainT r).f1.f1.length d2) (.slice D8 (plainT r).f7.length d8) := hT2.lower (by omega)
      have hT9 : TreeR _ (w.heap.size + 1) (plainF (.atom l rel r)) (.slice none 0 0) (.slice (some ⟨w2.heap.size, 0, none⟩) 2 2) := ⟨nil_R, kids2 hU0 hU1 (by omega)⟩
      refine tree_ret Try.results24 rfl (nine_put hr3 _ _ _ _ _ _ _ _ _) ⟨_, _, ?_, (hT9.put (Nat.lt_succ_self _) ..).lower (Nat.le_succ _), below_put9 (hBB.alloc (by omega) _) (Nat.le_refl _) _ _ _ _ _ _ _ _ _⟩
      refine congrArg Ending.returned ?_
      show Value.agg #[_, _, _, _, _, .int .i64 _, _, _, _] = Value.agg #[_, _, _, _, _, .int .i64 (if sixB rel then rel else 3), _, _, _]
      rw [hsb]; rfl
    | false =>
      have hsix : formula_six.f rel = some false := by rw [six_is, hsb]
      go_enter Try.func24, Try.ntmps24
      go_upto_region 10 with (go_at_call 62; refine (formula_six.calls rel false _ hsix).mono ?_; rintro e w' ⟨rfl, ⟨nd, rfl⟩⟩)
      obtain ⟨W0, hW0⟩ : ∃ W0, ((w.alloc (.cells #[.int .i64 0, .bool false, .slice none 0 0, .string ⟨#[]⟩, .int .i64 0, .int .i64 0, .bool false, .bool false, .slice none 0 0] 29)).alloc (.cells #[vl, .int .i64 rel, vr] 91)).drewN nd = W0 := ⟨_, rfl⟩
      have hz : W0.heap.size = w.heap.size + 2 := by rw [← hW0]; show ((w.alloc (.cells #[.int .i64 0, .bool false, .slice none 0 0, .string ⟨#[]⟩, .int .i64 0, .int .i64 0, .bool false, .bool false, .slice none 0 0] 29)).alloc (.cells #[vl, .int .i64 rel, vr] 91)).heap.size = _; simp
      have hB0 : Below w.heap.size w W0 := by rw [← hW0]; exact pw_below_drewN (((Below.refl _ w).alloc (Nat.le_refl _) _).alloc (by rw [World.size_alloc]; omega) _) _
      have hr0 : W0.heap[w.heap.size]? = some (.cells #[.int .i64 0, .bool false, .slice none 0 0, .string ⟨#[]⟩, .int .i64 0, .int .i64 0, .bool false, .bool false, .slice none 0 0] 29 (0, 0)) := by rw [← hW0]; exact blk_alloc (blk_new _ _) _
      have hc0 : W0.heap[w.heap.size + 1]? = some (.cells #[vl, .int .i64 rel, vr] 91 (0, 0)) := by
        rw [← hW0]
        have := blk_new (w.alloc (.cells #[.int .i64 0, .bool false, .slice none 0 0, .string ⟨#[]⟩, .int .i64 0, .int .i64 0, .bool false, .bool false, .slice none 0 0] 29)) (.cells #[vl, .int .i64 rel, vr] 91)
        rw [World.size_alloc] at this; exact this
      have s0 : W0.cell? ⟨w.heap.size + 1, 0, none⟩ = some (vl) := (blk_cell hc0 0).trans rfl
      have s0d : W0.drew.cell? ⟨w.heap.size + 1, 0, none⟩ = some (vl) := s0
      have s1 : W0.cell? ⟨w.heap.size + 1, 1, none⟩ = some (.int .i64 rel) := (blk_cell hc0 1).trans rfl
      have s1d : W0.drew.cell? ⟨w.heap.size + 1, 1, none⟩ = some (.int .i64 rel) := s1
      have s2 : W0.cell? ⟨w.heap.size + 1, 2, none⟩ = some (vr) := (blk_cell hc0 2).trans rfl
      have s2d : W0.drew.cell? ⟨w.heap.size + 1, 2, none⟩ = some (vr) := s2
      have ha0 := hl.below hB0
      have ha1 := hr.below hB0
      rw [hW0]
      clear hW0
      go_region_held3 (fun w' => w'.cell? ⟨w.heap.size + 1, 0, none⟩ = some (vl) ∧ w'.cell? ⟨w.heap.size + 1, 1, none⟩ = some (.int .i64 rel) ∧ w'.cell? ⟨w.heap.size + 1, 2, none⟩ = some (vr)) (first | exact ⟨by with_reducible assumption, by with_reducible assumption, by with_reducible assumption⟩ | (refine ⟨?_, ?_, ?_⟩ <;> (repeat (with_reducible refine far_cell (by simp) ?_)) <;> with_reducible assumption))
        (first
          | (go_at_call_of 21 vl; refine (plainT_any l vl _ hsl ?_).mono ?_; (first | exact ha0 | exact ha0.drew | exact ha0.drewN _); rintro e w1 ⟨x2, x8, rfl, hT1, hB1⟩; obtain ⟨A2, c2, A8, c8, rfl, rfl, -⟩ := hT1.forms
             have hb1 : IsTm w1 r vr := by first | exact ha1.below hB1 | exact ha1.drew.below hB1 | exact (ha1.drewN _).below hB1
             have t00 := pw_cell_below hB1 s0
             have t01 := pw_cell_below hB1 s1
             have t02 := pw_cell_below hB1 s2
             have hr1 := blk_on hB1 hr0)
          | (go_at_call_of 21 vr; refine (plainT_any r vr _ hsr ?_).mono ?_; (first | exact hb1 | exact hb1.drew | exact hb1.drewN _); rintro e w2 ⟨x2, x8, rfl, hT2, hB2⟩; obtain ⟨D2, d2, D8, d8, rfl, rfl, -⟩ := hT2.forms
             have t10 := pw_cell_below hB2 t00
             have t11 := pw_cell_below hB2 t01
             have t12 := pw_cell_below hB2 t02
             have hr2 := blk_on hB2 hr1
             have hr3 := blk_alloc hr2 (.cells #[.int .i64 (plainT l).f0, .bool (plainT l).f1.f0, .slice A2 (plainT l).f1.f1.length c2, .string (plainT l).f2, .int .i64 (plainT l).f3, .int .i64 (plainT l).f4, .bool (plainT l).f5, .bool (plainT l).f6, .slice A8 (plainT l).f7.length c8, .int .i64 (plainT r).f0, .bool (plainT r).f1.f0, .slice D2 (plainT r).f1.f1.length d2, .string (plainT r).f2, .int .i64 (plainT r).f3, .int .i64 (plainT r).f4, .bool (plainT r).f5, .bool (plainT r).f6, .slice D8 (plainT r).f7.length d8] 29)
             have t90 := pw_cell_below ((Below.refl _ w2).alloc (Nat.le_refl _) (.cells #[.int .i64 (plainT l).f0, .bool (plainT l).f1.f0, .slice A2 (plainT l).f1.f1.length c2, .string (plainT l).f2, .int .i64 (plainT l).f3, .int .i64 (plainT l).f4, .bool (plainT l).f5, .bool (plainT l).f6, .slice A8 (plainT l).f7.length c8, .int .i64 (plainT r).f0, .bool (plainT r).f1.f0, .slice D2 (plainT r).f1.f1.length d2, .string (plainT r).f2, .int .i64 (plainT r).f3, .int .i64 (plainT r).f4, .bool (plainT r).f5, .bool (plainT r).f6, .slice D8 (plainT r).f7.length d8] 29)) t10
             have t91 := pw_cell_below ((Below.refl _ w2).alloc (Nat.le_refl _) (.cells #[.int .i64 (plainT l).f0, .bool (plainT l).f1.f0, .slice A2 (plainT l).f1.f1.length c2, .string (plainT l).f2, .int .i64 (plainT l).f3, .int .i64 (plainT l).f4, .bool (plainT l).f5, .bool (plainT l).f6, .slice A8 (plainT l).f7.length c8, .int .i64 (plainT r).f0, .bool (plainT r).f1.f0, .slice D2 (plainT r).f1.f1.length d2, .string (plainT r).f2, .int .i64 (plainT r).f3, .int .i64 (plainT r).f4, .bool (plainT r).f5, .bool (plainT r).f6, .slice D8 (plainT r).f7.length d8] 29)) t11
             have t92 := pw_cell_below ((Below.refl _ w2).alloc (Nat.le_refl _) (.cells #[.int .i64 (plainT l).f0, .bool (plainT l).f1.f0, .slice A2 (plainT l).f1.f1.length c2, .string (plainT l).f2, .int .i64 (plainT l).f3, .int .i64 (plainT l).f4, .bool (plainT l).f5, .bool (plainT l).f6, .slice A8 (plainT l).f7.length c8, .int .i64 (plainT r).f0, .bool (plainT r).f1.f0, .slice D2 (plainT r).f1.f1.length d2, .string (plainT r).f2, .int .i64 (plainT r).f3, .int .i64 (plainT r).f4, .bool (plainT r).f5, .bool (plainT r).f6, .slice D8 (plainT r).f7.length d8] 29)) t12
             obtain ⟨p0, p1, p2, p3, p4, p5, p6, p7, p8, pf⟩ := nine_cells hr3))
      go_wp2_with fail
      have hz1 := hB1.size
      have hzd : W0.drew.heap.size = W0.heap.size := rfl
      rw [hzd] at hz1
      have hz2 := hB2.size
      have hBB : Below w.heap.size w w2 := (hB0.drew.trans (hB1.mono (by rw [hzd]; omega))).trans (hB2.mono (by omega))
      have hU0 : TreeR w2 (w.heap.size + 1) (plainT l) (.slice A2 (plainT l).f1.f1.length c2) (.slice A8 (plainT l).f7.length c8) := (hT1.below hB2).lower (by rw [hzd]; omega)
      have hU1 : TreeR w2 (w.heap.size + 1) (plainT r) (.slice D2 (plainT r).f1.f1.length d2) (.slice D8 (plainT r).f7.length d8) := hT2.lower (by omega)
      have hT9 : TreeR _ (w.heap.size + 1) (plainF (.atom l rel r)) (.slice none 0 0) (.slice (some ⟨w2.heap.size, 0, none⟩) 2 2) := ⟨nil_R, kids2 hU0 hU1 (by omega)⟩
      refine tree_ret Try.results24 rfl (nine_put hr3 _ _ _ _ _ _ _ _ _) ⟨_, _, ?_, (hT9.put (Nat.lt_succ_self _) ..).lower (Nat.le_succ _), below_put9 (hBB.alloc (by omega) _) (Nat.le_refl _) _ _ _ _ _ _ _ _ _⟩
      refine congrArg Ending.returned ?_
      show Value.agg #[_, _, _, _, _, .int .i64 _, _, _, _] = Value.agg #[_, _, _, _, _, .int .i64 (if sixB rel then rel else 3), _, _, _]
      rw [hsb]; rfl
end Go.Proofs.Ytddpojinlapmfaa.PRef
