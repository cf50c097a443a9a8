/- FormulaTerms, FormulaTrees: the laws' bodies. -/
import Derived.Test.YtddpojinlapmfaaRefK
import Derived.Test.YtddpojinlapmfaaAwake
namespace Go.Proofs.Ytddpojinlapmfaa.PRef
set_option linter.unusedVariables false
set_option linter.unusedSimpArgs false
open Go.RowKit Go.Proofs.YtddpojinlapmfaaW.PrintWords Go.Proofs.YtddpojinlapmfaaW.PrintLast Go.Proofs.YtddpojinlapmfaaW.PrintMore

theorem belowT {w a b : World} (h : Below w.heap.size w a) (k : Below a.heap.size a b) : Below w.heap.size w b := h.trans (k.mono h.size)
set_option maxRecDepth 100000 in
set_option maxHeartbeats 4000000 in
theorem law3 (x : S29) (A2 A8 : Option Addr) (c2 c8 : Nat) (w : World) (hR : ReadR w x A2 c2 A8 c8) :
    Calls Try.prog 3 #[treeV x (.slice A2 x.f1.f1.length c2) (.slice A8 x.f7.length c8)] w fun e w' => e = .returned (.bool true) ∧ Below w.heap.size w w' := by
  have hu29 := Try.underlying29
  obtain ⟨wS, hwS⟩ : ∃ wS, w.alloc (.cells #[.int .i64 x.f0, .bool x.f1.f0, .slice A2 x.f1.f1.length c2, .string x.f2, .int .i64 x.f3, .int .i64 x.f4, .bool x.f5, .bool x.f6, .slice A8 x.f7.length c8] 29) = wS := ⟨_, rfl⟩
  have hBw : Below w.heap.size w wS := by rw [← hwS]; exact (Below.refl _ w).alloc (Nat.le_refl _) _
  have hbS : wS.heap[w.heap.size]? = some (.cells #[.int .i64 x.f0, .bool x.f1.f0, .slice A2 x.f1.f1.length c2, .string x.f2, .int .i64 x.f3, .int .i64 x.f4, .bool x.f5, .bool x.f6, .slice A8 x.f7.length c8] 29 (0, 0)) := by rw [← hwS]; exact blk_new _ _
  have hRS := hR.below hBw
  cases hf : fewB x 300 with
  | false =>
    go_enter Try.func3, Try.ntmps3
    go_wp2_with (first
      | (go_at_call 17; refine (few_any hRS 300 (by omega) (by omega)).mono ?_; rw [hf]; rintro e w2 ⟨rfl, hB2⟩; replace hBw := belowT hBw hB2; replace hbS := blk_below hbS hB2; replace hRS := hRS.below hB2; obtain ⟨p0, p1, p2, p3, p4, p5, p6, p7, p8, pf⟩ := nine_cells hbS)
      | (go_at_call 16; refine (awake_any _).mono ?_; rintro e w1 ⟨rfl, hB1⟩; replace hBw := belowT hBw hB1; replace hbS := blk_below hbS hB1; replace hRS := hRS.below hB1; obtain ⟨p0, p1, p2, p3, p4, p5, p6, p7, p8, pf⟩ := nine_cells hbS))
    go_ret
    exact ⟨rfl, hBw⟩
  | true =>
    have hs := (few_short hf).small
    have hsz : sizeS x ≤ 1000000 := by have := few_size (by omega) hf; omega
    have HSZ := Lib.hid hsz
    clear hsz
    cases ho : (termOf x).2 with
    | false =>
      go_enter Try.func3, Try.ntmps3
      go_wp2_with (first
        | (go_at_call 17; refine (few_any hRS 300 (by omega) (by omega)).mono ?_; rw [hf]; rintro e w2 ⟨rfl, hB2⟩; replace hBw := belowT hBw hB2; replace hbS := blk_below hbS hB2; replace hRS := hRS.below hB2; obtain ⟨p0, p1, p2, p3, p4, p5, p6, p7, p8, pf⟩ := nine_cells hbS)
        | (go_at_call 16; refine (awake_any _).mono ?_; rintro e w1 ⟨rfl, hB1⟩; replace hBw := belowT hBw hB1; replace hbS := blk_below hbS hB1; replace hRS := hRS.below hB1; obtain ⟨p0, p1, p2, p3, p4, p5, p6, p7, p8, pf⟩ := nine_cells hbS)
        | (go_at_call 18; refine (ofTerm_any x hs A2 c2 A8 c8 _ hRS).mono ?_; rw [ho]; rintro e w3 ⟨v, rfl, hT, hB3⟩; replace hBw := belowT hBw hB3; replace hbS := blk_below hbS hB3; replace hRS := hRS.below hB3; obtain ⟨p0, p1, p2, p3, p4, p5, p6, p7, p8, pf⟩ := nine_cells hbS; obtain ⟨hv, -⟩ := hT; subst hv)
        | (go_at_call 19; refine (is_any hRS HSZ.out true).mono ?_; rw [isS_true, ho]; rintro e w4 ⟨rfl, hB4⟩; replace hBw := belowT hBw hB4; replace hbS := blk_below hbS hB4; replace hRS := hRS.below hB4; obtain ⟨p0, p1, p2, p3, p4, p5, p6, p7, p8, pf⟩ := nine_cells hbS))
      go_ret
      exact ⟨rfl, hBw⟩
    | true =>
      have hcan := canon_term x ho
      have HCAN := Lib.hid hcan
      clear hcan
      go_enter Try.func3, Try.ntmps3
      go_upto_region 6 with (first
        | (go_at_call 17; refine (few_any hRS 300 (by omega) (by omega)).mono ?_; rw [hf]; rintro e w2 ⟨rfl, hB2⟩; replace hBw := belowT hBw hB2; replace hbS := blk_below hbS hB2; replace hRS := hRS.below hB2; obtain ⟨p0, p1, p2, p3, p4, p5, p6, p7, p8, pf⟩ := nine_cells hbS)
        | (go_at_call 16; refine (awake_any _).mono ?_; rintro e w1 ⟨rfl, hB1⟩; replace hBw := belowT hBw hB1; replace hbS := blk_below hbS hB1; replace hRS := hRS.below hB1; obtain ⟨p0, p1, p2, p3, p4, p5, p6, p7, p8, pf⟩ := nine_cells hbS)
        | (go_at_call 18; refine (ofTerm_any x hs A2 c2 A8 c8 _ hRS).mono ?_; rw [ho]; rintro e w3 ⟨v, rfl, hT, hB3⟩; replace hBw := belowT hBw hB3; replace hbS := blk_below hbS hB3; replace hRS := hRS.below hB3; obtain ⟨p0, p1, p2, p3, p4, p5, p6, p7, p8, pf⟩ := nine_cells hbS)
        | (go_at_call 19; refine (is_any hRS HSZ.out true).mono ?_; rw [isS_true, ho]; rintro e w4 ⟨rfl, hB4⟩; replace hBw := belowT hBw hB4; replace hbS := blk_below hbS hB4; replace hRS := hRS.below hB4; obtain ⟨p0, p1, p2, p3, p4, p5, p6, p7, p8, pf⟩ := nine_cells hbS; replace hT := hT.below hB4))
      have hTd := hT.drew
      have hRd := hRS.below (below_drew (Below.refl _ _))
      have hBd := belowT hBw (below_drew (Below.refl _ _))
      have hbd := blk_below hbS (below_drew (Below.refl _ _))
      have r0 : w4.drew.cell? ⟨w.heap.size, 0, none⟩ = some (.int .i64 x.f0) := p0
      have r1 : w4.drew.cell? ⟨w.heap.size, 1, none⟩ = some (.bool x.f1.f0) := p1
      have r2 : w4.drew.cell? ⟨w.heap.size, 2, none⟩ = some (.slice A2 x.f1.f1.length c2) := p2
      have r3 : w4.drew.cell? ⟨w.heap.size, 3, none⟩ = some (.string x.f2) := p3
      have r4 : w4.drew.cell? ⟨w.heap.size, 4, none⟩ = some (.int .i64 x.f3) := p4
      have r5 : w4.drew.cell? ⟨w.heap.size, 5, none⟩ = some (.int .i64 x.f4) := p5
      have r6 : w4.drew.cell? ⟨w.heap.size, 6, none⟩ = some (.bool x.f5) := p6
      have r7 : w4.drew.cell? ⟨w.heap.size, 7, none⟩ = some (.bool x.f6) := p7
      have r8 : w4.drew.cell? ⟨w.heap.size, 8, none⟩ = some (.slice A8 x.f7.length c8) := p8
      go_region_held3 (fun w' => w'.cell? ⟨w.heap.size, 0, none⟩ = some (.int .i64 x.f0) ∧ w'.cell? ⟨w.heap.size, 1, none⟩ = some (.bool x.f1.f0) ∧ w'.cell? ⟨w.heap.size, 2, none⟩ = some (.slice A2 x.f1.f1.length c2) ∧ w'.cell? ⟨w.heap.size, 3, none⟩ = some (.string x.f2) ∧ w'.cell? ⟨w.heap.size, 4, none⟩ = some (.int .i64 x.f3) ∧ w'.cell? ⟨w.heap.size, 5, none⟩ = some (.int .i64 x.f4) ∧ w'.cell? ⟨w.heap.size, 6, none⟩ = some (.bool x.f5) ∧ w'.cell? ⟨w.heap.size, 7, none⟩ = some (.bool x.f6) ∧ w'.cell? ⟨w.heap.size, 8, none⟩ = some (.slice A8 x.f7.length c8)) (first | exact ⟨by with_reducible assumption, by with_reducible assumption, by with_reducible assumption, by with_reducible assumption, by with_reducible assumption, by with_reducible assumption, by with_reducible assumption, by with_reducible assumption, by with_reducible assumption⟩)
        (first
          | (go_at_call 21; refine (plainT_any _ _ _ (small_term x hs) hTd).mono ?_; dsimp only [treeV]; rintro e w5 ⟨v2, v8, rfl, hT5, hB5⟩; obtain ⟨E2, e2, E8, e8, rfl, rfl, -⟩ := hT5.forms
             have hRd5 := hRd.below hB5
             have hBd5 := belowT hBd hB5
             have hbd5 := blk_below hbd hB5
             obtain ⟨r0, r1, r2, r3, r4, r5, r6, r7, r8, rf⟩ := nine_cells hbd5)
          | (go_at_call 22; refine (canon_any hRd5 hs HSZ.out).mono ?_; dsimp only [treeV]; rintro e w6 ⟨u2, u8, rfl, hT6, hB6⟩; obtain ⟨F2, f2, F8, f8, rfl, rfl, -⟩ := hT6.forms
             have hRd6 := hRd5.below hB6
             have hBd6 := belowT hBd5 hB6
             have hbd6 := blk_below hbd5 hB6
             obtain ⟨r0, r1, r2, r3, r4, r5, r6, r7, r8, rf⟩ := nine_cells hbd6)
          | (go_at_call 20; refine (sameT_any (hT5.below hB6).read hT6.read (by rw [HCAN.out]; exact small_canon x hs) (by rw [HCAN.out, sizeS_canon]; exact HSZ.out) HCAN.out).mono ?_; rintro e w7 ⟨rfl, hB7⟩
             have hBd7 := belowT hBd6 hB7
             have hbd7 := blk_below hbd6 hB7
             obtain ⟨r0, r1, r2, r3, r4, r5, r6, r7, r8, rf⟩ := nine_cells hbd7))
      all_goals go_wp2_with fail
      all_goals go_ret
      all_goals exact ⟨rfl, hBd7⟩
set_option maxRecDepth 100000 in
set_option maxHeartbeats 4000000 in
theorem law4 (x : S29) (A2 A8 : Option Addr) (c2 c8 : Nat) (w : World) (hR : ReadR w x A2 c2 A8 c8) :
    Calls Try.prog 4 #[treeV x (.slice A2 x.f1.f1.length c2) (.slice A8 x.f7.length c8)] w fun e w' => e = .returned (.bool true) ∧ Below w.heap.size w w' := by
  have hu29 := Try.underlying29
  obtain ⟨wS, hwS⟩ : ∃ wS, w.alloc (.cells #[.int .i64 x.f0, .bool x.f1.f0, .slice A2 x.f1.f1.length c2, .string x.f2, .int .i64 x.f3, .int .i64 x.f4, .bool x.f5, .bool x.f6, .slice A8 x.f7.length c8] 29) = wS := ⟨_, rfl⟩
  have hBw : Below w.heap.size w wS := by rw [← hwS]; exact (Below.refl _ w).alloc (Nat.le_refl _) _
  have hbS : wS.heap[w.heap.size]? = some (.cells #[.int .i64 x.f0, .bool x.f1.f0, .slice A2 x.f1.f1.length c2, .string x.f2, .int .i64 x.f3, .int .i64 x.f4, .bool x.f5, .bool x.f6, .slice A8 x.f7.length c8] 29 (0, 0)) := by rw [← hwS]; exact blk_new _ _
  have hRS := hR.below hBw
  cases hf : fewB x 300 with
  | false =>
    go_enter Try.func4, Try.ntmps4
    go_wp2_with (first
      | (go_at_call 17; refine (few_any hRS 300 (by omega) (by omega)).mono ?_; rw [hf]; rintro e w2 ⟨rfl, hB2⟩; replace hBw := belowT hBw hB2; replace hbS := blk_below hbS hB2; replace hRS := hRS.below hB2; obtain ⟨p0, p1, p2, p3, p4, p5, p6, p7, p8, pf⟩ := nine_cells hbS)
      | (go_at_call 16; refine (awake_any _).mono ?_; rintro e w1 ⟨rfl, hB1⟩; replace hBw := belowT hBw hB1; replace hbS := blk_below hbS hB1; replace hRS := hRS.below hB1; obtain ⟨p0, p1, p2, p3, p4, p5, p6, p7, p8, pf⟩ := nine_cells hbS))
    go_ret
    exact ⟨rfl, hBw⟩
  | true =>
    have hs := (few_short hf).small
    have hsz : sizeS x ≤ 1000000 := by have := few_size (by omega) hf; omega
    have HSZ := Lib.hid hsz
    clear hsz
    cases ho : (formOf x).2 with
    | false =>
      go_enter Try.func4, Try.ntmps4
      go_wp2_with (first
        | (go_at_call 17; refine (few_any hRS 300 (by omega) (by omega)).mono ?_; rw [hf]; rintro e w2 ⟨rfl, hB2⟩; replace hBw := belowT hBw hB2; replace hbS := blk_below hbS hB2; replace hRS := hRS.below hB2; obtain ⟨p0, p1, p2, p3, p4, p5, p6, p7, p8, pf⟩ := nine_cells hbS)
        | (go_at_call 16; refine (awake_any _).mono ?_; rintro e w1 ⟨rfl, hB1⟩; replace hBw := belowT hBw hB1; replace hbS := blk_below hbS hB1; replace hRS := hRS.below hB1; obtain ⟨p0, p1, p2, p3, p4, p5, p6, p7, p8, pf⟩ := nine_cells hbS)
        | (go_at_call 23; refine (of_any x hs A2 c2 A8 c8 _ hRS).mono ?_; rw [ho]; rintro e w3 ⟨v, rfl, hT, hB3⟩; replace hBw := belowT hBw hB3; replace hbS := blk_below hbS hB3; replace hRS := hRS.below hB3; obtain ⟨p0, p1, p2, p3, p4, p5, p6, p7, p8, pf⟩ := nine_cells hbS; obtain ⟨hv, -⟩ := hT; subst hv)
        | (go_at_call 19; refine (is_any hRS HSZ.out false).mono ?_; rw [isS_false, ho]; rintro e w4 ⟨rfl, hB4⟩; replace hBw := belowT hBw hB4; replace hbS := blk_below hbS hB4; replace hRS := hRS.below hB4; obtain ⟨p0, p1, p2, p3, p4, p5, p6, p7, p8, pf⟩ := nine_cells hbS))
      go_ret
      exact ⟨rfl, hBw⟩
    | true =>
      have hcan := canon_form x ho
      have HCAN := Lib.hid hcan
      clear hcan
      go_enter Try.func4, Try.ntmps4
      go_upto_region 6 with (first
        | (go_at_call 17; refine (few_any hRS 300 (by omega) (by omega)).mono ?_; rw [hf]; rintro e w2 ⟨rfl, hB2⟩; replace hBw := belowT hBw hB2; replace hbS := blk_below hbS hB2; replace hRS := hRS.below hB2; obtain ⟨p0, p1, p2, p3, p4, p5, p6, p7, p8, pf⟩ := nine_cells hbS)
        | (go_at_call 16; refine (awake_any _).mono ?_; rintro e w1 ⟨rfl, hB1⟩; replace hBw := belowT hBw hB1; replace hbS := blk_below hbS hB1; replace hRS := hRS.below hB1; obtain ⟨p0, p1, p2, p3, p4, p5, p6, p7, p8, pf⟩ := nine_cells hbS)
        | (go_at_call 23; refine (of_any x hs A2 c2 A8 c8 _ hRS).mono ?_; rw [ho]; rintro e w3 ⟨v, rfl, hT, hB3⟩; replace hBw := belowT hBw hB3; replace hbS := blk_below hbS hB3; replace hRS := hRS.below hB3; obtain ⟨p0, p1, p2, p3, p4, p5, p6, p7, p8, pf⟩ := nine_cells hbS)
        | (go_at_call 19; refine (is_any hRS HSZ.out false).mono ?_; rw [isS_false, ho]; rintro e w4 ⟨rfl, hB4⟩; replace hBw := belowT hBw hB4; replace hbS := blk_below hbS hB4; replace hRS := hRS.below hB4; obtain ⟨p0, p1, p2, p3, p4, p5, p6, p7, p8, pf⟩ := nine_cells hbS; replace hT := hT.below hB4))
      have hTd := hT.drew
      have hRd := hRS.below (below_drew (Below.refl _ _))
      have hBd := belowT hBw (below_drew (Below.refl _ _))
      have hbd := blk_below hbS (below_drew (Below.refl _ _))
      have r0 : w4.drew.cell? ⟨w.heap.size, 0, none⟩ = some (.int .i64 x.f0) := p0
      have r1 : w4.drew.cell? ⟨w.heap.size, 1, none⟩ = some (.bool x.f1.f0) := p1
      have r2 : w4.drew.cell? ⟨w.heap.size, 2, none⟩ = some (.slice A2 x.f1.f1.length c2) := p2
      have r3 : w4.drew.cell? ⟨w.heap.size, 3, none⟩ = some (.string x.f2) := p3
      have r4 : w4.drew.cell? ⟨w.heap.size, 4, none⟩ = some (.int .i64 x.f3) := p4
      have r5 : w4.drew.cell? ⟨w.heap.size, 5, none⟩ = some (.int .i64 x.f4) := p5
      have r6 : w4.drew.cell? ⟨w.heap.size, 6, none⟩ = some (.bool x.f5) := p6
      have r7 : w4.drew.cell? ⟨w.heap.size, 7, none⟩ = some (.bool x.f6) := p7
      have r8 : w4.drew.cell? ⟨w.heap.size, 8, none⟩ = some (.slice A8 x.f7.length c8) := p8
      go_region_held3 (fun w' => w'.cell? ⟨w.heap.size, 0, none⟩ = some (.int .i64 x.f0) ∧ w'.cell? ⟨w.heap.size, 1, none⟩ = some (.bool x.f1.f0) ∧ w'.cell? ⟨w.heap.size, 2, none⟩ = some (.slice A2 x.f1.f1.length c2) ∧ w'.cell? ⟨w.heap.size, 3, none⟩ = some (.string x.f2) ∧ w'.cell? ⟨w.heap.size, 4, none⟩ = some (.int .i64 x.f3) ∧ w'.cell? ⟨w.heap.size, 5, none⟩ = some (.int .i64 x.f4) ∧ w'.cell? ⟨w.heap.size, 6, none⟩ = some (.bool x.f5) ∧ w'.cell? ⟨w.heap.size, 7, none⟩ = some (.bool x.f6) ∧ w'.cell? ⟨w.heap.size, 8, none⟩ = some (.slice A8 x.f7.length c8)) (first | exact ⟨by with_reducible assumption, by with_reducible assumption, by with_reducible assumption, by with_reducible assumption, by with_reducible assumption, by with_reducible assumption, by with_reducible assumption, by with_reducible assumption, by with_reducible assumption⟩)
        (first
          | (go_at_call 24; refine (plainF_any _ _ _ (small_form x hs) hTd).mono ?_; dsimp only [treeV]; rintro e w5 ⟨v2, v8, rfl, hT5, hB5⟩; obtain ⟨E2, e2, E8, e8, rfl, rfl, -⟩ := hT5.forms
             have hRd5 := hRd.below hB5
             have hBd5 := belowT hBd hB5
             have hbd5 := blk_below hbd hB5
             obtain ⟨r0, r1, r2, r3, r4, r5, r6, r7, r8, rf⟩ := nine_cells hbd5)
          | (go_at_call 22; refine (canon_any hRd5 hs HSZ.out).mono ?_; dsimp only [treeV]; rintro e w6 ⟨u2, u8, rfl, hT6, hB6⟩; obtain ⟨F2, f2, F8, f8, rfl, rfl, -⟩ := hT6.forms
             have hRd6 := hRd5.below hB6
             have hBd6 := belowT hBd5 hB6
             have hbd6 := blk_below hbd5 hB6
             obtain ⟨r0, r1, r2, r3, r4, r5, r6, r7, r8, rf⟩ := nine_cells hbd6)
          | (go_at_call 20; refine (sameT_any (hT5.below hB6).read hT6.read (by rw [HCAN.out]; exact small_canon x hs) (by rw [HCAN.out, sizeS_canon]; exact HSZ.out) HCAN.out).mono ?_; rintro e w7 ⟨rfl, hB7⟩
             have hBd7 := belowT hBd6 hB7
             have hbd7 := blk_below hbd6 hB7
             obtain ⟨r0, r1, r2, r3, r4, r5, r6, r7, r8, rf⟩ := nine_cells hbd7))
      all_goals go_wp2_with fail
      all_goals go_ret
      all_goals exact ⟨rfl, hBd7⟩
end Go.Proofs.Ytddpojinlapmfaa.PRef
