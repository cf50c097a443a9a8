/- FormulaNames: the law's body. -/
import Derived.Test.YtddpojinlapmfaaRefR
import Derived.Test.YtddpojinlapmfaaRefH
import Derived.Test.YtddpojinlapmfaaRefI
import Derived.Test.YtddpojinlapmfaaAwake
namespace Go.Proofs.Ytddpojinlapmfaa.PRef
set_option linter.unusedVariables false
set_option linter.unusedSimpArgs false
open Go.RowKit Go.Proofs.YtddpojinlapmfaaW.PrintWords Go.Proofs.YtddpojinlapmfaaW.PrintLast Go.Proofs.YtddpojinlapmfaaW.PrintMore

theorem belowU {w a b : World} (h : Below w.heap.size w a) (k : Below a.heap.size a b) : Below w.heap.size w b := h.trans (k.mono h.size)
theorem texts_below (A : Option Addr) (c : Nat) (l : List ByteArray) (B : Option Addr) (d : Nat) (w : World) (h1 : Kd.C Kd.string w A l.length l) (k1 : l.length ≤ c) (h2 : Kd.C Kd.string w B l.length l) (k2 : l.length ≤ d) (hl : l.length ≤ 1000000) :
    Calls Try.prog 26 #[.slice A l.length c, .slice B l.length d] w fun e w' => e = .returned (.bool true) ∧ Below w.heap.size w w' :=
  (texts_any A c l B d l w h1 k1 h2 k2 hl).mono fun _ _ h => ⟨by rw [h.1, decide_eq_true rfl], by obtain ⟨n, rfl⟩ := h.2; exact pw_below_drewN (Below.refl _ _) _⟩
theorem right_few {x : S29} (h : rightB x = true) : fewB x 300 = true := by simp [rightB] at h; exact h.1
theorem right_short {x : S29} (h : rightB x = true) : Short x := few_short (right_few h)
theorem right_size {x : S29} (h : rightB x = true) : sizeS x ≤ 300 := by have := few_size (by omega) (right_few h); omega
theorem right_form {x : S29} (h : rightB x = true) : (formOf x).2 = true := by simp [rightB] at h; exact h.2
set_option maxRecDepth 100000 in
set_option maxHeartbeats 4000000 in
theorem law5 (x : S29) (A2 A8 : Option Addr) (c2 c8 : Nat) (w : World) (hR : ReadR w x A2 c2 A8 c8) :
    Calls Try.prog 5 #[treeV x (.slice A2 x.f1.f1.length c2) (.slice A8 x.f7.length c8)] w fun e w' => e = .returned (.bool true) ∧ Below w.heap.size w w' := by
  have hu29 := Try.underlying29
  obtain ⟨wS, hwS⟩ : ∃ wS, w.alloc (.cells #[.int .i64 x.f0, .bool x.f1.f0, .slice A2 x.f1.f1.length c2, .string x.f2, .int .i64 x.f3, .int .i64 x.f4, .bool x.f5, .bool x.f6, .slice A8 x.f7.length c8] 29) = wS := ⟨_, rfl⟩
  have hBw : Below w.heap.size w wS := by rw [← hwS]; exact (Below.refl _ w).alloc (Nat.le_refl _) _
  have hbS : wS.heap[w.heap.size]? = some (.cells #[.int .i64 x.f0, .bool x.f1.f0, .slice A2 x.f1.f1.length c2, .string x.f2, .int .i64 x.f3, .int .i64 x.f4, .bool x.f5, .bool x.f6, .slice A8 x.f7.length c8] 29 (0, 0)) := by rw [← hwS]; exact blk_new _ _
  have hRS := hR.below hBw
  cases hrt : rightB x with
  | false =>
    go_enter Try.func5, Try.ntmps5
    go_wp2_with (first
      | (go_at_call 25; refine (right_any hRS).mono ?_; rw [hrt]; rintro e w2 ⟨rfl, hB2⟩; replace hBw := belowU hBw hB2; replace hbS := blk_below hbS hB2; replace hRS := hRS.below hB2; obtain ⟨p0, p1, p2, p3, p4, p5, p6, p7, p8, pf⟩ := nine_cells hbS)
      | (go_at_call 16; refine (awake_any _).mono ?_; rintro e w1 ⟨rfl, hB1⟩; replace hBw := belowU hBw hB1; replace hbS := blk_below hbS hB1; replace hRS := hRS.below hB1; obtain ⟨p0, p1, p2, p3, p4, p5, p6, p7, p8, pf⟩ := nine_cells hbS))
    go_ret
    exact ⟨rfl, hBw⟩
  | true =>
    have hs := (right_short hrt).small
    have hsz := right_size hrt
    have ho := right_form hrt
    have HSZ := Lib.hid hsz
    have hfs := small_form x hs
    have hq := nTQ_size x ho
    have hTq : nT (formOf x).1 ≤ 1000000 := by omega
    have hQq : nQ (formOf x).1 ≤ 1000000 := by omega
    have hWq : (wk (formOf x).1 0).length ≤ 1000000 := by have := wk_size x ho 0; omega
    have hL1 : (freeL [] (formOf x).1 []).length ≤ 1000000 := by
      rw [← free_form x ho]
      have := freeS_len x [] []
      simp at this
      omega
    have hL2 : (bndL ((wk (formOf x).1 0).map Prod.snd)).length ≤ 1000000 := by
      have := bndL_len ((wk (formOf x).1 0).map Prod.snd)
      rw [List.length_map] at this
      omega
    have hfr := free_form x ho [] []
    have hbn := bound_form x ho
    clear hq
    obtain ⟨fl, hfl⟩ : ∃ fl, freeL [] (formOf x).1 [] = fl := ⟨_, rfl⟩
    obtain ⟨bl, hbl⟩ : ∃ bl, bndL ((wk (formOf x).1 0).map Prod.snd) = bl := ⟨_, rfl⟩
    rw [hfl] at hfr hL1
    rw [hbl] at hbn hL2
    go_enter Try.func5, Try.ntmps5
    go_upto_region 4 with (first
      | (go_at_call 25; refine (right_any hRS).mono ?_; rw [hrt]; rintro e w2 ⟨rfl, hB2⟩; replace hBw := belowU hBw hB2; replace hbS := blk_below hbS hB2; replace hRS := hRS.below hB2; obtain ⟨p0, p1, p2, p3, p4, p5, p6, p7, p8, pf⟩ := nine_cells hbS)
      | (go_at_call 16; refine (awake_any _).mono ?_; rintro e w1 ⟨rfl, hB1⟩; replace hBw := belowU hBw hB1; replace hbS := blk_below hbS hB1; replace hRS := hRS.below hB1; obtain ⟨p0, p1, p2, p3, p4, p5, p6, p7, p8, pf⟩ := nine_cells hbS)
      | (go_at_call 23; refine (of_any x hs A2 c2 A8 c8 _ hRS).mono ?_; rw [ho, if_pos rfl, if_pos rfl]; rintro e w3 ⟨v, rfl, hT, hB3⟩; replace hBw := belowU hBw hB3; replace hbS := blk_below hbS hB3; replace hRS := hRS.below hB3; obtain ⟨p0, p1, p2, p3, p4, p5, p6, p7, p8, pf⟩ := nine_cells hbS))
    have hTd := hT.drew
    have hRd := hRS.below (below_drew (Below.refl _ _))
    have hBd := belowU hBw (below_drew (Below.refl _ _))
    have hbd := blk_below hbS (below_drew (Below.refl _ _))
    have r0 : w3.drew.cell? ⟨w.heap.size, 0, none⟩ = some (.int .i64 x.f0) := p0
    have r1 : w3.drew.cell? ⟨w.heap.size, 1, none⟩ = some (.bool x.f1.f0) := p1
    have r2 : w3.drew.cell? ⟨w.heap.size, 2, none⟩ = some (.slice A2 x.f1.f1.length c2) := p2
    have r3 : w3.drew.cell? ⟨w.heap.size, 3, none⟩ = some (.string x.f2) := p3
    have r4 : w3.drew.cell? ⟨w.heap.size, 4, none⟩ = some (.int .i64 x.f3) := p4
    have r5 : w3.drew.cell? ⟨w.heap.size, 5, none⟩ = some (.int .i64 x.f4) := p5
    have r6 : w3.drew.cell? ⟨w.heap.size, 6, none⟩ = some (.bool x.f5) := p6
    have r7 : w3.drew.cell? ⟨w.heap.size, 7, none⟩ = some (.bool x.f6) := p7
    have r8 : w3.drew.cell? ⟨w.heap.size, 8, none⟩ = some (.slice A8 x.f7.length c8) := p8
    go_region_held3 (fun w' => w'.cell? ⟨w.heap.size, 0, none⟩ = some (.int .i64 x.f0) ∧ w'.cell? ⟨w.heap.size, 1, none⟩ = some (.bool x.f1.f0) ∧ w'.cell? ⟨w.heap.size, 2, none⟩ = some (.slice A2 x.f1.f1.length c2) ∧ w'.cell? ⟨w.heap.size, 3, none⟩ = some (.string x.f2) ∧ w'.cell? ⟨w.heap.size, 4, none⟩ = some (.int .i64 x.f3) ∧ w'.cell? ⟨w.heap.size, 5, none⟩ = some (.int .i64 x.f4) ∧ w'.cell? ⟨w.heap.size, 6, none⟩ = some (.bool x.f5) ∧ w'.cell? ⟨w.heap.size, 7, none⟩ = some (.bool x.f6) ∧ w'.cell? ⟨w.heap.size, 8, none⟩ = some (.slice A8 x.f7.length c8)) (first | exact ⟨by with_reducible assumption, by with_reducible assumption, by with_reducible assumption, by with_reducible assumption, by with_reducible assumption, by with_reducible assumption, by with_reducible assumption, by with_reducible assumption, by with_reducible assumption⟩)
        (first
          | (go_at_call 26; refine (texts_below A8' c8' bl A9 c9 _ (Kd.R_reads' (Kd.R_below hT8 hB9)).2.2 (Kd.R_reads' hT8).2.1 (Kd.R_reads' hT9).2.2 (Kd.R_reads' hT9).2.1 hL2).mono ?_; rintro e w10 ⟨rfl, hB10⟩
             have hRd10 := hRd9.below hB10
             have hBd10 := belowU hBd9 hB10
             have hbd10 := blk_below hbd9 hB10
             obtain ⟨r0, r1, r2, r3, r4, r5, r6, r7, r8, rf⟩ := nine_cells hbd10)
          | (go_at_call 30; refine (refBound_any hRd8 (by have := HSZ.out; omega)).mono ?_; rw [hbn]; rintro e w9 ⟨A9, c9, rfl, hT9, hB9⟩
             have hRd9 := hRd8.below hB9
             have hBd9 := belowU hBd8 hB9
             have hbd9 := blk_below hbd8 hB9
             obtain ⟨r0, r1, r2, r3, r4, r5, r6, r7, r8, rf⟩ := nine_cells hbd9)
          | (go_at_call 29; refine (bound_any _ _ _ _ hTd7 hWq).mono ?_; rw [hbl]; rintro e w8 ⟨A8', c8', rfl, hT8, hB8⟩
             have hRd8 := hRd7.below hB8
             have hBd8 := belowU hBd7 hB8
             have hbd8 := blk_below hbd7 hB8
             obtain ⟨r0, r1, r2, r3, r4, r5, r6, r7, r8, rf⟩ := nine_cells hbd8)
          | (go_at_call 26; refine (texts_below A5 c5 fl A6 c6 _ (Kd.R_reads' (Kd.R_below hT5 hB6)).2.2 (Kd.R_reads' hT5).2.1 (Kd.R_reads' hT6).2.2 (Kd.R_reads' hT6).2.1 hL1).mono ?_; rintro e w7 ⟨rfl, hB7⟩; have hTd7 := ((hTd.below hB5).below hB6).below hB7
             have hRd7 := hRd6.below hB7
             have hBd7 := belowU hBd6 hB7
             have hbd7 := blk_below hbd6 hB7
             obtain ⟨r0, r1, r2, r3, r4, r5, r6, r7, r8, rf⟩ := nine_cells hbd7)
          | (go_at_call 28; refine (refFreeF_any x A2 c2 A8 c8 _ hRd5 (by have := HSZ.out; omega)).mono ?_; rw [hfr]; rintro e w6 ⟨A6, c6, rfl, hT6, hB6⟩
             have hRd6 := hRd5.below hB6
             have hBd6 := belowU hBd5 hB6
             have hbd6 := blk_below hbd5 hB6
             obtain ⟨r0, r1, r2, r3, r4, r5, r6, r7, r8, rf⟩ := nine_cells hbd6)
          | (go_at_call 27; refine (freeF_any _ _ _ hTd hTq hQq).mono ?_; rw [hfl]; rintro e w5 ⟨A5, c5, rfl, hT5, hB5⟩
             have hRd5 := hRd.below hB5
             have hBd5 := belowU hBd hB5
             have hbd5 := blk_below hbd hB5
             obtain ⟨r0, r1, r2, r3, r4, r5, r6, r7, r8, rf⟩ := nine_cells hbd5))
    all_goals go_wp2_with fail
    all_goals go_ret
    all_goals exact ⟨rfl, hBd10⟩
end Go.Proofs.Ytddpojinlapmfaa.PRef
