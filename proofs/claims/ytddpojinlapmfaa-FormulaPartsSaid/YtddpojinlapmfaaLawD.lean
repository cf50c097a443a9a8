/- FormulaParts: the law's body. -/
import Derived.Test.YtddpojinlapmfaaLawB
import Derived.Test.YtddpojinlapmfaaRefJ
import Derived.Test.YtddpojinlapmfaaRoundA
import Derived.Test.YtddpojinlapmfaaOpen
namespace Go.Proofs.Ytddpojinlapmfaa.PRef
set_option linter.unusedVariables false
set_option linter.unusedSimpArgs false
open Go.RowKit Go.Shelf Go.Proofs.YtddpojinlapmfaaW.PrintWords Go.Proofs.YtddpojinlapmfaaW.PrintLast Go.Proofs.YtddpojinlapmfaaW.PrintMore

theorem right_iface6 {x : S29} (ho : (formOf x).2 = true) {w : World} {v : Value} (h : IsFm w (formOf x).1 v) : ∃ (a : Nat) (y : Value), v = .iface a y := by
  rcases form_inv x ho with ⟨h0, h7, e⟩ | ⟨a, b, h7, ha, hb, h0, -, e⟩ | ⟨a, h7, ha, h0⟩ | ⟨a, b, h7, ha, hb, h0⟩
  · rw [e] at h; cases h; exact ⟨_, _, rfl⟩
  · rw [e] at h; obtain ⟨vl, vr, rfl, h1, h2⟩ := h; exact ⟨_, _, rfl⟩
  · rcases h0 with ⟨h0, e⟩ | ⟨h0, e⟩ <;> rw [e] at h
    · obtain ⟨_, rfl, _⟩ := h; exact ⟨_, _, rfl⟩
    · obtain ⟨_, rfl, _⟩ := h; exact ⟨_, _, rfl⟩
  · rcases h0 with ⟨h0, e⟩ | ⟨h0, e⟩ | ⟨h0, e⟩ | ⟨h0, e⟩ <;> rw [e] at h <;> (obtain ⟨_, _, rfl, _⟩ := h; exact ⟨_, _, rfl⟩)
theorem res_cell4 {tmps : Array Value} {w : World} {g : Nat} {v : Value} (hp : tmps.getD 4 undef = .pointer (some ⟨g, 0, none⟩)) (hc : w.cell? ⟨g, 0, none⟩ = some v) : (results Try.f6 tmps).run Try.prog w = .ok v w := by
  have h : Try.f6.results = #[.cell 4 4] := rfl
  have hu := Try.underlying4
  have hp' : tmps[4]?.getD undef = .pointer (some ⟨g, 0, none⟩) := by simpa using hp
  simp [results, h, hp', asAddr, loadVar, hu, hc]
set_option maxRecDepth 100000 in
set_option maxHeartbeats 4000000 in
theorem law6_no (x : S29) (stop : Int) (A2 A8 : Option Addr) (c2 c8 : Nat) (w : World) (hR : ReadR w x A2 c2 A8 c8) (hrt : rightB x = false) :
    Calls Try.prog 6 #[treeV x (.slice A2 x.f1.f1.length c2) (.slice A8 x.f7.length c8), .int .u8 stop] w fun e w' => e = .returned (.bool true) ∧ Below w.heap.size w w' := by
  have hu29 := Try.underlying29
  obtain ⟨wS, hwS⟩ : ∃ wS, ((w.alloc (.cells #[.int .i64 x.f0, .bool x.f1.f0, .slice A2 x.f1.f1.length c2, .string x.f2, .int .i64 x.f3, .int .i64 x.f4, .bool x.f5, .bool x.f6, .slice A8 x.f7.length c8] 29)).alloc (.cells #[.int .u8 stop] 5)).alloc (.cells #[.bool false] 4) = wS := ⟨_, rfl⟩
  have hBw : Below w.heap.size w wS := by rw [← hwS]; exact (((Below.refl _ w).alloc (Nat.le_refl _) _).alloc (by simp) _).alloc (by simp; omega) _
  have hbS : wS.heap[w.heap.size]? = some (.cells #[.int .i64 x.f0, .bool x.f1.f0, .slice A2 x.f1.f1.length c2, .string x.f2, .int .i64 x.f3, .int .i64 x.f4, .bool x.f5, .bool x.f6, .slice A8 x.f7.length c8] 29 (0, 0)) := by rw [← hwS]; exact blk_alloc (blk_alloc (blk_new _ _) _) _
  have hb4 : wS.heap[w.heap.size + 1 + 1]? = some (.cells #[.bool false] 4 (0, 0)) := by
    rw [← hwS]
    have := blk_new ((w.alloc (.cells #[.int .i64 x.f0, .bool x.f1.f0, .slice A2 x.f1.f1.length c2, .string x.f2, .int .i64 x.f3, .int .i64 x.f4, .bool x.f5, .bool x.f6, .slice A8 x.f7.length c8] 29)).alloc (.cells #[.int .u8 stop] 5)) (.cells #[.bool false] 4)
    rwa [World.size_alloc, World.size_alloc] at this
  have hRS := hR.below hBw
  go_enter Try.func6, Try.ntmps6
  go_wp2_with (first
    | (go_at_call 25; refine (right_any hRS).mono ?_; rw [hrt]; rintro e w2 ⟨rfl, hB2⟩; replace hBw := belowU hBw hB2; replace hbS := blk_below hbS hB2; replace hRS := hRS.below hB2; obtain ⟨p0, p1, p2, p3, p4, p5, p6, p7, p8, pf⟩ := nine_cells hbS; replace hb4 := blk_below hb4 hB2)
    | (go_at_call 16; refine (awake_any _).mono ?_; rintro e w1 ⟨rfl, hB1⟩; replace hBw := belowU hBw hB1; replace hbS := blk_below hbS hB1; replace hRS := hRS.below hB1; obtain ⟨p0, p1, p2, p3, p4, p5, p6, p7, p8, pf⟩ := nine_cells hbS; replace hb4 := blk_below hb4 hB1; obtain ⟨d0, d1⟩ := box_of hb4))
  have hp := one_put hb4 (.bool true)
  exact bodyPost_ret (res_cell4 rfl (box_of hp).1) rfl ⟨rfl, hBw.setCell (p := ⟨w.heap.size + 1 + 1, 0, none⟩) (by simp only; omega) _⟩

attribute [local go_sem] Oper.semAt_some
/-- Every cell outside the block t is as it was. -/
def CellsBut (t B : Nat) (w w' : World) : Prop := (∀ a : Addr, a.block ≠ t → ∀ v, w.cell? a = some v → w'.cell? a = some v) ∧ Below B w w'
theorem CellsBut.refl (t B : Nat) (w : World) : CellsBut t B w w := ⟨fun _ _ _ h => h, Below.refl _ _⟩
theorem CellsBut.of {t B : Nat} {w w' : World} (hB : B ≤ w.heap.size) (h : Below w.heap.size w w') : CellsBut t B w w' := ⟨fun _ _ _ hv => pw_cell_below h hv, h.mono hB⟩
theorem CellsBut.put {t B : Nat} {w w' : World} (h : CellsBut t B w w') (hB : B ≤ t) (v : Value) : CellsBut t B w (w'.setCell ⟨t, 0, none⟩ v) :=
  ⟨fun a ha v hv => (World.cell?_setCell_far _ _ _ _ (fun e => ha e.symm)).trans (h.1 a ha v hv), h.2.setCell (p := ⟨t, 0, none⟩) hB _⟩
theorem ar_ne2 (m : Nat) : m ≠ m + 1 + 1 := by omega
theorem ar_ne12 (m : Nat) : m + 1 ≠ m + 1 + 1 := by omega
theorem ar_ne3 {a m : Nat} (h : a < m) : a ≠ m + 1 + 1 := by omega
theorem ar_le2 (m : Nat) : m ≤ m + 1 + 1 := by omega
theorem ar_step {n stop : Int} (h : n ≤ stop) : n + 1 = stop + 1 ∨ n + 1 ≤ stop := by omega
theorem ar_conv {stop : Int} (h : 0 ≤ stop ∧ stop ≤ 255) : wrap64 stop = stop := wrap_ok (by omega) (by omega)
theorem ar_last {n stop : Int} (h : n ≤ stop) (k : stop < n + 1) : n + 1 = stop + 1 := by omega
theorem list_mem : ∀ (x : S29) (d : Int) (p : S29 × Int), p ∈ listS x d → SmallS x → SmallS p.1 ∧ sizeS p.1 ≤ sizeS x := by
  intro x
  induction x using S29.ind with
  | h x ih =>
  intro d p hp hs
  rw [listS_eq] at hp
  rcases List.mem_cons.1 hp with rfl | hp
  · exact ⟨hs, Nat.le_refl _⟩
  · obtain ⟨_, hw, hks⟩ := hs
    have key : ∀ l : List S29, (∀ y ∈ l, y ∈ x.f7) → p ∈ listK l (d + 1) → SmallS p.1 ∧ ∃ y ∈ x.f7, sizeS p.1 ≤ sizeS y := by
      intro l
      induction l with
      | nil => intro _ h; simp [listK] at h
      | cons a l ihl =>
        intro hl h
        simp only [listK, List.mem_append] at h
        rcases h with h | h
        · obtain ⟨h1, h2⟩ := ih a (hl a (by simp)) (d + 1) p h (hks a (hl a (by simp)))
          exact ⟨h1, a, hl a (by simp), h2⟩
        · exact ihl (fun y hy => hl y (by simp [hy])) h
    obtain ⟨h1, y, hy, h2⟩ := key x.f7 (fun _ h => h) hp
    exact ⟨h1, by have := sizeS_kid hy; omega⟩
/-- A formula that is visited comes of a tree among the parts. -/
theorem vis_tree {x : S29} (ho : (formOf x).2 = true) (hs : SmallS x) {q : Int × Fm} (h : q ∈ wk (formOf x).1 0) : SmallF q.2 ∧ SmallS (plainF q.2) ∧ sizeS (plainF q.2) ≤ sizeS x := by
  obtain ⟨h1, h2⟩ := part_form x ho 0
  rw [← h1] at h
  obtain ⟨p, hp, rfl⟩ := List.mem_map.1 h
  obtain ⟨k1, k2⟩ := list_mem x 0 p (List.mem_filter.1 hp).1 hs
  have hf := h2 p hp
  dsimp only
  rw [canon_form p.1 hf, sizeS_canon]
  exact ⟨small_form p.1 k1, small_canon p.1 k1, k2⟩
/-- The n-th. -/
theorem vis_at {x : S29} (ho : (formOf x).2 = true) (n : Nat) (h : n < (partL x 0).length) (h' : n < (wk (formOf x).1 0).length) : (wk (formOf x).1 0)[n] = ((partL x 0)[n].2, (formOf (partL x 0)[n].1).1) ∧ (formOf (partL x 0)[n].1).2 = true := by
  obtain ⟨h1, h2⟩ := part_form x ho 0
  refine ⟨?_, h2 _ (List.getElem_mem h)⟩
  have := List.getElem_of_eq h1.symm h'
  rw [this, List.getElem_map]
set_option maxRecDepth 100000 in
set_option maxHeartbeats 4000000 in
theorem law6_yes (x : S29) (stop : Int) (hst0 : 0 ≤ stop ∧ stop ≤ 255) (A2 A8 : Option Addr) (c2 c8 : Nat) (w : World) (hR : ReadR w x A2 c2 A8 c8) (hrt : rightB x = true) :
    Calls Try.prog 6 #[treeV x (.slice A2 x.f1.f1.length c2) (.slice A8 x.f7.length c8), .int .u8 stop] w fun e w' => e = .returned (.bool true) ∧ Below w.heap.size w w' := by
  have hu29 := Try.underlying29
  obtain ⟨wS, hwS⟩ : ∃ wS, ((w.alloc (.cells #[.int .i64 x.f0, .bool x.f1.f0, .slice A2 x.f1.f1.length c2, .string x.f2, .int .i64 x.f3, .int .i64 x.f4, .bool x.f5, .bool x.f6, .slice A8 x.f7.length c8] 29)).alloc (.cells #[.int .u8 stop] 5)).alloc (.cells #[.bool false] 4) = wS := ⟨_, rfl⟩
  have hBw : Below w.heap.size w wS := by rw [← hwS]; exact (((Below.refl _ w).alloc (Nat.le_refl _) _).alloc (by simp) _).alloc (by simp; omega) _
  have hbS : wS.heap[w.heap.size]? = some (.cells #[.int .i64 x.f0, .bool x.f1.f0, .slice A2 x.f1.f1.length c2, .string x.f2, .int .i64 x.f3, .int .i64 x.f4, .bool x.f5, .bool x.f6, .slice A8 x.f7.length c8] 29 (0, 0)) := by rw [← hwS]; exact blk_alloc (blk_alloc (blk_new _ _) _) _
  have hb3 : wS.heap[w.heap.size + 1]? = some (.cells #[.int .u8 stop] 5 (0, 0)) := by
    rw [← hwS]
    have := blk_alloc (blk_new (w.alloc (.cells #[.int .i64 x.f0, .bool x.f1.f0, .slice A2 x.f1.f1.length c2, .string x.f2, .int .i64 x.f3, .int .i64 x.f4, .bool x.f5, .bool x.f6, .slice A8 x.f7.length c8] 29)) (.cells #[.int .u8 stop] 5)) (.cells #[.bool false] 4)
    rwa [World.size_alloc] at this
  have hb4 : wS.heap[w.heap.size + 1 + 1]? = some (.cells #[.bool false] 4 (0, 0)) := by
    rw [← hwS]
    have := blk_new ((w.alloc (.cells #[.int .i64 x.f0, .bool x.f1.f0, .slice A2 x.f1.f1.length c2, .string x.f2, .int .i64 x.f3, .int .i64 x.f4, .bool x.f5, .bool x.f6, .slice A8 x.f7.length c8] 29)).alloc (.cells #[.int .u8 stop] 5)) (.cells #[.bool false] 4)
    rwa [World.size_alloc, World.size_alloc] at this
  have hRS := hR.below hBw
  have hs := (right_short hrt).small
  have hsz := right_size hrt
  have ho := right_form hrt
  have HSZ := Lib.hid hsz
  have hwk := wk_size x ho 0
  have hWq : (wk (formOf x).1 0).length ≤ 1000 := by omega
  have hmf : ∀ (fn : Fn) (first cap : Array Value) (w : World), (Instr.makeFunc fn first cap).run Try.prog w = .ok (.func fn first cap) w := fun _ _ _ _ => rfl
  refine (callsIn_wide (n := 9)).1 ?_
  refine callsIn_of_wp_marks Try.func6 rfl trivial ?_ rfl
  dsimp only [treeV]
  simp only [Try.ntmps6, List.size_toArray, List.length_cons, List.length_nil, Nat.reduceAdd, Nat.reduceSub, Array.replicate_succ, Array.replicate_zero, List.push_toArray, List.append_toArray, List.nil_append, List.cons_append]
  have hdd : ∀ k : Nat, (Fence.wide.depth.isSome = true → 1 ≤ k) := fun k h => by cases h
  clear hwk
  gi_wp2_with (first
    | (refine ⟨trivial, ?_⟩; gi_at_call 32; refine (callsIn_wide.2 (parts_seq _ _ rfl)).mono ?_; rintro e w' ⟨rfl, rfl⟩)
    | (refine ⟨trivial, ?_⟩; gi_at_call 31; refine (callsIn_wide.2 (refParts_any hRS (by have := HSZ.out; omega))).mono ?_; rintro e wP ⟨A, c, B, d, rfl, hlc, hld, hCP, hB4⟩; clear p0 p1 p2 p3 p4 p5 p6 p7 p8 pf; replace hBw := belowU hBw hB4; replace hbS := blk_below hbS hB4; replace hRS := hRS.below hB4; obtain ⟨p0, p1, p2, p3, p4, p5, p6, p7, p8, pf⟩ := nine_cells hbS; replace hb4 := blk_below hb4 hB4; replace hb3 := blk_below hb3 hB4; replace hT := hT.below hB4)
    | (refine ⟨trivial, ?_⟩; gi_at_call 23; refine (callsIn_wide.2 (of_any x hs A2 c2 A8 c8 _ hRS)).mono ?_; rw [ho, if_pos rfl, if_pos rfl]; rintro e w3 ⟨v, rfl, hT, hB3⟩; obtain ⟨ta, ty, rfl⟩ := right_iface6 ho hT; clear p0 p1 p2 p3 p4 p5 p6 p7 p8 pf; replace hBw := belowU hBw hB3; replace hbS := blk_below hbS hB3; replace hRS := hRS.below hB3; obtain ⟨p0, p1, p2, p3, p4, p5, p6, p7, p8, pf⟩ := nine_cells hbS; replace hb4 := blk_below hb4 hB3; replace hb3 := blk_below hb3 hB3)
    | (refine ⟨trivial, ?_⟩; gi_at_call 25; refine (callsIn_wide.2 (right_any hRS)).mono ?_; rw [hrt]; rintro e w2 ⟨rfl, hB2⟩; clear p0 p1 p2 p3 p4 p5 p6 p7 p8 pf; replace hBw := belowU hBw hB2; replace hbS := blk_below hbS hB2; replace hRS := hRS.below hB2; obtain ⟨p0, p1, p2, p3, p4, p5, p6, p7, p8, pf⟩ := nine_cells hbS; replace hb4 := blk_below hb4 hB2; replace hb3 := blk_below hb3 hB2)
    | (refine ⟨trivial, ?_⟩; gi_at_call 16; refine (callsIn_wide.2 (awake_any _)).mono ?_; rintro e w1 ⟨rfl, hB1⟩; replace hBw := belowU hBw hB1; replace hbS := blk_below hbS hB1; replace hRS := hRS.below hB1; obtain ⟨p0, p1, p2, p3, p4, p5, p6, p7, p8, pf⟩ := nine_cells hbS; replace hb4 := blk_below hb4 hB1; replace hb3 := blk_below hb3 hB1))
  clear p0 p1 p2 p3 p4 p5 p6 p7 p8 pf hB1 hB2 hB3 hB4
  obtain ⟨m, hm⟩ : ∃ m, wP.heap.size = m := ⟨_, rfl⟩
  obtain ⟨wI, hwI⟩ : ∃ wI, (((wP.alloc (.cells #[.slice A (partL x 0).length c] 27)).alloc (.cells #[.slice B (partL x 0).length d] 51)).alloc (.cells #[.int .i64 0] 3)).alloc (.cells #[.iface ta ty] 43) = wI := ⟨_, rfl⟩
  have hz : wI.heap.size = m + 1 + 1 + 1 + 1 := by rw [← hwI, ← hm]; simp
  have hPI : Below wP.heap.size wP wI := by rw [← hwI]; exact ((((Below.refl _ wP).alloc (Nat.le_refl _) _).alloc (by simp) _).alloc (by simp; omega) _).alloc (by simp; omega) _
  have h7 : wI.heap[m]? = some (.cells #[.slice A (partL x 0).length c] 27 (0, 0)) := by rw [← hwI, ← hm]; exact blk_alloc (blk_alloc (blk_alloc (blk_new _ _) _) _) _
  have h8 : wI.heap[m + 1]? = some (.cells #[.slice B (partL x 0).length d] 51 (0, 0)) := by
    rw [← hwI, ← hm]
    have := blk_alloc (blk_alloc (blk_new (wP.alloc (.cells #[.slice A (partL x 0).length c] 27)) (.cells #[.slice B (partL x 0).length d] 51)) (.cells #[.int .i64 0] 3)) (.cells #[.iface ta ty] 43)
    rwa [World.size_alloc] at this
  have h9 : wI.heap[m + 1 + 1]? = some (.cells #[.int .i64 0] 3 (0, 0)) := by
    rw [← hwI, ← hm]
    have := blk_alloc (blk_new ((wP.alloc (.cells #[.slice A (partL x 0).length c] 27)).alloc (.cells #[.slice B (partL x 0).length d] 51)) (.cells #[.int .i64 0] 3)) (.cells #[.iface ta ty] 43)
    rwa [World.size_alloc, World.size_alloc] at this
  have h43 : wI.heap[m + 1 + 1 + 1]? = some (.cells #[.iface ta ty] 43 (0, 0)) := by
    rw [← hwI, ← hm]
    have := blk_new (((wP.alloc (.cells #[.slice A (partL x 0).length c] 27)).alloc (.cells #[.slice B (partL x 0).length d] 51)).alloc (.cells #[.int .i64 0] 3)) (.cells #[.iface ta ty] 43)
    rwa [World.size_alloc, World.size_alloc, World.size_alloc] at this
  rw [hwI, hm]
  rw [hm] at hPI hCP
  clear hwI
  refine wpIn_rangeFunc_ownG_of_H (α := Vis wP (· ∈ wk (formOf x).1 0)) rfl (by omega) (gf := 65) (lb := #[.pointer (some ⟨m + 1 + 1 + 1, 0, none⟩)]) rfl trivial (enters_of Try.func65 (by kernel_rfl) rfl)
    (parts_stops 8 (m + 1 + 1 + 1) wP (formOf x).1 (.iface ta ty) _ (by omega) ((blk_cell h43 0).trans rfl) hT (by omega)) Keeps.trans (fun W l o o' _ h hc _ => keeps_put l o o' h hc) (Below.refl _ _) (fun _ => rfl)
    (fun pre W => W.heap[m]? = some (.cells #[.slice A (partL x 0).length c] 27 (0, 0)) ∧ W.heap[m + 1]? = some (.cells #[.slice B (partL x 0).length d] 51 (0, 0)) ∧ W.heap[m + 1 + 1]? = some (.cells #[.int .i64 (pre.length : Nat)] 3 (0, 0)) ∧ Below m wP W ∧ (pre.length : Int) ≤ stop)
    (fun cd pre W => (cd = .ret ∧ ¬ (pre.map Vis.pi <+: wk (formOf x).1 0)) ∨ (cd = .exit 0 ∧ W.heap[m]? = some (.cells #[.slice A (partL x 0).length c] 27 (0, 0)) ∧ W.heap[m + 1 + 1]? = some (.cells #[.int .i64 (pre.length : Nat)] 3 (0, 0)) ∧ Below m wP W ∧ (pre.length : Int) = stop + 1))
    ?hI ?hIx ⟨h7, h8, h9, hPI, by simp; omega⟩ ?frm ?assign ?body ?done ?stop (fun W => Keeps.refl W)
  case hI =>
    intro pre U V row hs hg hr
    obtain ⟨i7, i8, i9, iB, il⟩ := hs
    exact ⟨box_stays i7 hg (fun r e => (hr r e).2), box_stays i8 hg (fun r e => (hr r e).2), box_stays i9 hg (fun r e => (hr r e).2), iB.grown hg (by have := blk_lt i7; omega) (fun k e => by have := (hr k e).1; omega), il⟩
  case hIx =>
    intro cd pre U V row hs hg hr
    rcases hs with hs | ⟨e0, i7, i9, iB, il⟩
    · exact .inl hs
    · exact .inr ⟨e0, box_stays i7 hg (fun r e => (hr r e).2), box_stays i9 hg (fun r e => (hr r e).2), iB.grown hg (by have := blk_lt i7; omega) (fun k e => by have := (hr k e).1; omega), il⟩
  case assign =>
    intro l x W K hK
    dsimp only [Vis.enc]
    gi_wp2
    exact hK
  case body =>
    rintro l pre ⟨⟨dd, G, u⟩, hu, hPm⟩ W ⟨i7, i8, i9, iB, il⟩ hlen
    dsimp only at hu hPm
    dsimp only
    have hLN : (partL x 0).length = (wk (formOf x).1 0).length := by rw [← (part_form x ho 0).1, List.length_map]
    obtain ⟨n, hn⟩ : ∃ n, pre.length = n := ⟨_, rfl⟩
    have hnl : n < (partL x 0).length := by omega
    obtain ⟨hat, hfy⟩ := vis_at ho n hnl (by omega)
    obtain ⟨ky1, ky2⟩ := list_mem x 0 (partL x 0)[n] (List.mem_filter.1 (List.getElem_mem hnl)).1 hs
    obtain ⟨g1, g2, g3⟩ := vis_tree ho hs hPm
    have e1 : (fstL (partL x 0)).length = (partL x 0).length := by simp [fstL]
    have e2 : (sndL (partL x 0)).length = (partL x 0).length := by simp [sndL]
    have C7 : k29.C W A (fstL (partL x 0)).length (fstL (partL x 0)) := by rw [e1]; exact (hCP W iB).1
    have C8 : (Kd.int .i64).C W B (sndL (partL x 0)).length (sndL (partL x 0)) := by rw [e2]; exact (hCP W iB).2
    obtain ⟨ad, D2, d2, D8, d8, hA, q0, q1, q2, q3, q4, q5, q6, q7, q8, hRy⟩ := tree_at C7 n (by omega)
    obtain ⟨bd, hBa, qd⟩ := Kd.at_int C8 (n : Int) (by omega) (by omega)
    rw [sndL_at _ _ hnl, Int.toNat_natCast] at qd
    have hy : (fstL (partL x 0))[n]'(by omega) = (partL x 0)[n].1 := by simp [fstL]
    obtain ⟨y, hyy⟩ : ∃ y, (partL x 0)[n].1 = y := ⟨_, rfl⟩
    obtain ⟨dy, hdy⟩ : ∃ dy, (partL x 0)[n].2 = dy := ⟨_, rfl⟩
    rw [hyy] at hy ky1 ky2 hfy hat
    rw [hdy] at hat qd
    rw [hn] at i9 il
    have hvis : ((pre ++ [(⟨(dd, G, u), hu, hPm⟩ : Vis wP (· ∈ wk (formOf x).1 0))]).map Vis.pi <+: wk (formOf x).1 0) → dd = dy ∧ plainF G = canonS y := by
      intro hp
      have := hp.getElem (i := n) (by simp; omega)
      rw [hat] at this
      rw [List.getElem_map, List.getElem_append_right (by omega)] at this
      simp [hn, Vis.pi] at this
      obtain ⟨t1, t2⟩ := this
      exact ⟨t1, by rw [t2]; exact canon_form y hfy⟩
    rw [hy] at q0 q1 q2 q3 q4 q5 q6 q7 q8 hRy
    subst hA hBa
    obtain ⟨j70, j71⟩ := box_of i7
    obtain ⟨j80, j81⟩ := box_of i8
    obtain ⟨j90, j91⟩ := box_of i9
    have hnL : decide ((partL x 0).length ≤ n) = false := decide_eq_false (by omega)
    have hnLi : decide (((partL x 0).length : Int) ≤ (n : Int)) = false := decide_eq_false (by omega)
    have HLN := Lib.hid hLN
    have HVIS := Lib.hid hvis

    have HIL := Lib.hid il
    have hn64 : (n : Int) < 2000 := by omega
    have hL64 : ((partL x 0).length : Int) < 2000 := by omega
    clear hy hvis hat
    clear hLN il hlen
    have hw1 : wrap64 ((n : Int) + 1) = (n : Int) + 1 := wrap_ok (by omega) (by omega)
    have hconv := ar_conv hst0
    have ky3 : sizeS y ≤ 1000000 := by omega
    dsimp only at g1 g2 g3
    have g4 : sizeS (plainF G) ≤ 1000000 := by omega
    have h3lt : w.heap.size + 1 < m := by have := blk_lt hb3; omega
    have hlen1 : ((pre ++ [(⟨(dd, G, u), hu, hPm⟩ : Vis wP (· ∈ wk (formOf x).1 0))]).length : Int) = (n : Int) + 1 := by rw [List.length_append, List.length_singleton, hn]; simp
    have hmW : m ≤ W.heap.size := by have := iB.size; omega
    have HL := Lib.hid hlen1
    have H3 := Lib.hid h3lt
    have HG4 := Lib.hid (And.intro ky3 g4)
    clear hlen1 h3lt ky3 g4
    by_cases hdd : dd = dy
    · subst hdd
      have v70 : W.drew.cell? ⟨m, 0, none⟩ = some (.slice (some ad) (partL x 0).length c) := j70
      have v80 : W.drew.cell? ⟨m + 1, 0, none⟩ = some (.slice (some bd) (partL x 0).length d) := j80
      have v90 : W.drew.cell? ⟨m + 1 + 1, 0, none⟩ = some (.int .i64 n) := j90
      have vqd : W.drew.cell? (bd.add n) = some (.int .i64 dd) := qd
      have huW : IsFm W G u := hu.below (by rw [hm]; exact iB)
      have huD : IsFm W.drew G u := huW.below (below_drew (Below.refl _ _))
      have hRD : ReadR W.drew y D2 d2 D8 d8 := hRy.below (below_drew (Below.refl _ _))
      have x4' : W.heap[w.heap.size + 1 + 1]? = some (.cells #[.bool false] 4 (0, 0)) := blk_below hb4 (by rw [hm]; exact iB)
      have x3 : W.heap[w.heap.size + 1]? = some (.cells #[.int .u8 stop] 5 (0, 0)) := blk_below hb3 (by rw [hm]; exact iB)
      have HQ := Lib.hid (And.intro q0 (And.intro q1 (And.intro q2 (And.intro q3 (And.intro q4 (And.intro q5 (And.intro q6 (And.intro q7 q8))))))))
      clear q0 q1 q2 q3 q4 q5 q6 q7 q8
      gi_wp2
      refine region_round_held (S := fun w' => Below W.drew.heap.size W.drew w') (by kernel_rfl) (noDefer_spec (by kernel_rfl)) ?hno (Below.refl _ _) (fun hHeld => ?_)
      case hno =>
        rintro ⟨a, w, h⟩
        exact h
      refine take_at 0 (v := ?_) rfl rfl (by kernel_rfl) (by kernel_rfl) (by kernel_rfl) (fun _ _ _ h => (show False from h).elim) (Or.inl ⟨by kernel_rfl, ?_⟩) (by assumption) ?_
      rotate_left 1
      · (intro wx hSw; (try dsimp only at hSw); have z9 := pw_cell_below hSw v90; go_simp; try with_reducible rfl)
      simp only [List.setIfInBounds_toArray, List.set_cons_zero, List.set_cons_succ, hnL, hnLi, bne_self_eq_false, Bool.not_false]
      refine take_at 1 (v := ?_) rfl rfl (by kernel_rfl) (by kernel_rfl) (by kernel_rfl) (fun _ _ _ h => (show False from h).elim) (Or.inl ⟨by kernel_rfl, ?_⟩) (by assumption) ?_
      rotate_left 1
      · (intro wx hSw; (try dsimp only at hSw); have z7 := pw_cell_below hSw v70; go_simp; try with_reducible rfl)
      simp only [List.setIfInBounds_toArray, List.set_cons_zero, List.set_cons_succ, hnL, hnLi, bne_self_eq_false, Bool.not_false]
      refine take_at 2 (v := ?_) rfl rfl (by kernel_rfl) (by kernel_rfl) (by kernel_rfl) (fun _ _ _ h => (show False from h).elim) (Or.inl ⟨by kernel_rfl, ?_⟩) (by assumption) ?_
      rotate_left 1
      · (intro wx hSw; (try dsimp only at hSw); go_simp; try with_reducible rfl)
      simp only [List.setIfInBounds_toArray, List.set_cons_zero, List.set_cons_succ, hnL, hnLi, bne_self_eq_false, Bool.not_false]
      refine take_at 3 (v := ?_) rfl rfl (by kernel_rfl) (by kernel_rfl) (by kernel_rfl) (fun _ _ _ h => (show False from h).elim) (Or.inl ⟨by kernel_rfl, ?_⟩) (by assumption) ?_
      rotate_left 1
      · (intro wx hSw; (try dsimp only at hSw); go_simp; try with_reducible rfl)
      simp only [List.setIfInBounds_toArray, List.set_cons_zero, List.set_cons_succ, hnL, hnLi, bne_self_eq_false, Bool.not_false]
      refine take_at 4 (v := ?_) rfl rfl (by kernel_rfl) (by kernel_rfl) (by kernel_rfl) (fun _ _ _ h => (show False from h).elim) (Or.inl ⟨by kernel_rfl, ?_⟩) (by assumption) ?_
      rotate_left 1
      · (intro wx hSw; (try dsimp only at hSw); go_simp; try with_reducible rfl)
      simp only [List.setIfInBounds_toArray, List.set_cons_zero, List.set_cons_succ, hnL, hnLi, bne_self_eq_false, Bool.not_false]
      refine take_at 5 (v := ?_) rfl rfl (by kernel_rfl) (by kernel_rfl) (by kernel_rfl) (fun _ _ _ h => (show False from h).elim) (Or.inl ⟨by kernel_rfl, ?_⟩) (by assumption) ?_
      rotate_left 1
      · (intro wx hSw; (try dsimp only at hSw); go_simp; try with_reducible rfl)
      simp only [List.setIfInBounds_toArray, List.set_cons_zero, List.set_cons_succ, hnL, hnLi, bne_self_eq_false, Bool.not_false]
      refine take_at 6 (v := ?_) rfl rfl (by kernel_rfl) (by kernel_rfl) (by kernel_rfl) (fun _ _ _ h => (show False from h).elim) (Or.inl ⟨by kernel_rfl, ?_⟩) (by assumption) ?_
      rotate_left 1
      · (intro wx hSw; (try dsimp only at hSw); have z8 := pw_cell_below hSw v80; go_simp; try with_reducible rfl)
      simp only [List.setIfInBounds_toArray, List.set_cons_zero, List.set_cons_succ, hnL, hnLi, bne_self_eq_false, Bool.not_false]
      refine take_at 7 (v := ?_) rfl rfl (by kernel_rfl) (by kernel_rfl) (by kernel_rfl) (fun _ _ _ h => (show False from h).elim) (Or.inl ⟨by kernel_rfl, ?_⟩) (by assumption) ?_
      rotate_left 1
      · (intro wx hSw; (try dsimp only at hSw); have z9 := pw_cell_below hSw v90; go_simp; try with_reducible rfl)
      simp only [List.setIfInBounds_toArray, List.set_cons_zero, List.set_cons_succ, hnL, hnLi, bne_self_eq_false, Bool.not_false]
      refine take_at 8 (v := ?_) rfl rfl (by kernel_rfl) (by kernel_rfl) (by kernel_rfl) (fun _ _ _ h => (show False from h).elim) (Or.inl ⟨by kernel_rfl, ?_⟩) (by assumption) ?_
      rotate_left 1
      · (intro wx hSw; (try dsimp only at hSw); go_simp; try with_reducible rfl)
      simp only [List.setIfInBounds_toArray, List.set_cons_zero, List.set_cons_succ, hnL, hnLi, bne_self_eq_false, Bool.not_false]
      refine take_at 9 (v := ?_) rfl rfl (by kernel_rfl) (by kernel_rfl) (by kernel_rfl) (fun _ _ _ h => (show False from h).elim) (Or.inl ⟨by kernel_rfl, ?_⟩) (by assumption) ?_
      rotate_left 1
      · (intro wx hSw; (try dsimp only at hSw); have zq := pw_cell_below hSw vqd; go_simp; try with_reducible rfl)
      simp only [List.setIfInBounds_toArray, List.set_cons_zero, List.set_cons_succ, hnL, hnLi, bne_self_eq_false, Bool.not_false]
      refine take_at 10 (v := ?_) rfl rfl (by kernel_rfl) (by kernel_rfl) (by kernel_rfl) (fun _ _ _ h => (show False from h).elim) (Or.inl ⟨by kernel_rfl, ?_⟩) (by assumption) ?_
      rotate_left 1
      · (intro wx hSw; (try dsimp only at hSw); go_simp; try with_reducible rfl)
      simp only [List.setIfInBounds_toArray, List.set_cons_zero, List.set_cons_succ, hnL, hnLi, bne_self_eq_false, Bool.not_false]
      refine take_at 11 (v := ?_) rfl rfl (by kernel_rfl) (by kernel_rfl) (by kernel_rfl) (fun _ _ _ h => (show False from h).elim) (Or.inl ⟨by kernel_rfl, ?_⟩) (by assumption) ?_
      rotate_left 1
      · (intro wx hSw; (try dsimp only at hSw); go_simp; try with_reducible rfl)
      simp only [List.setIfInBounds_toArray, List.set_cons_zero, List.set_cons_succ, hnL, hnLi, bne_self_eq_false, Bool.not_false]
      refine take_at 12 (v := ?_) rfl rfl (by kernel_rfl) (by kernel_rfl) (by kernel_rfl) (fun _ _ _ h => (show False from h).elim) (Or.inl ⟨by kernel_rfl, ?_⟩) (by assumption) ?_
      rotate_left 1
      · (intro wx hSw; (try dsimp only at hSw); go_simp; try with_reducible rfl)
      simp only [List.setIfInBounds_toArray, List.set_cons_zero, List.set_cons_succ, hnL, hnLi, bne_self_eq_false, Bool.not_false]
      refine take_at 13 (v := ?_) rfl rfl (by kernel_rfl) (by kernel_rfl) (by kernel_rfl) (fun _ _ _ h => (show False from h).elim) (Or.inl ⟨by kernel_rfl, ?_⟩) (by assumption) ?_
      rotate_left 1
      · (intro wx hSw; (try dsimp only at hSw); go_simp; try with_reducible rfl)
      simp only [List.setIfInBounds_toArray, List.set_cons_zero, List.set_cons_succ, hnL, hnLi, bne_self_eq_false, Bool.not_false]
      refine take_at 15 (v := ?_) rfl rfl (by kernel_rfl) (by kernel_rfl) (by kernel_rfl) (fun _ _ _ h => (show False from h).elim) (Or.inl ⟨by kernel_rfl, ?_⟩) (by assumption) ?_
      rotate_left 1
      · (intro wx hSw; (try dsimp only at hSw); have z7 := pw_cell_below hSw v70; go_simp; try with_reducible rfl)
      simp only [List.setIfInBounds_toArray, List.set_cons_zero, List.set_cons_succ, hnL, hnLi, bne_self_eq_false, Bool.not_false]
      refine take_at 16 (v := ?_) rfl rfl (by kernel_rfl) (by kernel_rfl) (by kernel_rfl) (fun _ _ _ h => (show False from h).elim) (Or.inl ⟨by kernel_rfl, ?_⟩) (by assumption) ?_
      rotate_left 1
      · (intro wx hSw; (try dsimp only at hSw); have z9 := pw_cell_below hSw v90; go_simp; try with_reducible rfl)
      simp only [List.setIfInBounds_toArray, List.set_cons_zero, List.set_cons_succ, hnL, hnLi, bne_self_eq_false, Bool.not_false]
      refine take_at 17 (v := ?_) rfl rfl (by kernel_rfl) (by kernel_rfl) (by kernel_rfl) (fun _ _ _ h => (show False from h).elim) (Or.inl ⟨by kernel_rfl, ?_⟩) (by assumption) ?_
      rotate_left 1
      · (intro wx hSw; (try dsimp only at hSw); go_simp; try with_reducible rfl)
      simp only [List.setIfInBounds_toArray, List.set_cons_zero, List.set_cons_succ, hnL, hnLi, bne_self_eq_false, Bool.not_false]
      refine take_at 18 (v := ?_) rfl rfl (by kernel_rfl) (by kernel_rfl) (by kernel_rfl) (fun _ _ _ h => (show False from h).elim) (Or.inl ⟨by kernel_rfl, ?_⟩) (by assumption) ?_
      rotate_left 1
      · (intro wx hSw; (try dsimp only at hSw); obtain ⟨q0, q1, q2, q3, q4, q5, q6, q7, q8⟩ := HQ.out; have z0 := pw_cell_below hSw q0; have z1 := pw_cell_below hSw q1; have z2 := pw_cell_below hSw q2; have z3 := pw_cell_below hSw q3; have z4 := pw_cell_below hSw q4; have z5 := pw_cell_below hSw q5; have z6 := pw_cell_below hSw q6; have z7 := pw_cell_below hSw q7; have z8 := pw_cell_below hSw q8; go_simp; try with_reducible rfl)
      simp only [List.setIfInBounds_toArray, List.set_cons_zero, List.set_cons_succ, hnL, hnLi, bne_self_eq_false, Bool.not_false]
      refine wpAnyH_ready (rs := [14]) (by kernel_rfl) (by simp) ?_
      refine cons_at 14 rfl (by kernel_rfl) (fun K hK => ?_) AllReadyH.nil
      · go_simp
        go_at_call 24; refine (plainF_any G u _ g1 huD).mono ?_; dsimp only [treeV]; rintro e w5 ⟨v2, v8, rfl, hT5, hB5⟩; obtain ⟨E2, e2, E8, e8, rfl, rfl, -⟩ := hT5.forms
        refine hK.out _ _ ?S (fun hHeld5 => ?_)
        case S => exact hB5
        clear hK hHeld
        try simp only [Act.put, List.setIfInBounds_toArray, List.set_cons_zero, List.set_cons_succ]
        refine wpAnyH_ready (rs := [19]) (by kernel_rfl) (by simp) ?_
        refine cons_at 19 rfl (by kernel_rfl) (fun K hK => ?_) AllReadyH.nil
        go_simp
        go_at_call 22; refine (canon_any (hRD.below hB5) ky1 HG4.out.1).mono ?_; dsimp only [treeV]; rintro e w6 ⟨u2, u8, rfl, hT6, hB6⟩; obtain ⟨F2, f2, F8, f8, rfl, rfl, -⟩ := hT6.forms
        have hB56 := belowU hB5 hB6
        refine hK.out _ _ ?S (fun hHeld6 => ?_)
        case S => exact hB56
        clear hK hHeld5
        try simp only [Act.put, List.setIfInBounds_toArray, List.set_cons_zero, List.set_cons_succ]
        refine wpAnyH_ready (rs := [20]) (by kernel_rfl) (by simp) ?_
        refine cons_at 20 rfl (by kernel_rfl) (fun K hK => ?_) AllReadyH.nil
        obtain ⟨r, hr, hcall⟩ := same_any (hT5.below hB6).read hT6.read g2 HG4.out.2
        have HR := Lib.hid hr
        clear hr hT5 hT6
        go_simp
        go_at_call 20; refine hcall.mono ?_; clear hcall; rintro e w7 ⟨rfl, hB7⟩
        have hBl := belowU hB56 hB7
        refine hK.out _ _ ?S (fun hHeld7 => ?_)
        case S => exact hBl
        clear hK hHeld6
        try simp only [Act.put, List.setIfInBounds_toArray, List.set_cons_zero, List.set_cons_succ]
        refine take_at 21 (v := ?_) rfl rfl (by kernel_rfl) (by kernel_rfl) (by kernel_rfl) (fun _ _ _ h => (show False from h).elim) (Or.inl ⟨by kernel_rfl, ?_⟩) (by assumption) ?_
        rotate_left 1
        · (intro wx hSw; (try dsimp only at hSw); go_simp; try with_reducible rfl)
        simp only [List.setIfInBounds_toArray, List.set_cons_zero, List.set_cons_succ, Bool.not_false]
        refine take_at 22 (v := ?_) rfl rfl (by kernel_rfl) (by kernel_rfl) (by kernel_rfl) (fun _ _ _ h => (show False from h).elim) (Or.inl ⟨by kernel_rfl, ?_⟩) (by assumption) ?_
        rotate_left 1
        · (intro wx hSw; (try dsimp only at hSw); go_simp; try with_reducible rfl)
        simp only [List.setIfInBounds_toArray, List.set_cons_zero, List.set_cons_succ, Bool.not_false]
        refine wpAnyH_done (by kernel_rfl) ?_ _
        have hBW7 : Below W.heap.size W w7 := belowU (below_drew (Below.refl _ W)) hBl
        clear hHeld7 j70 j71 j80 j81 j90 j91 v70 v80 v90 vqd HQ qd C7 C8 hRy hRD huD huW hB5 hB6 hB56 hB7 hBl hnL hnLi
        cases r with
        | false =>
          simp only [Bool.not_false]
          obtain ⟨x40, x41⟩ := box_of (blk_below x4' hBW7)
          gi_wp2
          exact ⟨((KeepsC.of_below hBW7).ko.trans (KeepsOthers.setCell _ _ _)).from _, .inl ⟨rfl, fun hp => Bool.false_ne_true (HR.out.2 (HVIS.out hp).2)⟩⟩
        | true =>
          simp only [Bool.not_true]
          have k7 := blk_below i7 hBW7
          have k8 := blk_below i8 hBW7
          have k9 := blk_below i9 hBW7
          have k3 := blk_below x3 hBW7
          obtain ⟨x90, x91⟩ := box_of k9
          obtain ⟨x30, x31⟩ := box_of k3
          have p9 := one_put k9 (.int .i64 ((n : Int) + 1))
          have p7 := (Below.heap_setCell w7 ⟨m + 1 + 1, 0, none⟩ (.int .i64 ((n : Int) + 1)) m (ar_ne2 m)).trans k7
          have p8 := (Below.heap_setCell w7 ⟨m + 1 + 1, 0, none⟩ (.int .i64 ((n : Int) + 1)) (m + 1) (ar_ne12 m)).trans k8
          have p3 := (Below.heap_setCell w7 ⟨m + 1 + 1, 0, none⟩ (.int .i64 ((n : Int) + 1)) (w.heap.size + 1) (ar_ne3 H3.out)).trans k3
          obtain ⟨y30, y31⟩ := box_of p3
          obtain ⟨y90, y91⟩ := box_of p9
          have pB : Below m wP (w7.setCell ⟨m + 1 + 1, 0, none⟩ (.int .i64 ((n : Int) + 1))) := (iB.trans (hBW7.mono hmW)).setCell (p := ⟨m + 1 + 1, 0, none⟩) (ar_le2 m) _
          have pK : Keeps W (w7.setCell ⟨m + 1 + 1, 0, none⟩ (.int .i64 ((n : Int) + 1))) := (Keeps.of_below hBW7).trans (Keeps.setCell k9 (by simp [boxT]) 0 _)
          have pO : KeepsOthers W (w7.setCell ⟨m + 1 + 1, 0, none⟩ (.int .i64 ((n : Int) + 1))) := (KeepsC.of_below hBW7).ko.trans (KeepsOthers.setCell _ _ _)
          have HX := Lib.hid (And.intro pO (And.intro pK (And.intro p7 (And.intro p8 (And.intro p9 pB)))))
          clear pO pK p7 p8 p9 pB p3 k7 k8 k9 k3 x30 x31 hbS hb4 hb3 hCP hT iB i7 i8 i9 x4' x3 h7 h8 h9 h43 hPI hBW7 hRS hR hBw hmf hu29 hwS hn64 hL64 hnl hst0 hsz hWq hlc hld hz g3 e1 ky2 hyy hdy hm hn hmW
          by_cases hst : stop < (n : Int) + 1
          · have hd1 : decide (stop < (n : Int) + 1) = true := decide_eq_true hst
            gi_wp2
            obtain ⟨pO, pK, p7, p8, p9, pB⟩ := HX.out
            exact ⟨pO.from _, .inr ⟨rfl, p7, by rw [HL.out]; exact p9, pB, by rw [HL.out]; exact ar_last HIL.out hst⟩⟩
          · have hd1 : decide (stop < (n : Int) + 1) = false := decide_eq_false hst
            gi_wp2
            obtain ⟨pO, pK, p7, p8, p9, pB⟩ := HX.out
            exact ⟨pO.from _, pK, p7, p8, by rw [HL.out]; exact p9, pB, by rw [HL.out]; exact hst⟩
    · have hne1 : (dd == dy) = false := beq_eq_false_iff_ne.2 hdd
      have hne2 : (dd != dy) = true := by simp [bne, hne1]
      have v70 : W.drew.cell? ⟨m, 0, none⟩ = some (.slice (some ad) (partL x 0).length c) := j70
      have v80 : W.drew.cell? ⟨m + 1, 0, none⟩ = some (.slice (some bd) (partL x 0).length d) := j80
      have v90 : W.drew.cell? ⟨m + 1 + 1, 0, none⟩ = some (.int .i64 n) := j90
      have vqd : W.drew.cell? (bd.add n) = some (.int .i64 dy) := qd
      gi_wp2
      refine region_round_held (S := fun w' => w'.cell? ⟨m, 0, none⟩ = some (.slice (some ad) (partL x 0).length c) ∧ w'.cell? ⟨m + 1, 0, none⟩ = some (.slice (some bd) (partL x 0).length d) ∧ w'.cell? ⟨m + 1 + 1, 0, none⟩ = some (.int .i64 n) ∧ w'.cell? (bd.add n) = some (.int .i64 dy)) (by kernel_rfl) (noDefer_spec (by kernel_rfl)) ?hno ⟨v70, v80, v90, vqd⟩ (fun hHeld => ?_)
      case hno =>
        rintro ⟨a, w, h⟩
        exact h
      refine take_at 0 (v := ?_) rfl rfl (by kernel_rfl) (by kernel_rfl) (by kernel_rfl) (fun _ _ _ h => (show False from h).elim) (Or.inl ⟨by kernel_rfl, ?_⟩) (by assumption) ?_
      rotate_left 1
      · (intro wx hSw; (try dsimp only at hSw); go_simp; try with_reducible rfl)
      simp only [List.setIfInBounds_toArray, List.set_cons_zero, List.set_cons_succ, hnL, hnLi, hne1, hne2, Bool.not_false]
      refine take_at 1 (v := ?_) rfl rfl (by kernel_rfl) (by kernel_rfl) (by kernel_rfl) (fun _ _ _ h => (show False from h).elim) (Or.inl ⟨by kernel_rfl, ?_⟩) (by assumption) ?_
      rotate_left 1
      · (intro wx hSw; (try dsimp only at hSw); go_simp; try with_reducible rfl)
      simp only [List.setIfInBounds_toArray, List.set_cons_zero, List.set_cons_succ, hnL, hnLi, hne1, hne2, Bool.not_false]
      refine take_at 2 (v := ?_) rfl rfl (by kernel_rfl) (by kernel_rfl) (by kernel_rfl) (fun _ _ _ h => (show False from h).elim) (Or.inl ⟨by kernel_rfl, ?_⟩) (by assumption) ?_
      rotate_left 1
      · (intro wx hSw; (try dsimp only at hSw); go_simp; try with_reducible rfl)
      simp only [List.setIfInBounds_toArray, List.set_cons_zero, List.set_cons_succ, hnL, hnLi, hne1, hne2, Bool.not_false]
      refine take_at 3 (v := ?_) rfl rfl (by kernel_rfl) (by kernel_rfl) (by kernel_rfl) (fun _ _ _ h => (show False from h).elim) (Or.inl ⟨by kernel_rfl, ?_⟩) (by assumption) ?_
      rotate_left 1
      · (intro wx hSw; (try dsimp only at hSw); go_simp; try with_reducible rfl)
      simp only [List.setIfInBounds_toArray, List.set_cons_zero, List.set_cons_succ, hnL, hnLi, hne1, hne2, Bool.not_false]
      refine take_at 4 (v := ?_) rfl rfl (by kernel_rfl) (by kernel_rfl) (by kernel_rfl) (fun _ _ _ h => (show False from h).elim) (Or.inl ⟨by kernel_rfl, ?_⟩) (by assumption) ?_
      rotate_left 1
      · (intro wx hSw; (try dsimp only at hSw); go_simp; try with_reducible rfl)
      simp only [List.setIfInBounds_toArray, List.set_cons_zero, List.set_cons_succ, hnL, hnLi, hne1, hne2, Bool.not_false]
      refine take_at 5 (v := ?_) rfl rfl (by kernel_rfl) (by kernel_rfl) (by kernel_rfl) (fun _ _ _ h => (show False from h).elim) (Or.inl ⟨by kernel_rfl, ?_⟩) (by assumption) ?_
      rotate_left 1
      · (intro wx hSw; (try dsimp only at hSw); go_simp; try with_reducible rfl)
      simp only [List.setIfInBounds_toArray, List.set_cons_zero, List.set_cons_succ, hnL, hnLi, hne1, hne2, Bool.not_false]
      refine take_at 6 (v := ?_) rfl rfl (by kernel_rfl) (by kernel_rfl) (by kernel_rfl) (fun _ _ _ h => (show False from h).elim) (Or.inl ⟨by kernel_rfl, ?_⟩) (by assumption) ?_
      rotate_left 1
      · (intro wx hSw; (try dsimp only at hSw); go_simp; try with_reducible rfl)
      simp only [List.setIfInBounds_toArray, List.set_cons_zero, List.set_cons_succ, hnL, hnLi, hne1, hne2, Bool.not_false]
      refine take_at 7 (v := ?_) rfl rfl (by kernel_rfl) (by kernel_rfl) (by kernel_rfl) (fun _ _ _ h => (show False from h).elim) (Or.inl ⟨by kernel_rfl, ?_⟩) (by assumption) ?_
      rotate_left 1
      · (intro wx hSw; (try dsimp only at hSw); go_simp; try with_reducible rfl)
      simp only [List.setIfInBounds_toArray, List.set_cons_zero, List.set_cons_succ, hnL, hnLi, hne1, hne2, Bool.not_false]
      refine take_at 8 (v := ?_) rfl rfl (by kernel_rfl) (by kernel_rfl) (by kernel_rfl) (fun _ _ _ h => (show False from h).elim) (Or.inl ⟨by kernel_rfl, ?_⟩) (by assumption) ?_
      rotate_left 1
      · (intro wx hSw; (try dsimp only at hSw); go_simp; try with_reducible rfl)
      simp only [List.setIfInBounds_toArray, List.set_cons_zero, List.set_cons_succ, hnL, hnLi, hne1, hne2, Bool.not_false]
      refine take_at 9 (v := ?_) rfl rfl (by kernel_rfl) (by kernel_rfl) (by kernel_rfl) (fun _ _ _ h => (show False from h).elim) (Or.inl ⟨by kernel_rfl, ?_⟩) (by assumption) ?_
      rotate_left 1
      · (intro wx hSw; (try dsimp only at hSw); go_simp; try with_reducible rfl)
      simp only [List.setIfInBounds_toArray, List.set_cons_zero, List.set_cons_succ, hnL, hnLi, hne1, hne2, Bool.not_false]
      refine take_at 10 (v := ?_) rfl rfl (by kernel_rfl) (by kernel_rfl) (by kernel_rfl) (fun _ _ _ h => (show False from h).elim) (Or.inl ⟨by kernel_rfl, ?_⟩) (by assumption) ?_
      rotate_left 1
      · (intro wx hSw; (try dsimp only at hSw); go_simp; try with_reducible rfl)
      simp only [List.setIfInBounds_toArray, List.set_cons_zero, List.set_cons_succ, hnL, hnLi, hne1, hne2, Bool.not_false]
      refine take_at 11 (v := ?_) rfl rfl (by kernel_rfl) (by kernel_rfl) (by kernel_rfl) (fun _ _ _ h => (show False from h).elim) (Or.inl ⟨by kernel_rfl, ?_⟩) (by assumption) ?_
      rotate_left 1
      · (intro wx hSw; (try dsimp only at hSw); go_simp; try with_reducible rfl)
      simp only [List.setIfInBounds_toArray, List.set_cons_zero, List.set_cons_succ, hnL, hnLi, hne1, hne2, Bool.not_false]
      refine take_at 12 (v := ?_) rfl rfl (by kernel_rfl) (by kernel_rfl) (by kernel_rfl) (fun _ _ _ h => (show False from h).elim) (Or.inl ⟨by kernel_rfl, ?_⟩) (by assumption) ?_
      rotate_left 1
      · (intro wx hSw; (try dsimp only at hSw); go_simp; try with_reducible rfl)
      simp only [List.setIfInBounds_toArray, List.set_cons_zero, List.set_cons_succ, hnL, hnLi, hne1, hne2, Bool.not_false]
      refine take_at 13 (v := undef) rfl rfl (by kernel_rfl) (by kernel_rfl) (by kernel_rfl) (fun _ _ _ h => (show False from h).elim) (Or.inr ⟨by kernel_rfl, rfl⟩) (by assumption) ?_
      simp only [List.setIfInBounds_toArray, List.set_cons_zero, List.set_cons_succ, hnL, hnLi, hne1, hne2, Bool.not_false]
      refine take_at 14 (v := undef) rfl rfl (by kernel_rfl) (by kernel_rfl) (by kernel_rfl) (fun _ _ _ h => (show False from h).elim) (Or.inr ⟨by kernel_rfl, rfl⟩) (by assumption) ?_
      simp only [List.setIfInBounds_toArray, List.set_cons_zero, List.set_cons_succ, hnL, hnLi, hne1, hne2, Bool.not_false]
      refine take_at 15 (v := undef) rfl rfl (by kernel_rfl) (by kernel_rfl) (by kernel_rfl) (fun _ _ _ h => (show False from h).elim) (Or.inr ⟨by kernel_rfl, rfl⟩) (by assumption) ?_
      simp only [List.setIfInBounds_toArray, List.set_cons_zero, List.set_cons_succ, hnL, hnLi, hne1, hne2, Bool.not_false]
      refine take_at 16 (v := undef) rfl rfl (by kernel_rfl) (by kernel_rfl) (by kernel_rfl) (fun _ _ _ h => (show False from h).elim) (Or.inr ⟨by kernel_rfl, rfl⟩) (by assumption) ?_
      simp only [List.setIfInBounds_toArray, List.set_cons_zero, List.set_cons_succ, hnL, hnLi, hne1, hne2, Bool.not_false]
      refine take_at 17 (v := undef) rfl rfl (by kernel_rfl) (by kernel_rfl) (by kernel_rfl) (fun _ _ _ h => (show False from h).elim) (Or.inr ⟨by kernel_rfl, rfl⟩) (by assumption) ?_
      simp only [List.setIfInBounds_toArray, List.set_cons_zero, List.set_cons_succ, hnL, hnLi, hne1, hne2, Bool.not_false]
      refine take_at 18 (v := undef) rfl rfl (by kernel_rfl) (by kernel_rfl) (by kernel_rfl) (fun _ _ _ h => (show False from h).elim) (Or.inr ⟨by kernel_rfl, rfl⟩) (by assumption) ?_
      simp only [List.setIfInBounds_toArray, List.set_cons_zero, List.set_cons_succ, hnL, hnLi, hne1, hne2, Bool.not_false]
      refine take_at 19 (v := undef) rfl rfl (by kernel_rfl) (by kernel_rfl) (by kernel_rfl) (fun _ _ _ h => (show False from h).elim) (Or.inr ⟨by kernel_rfl, rfl⟩) (by assumption) ?_
      simp only [List.setIfInBounds_toArray, List.set_cons_zero, List.set_cons_succ, hnL, hnLi, hne1, hne2, Bool.not_false]
      refine take_at 20 (v := undef) rfl rfl (by kernel_rfl) (by kernel_rfl) (by kernel_rfl) (fun _ _ _ h => (show False from h).elim) (Or.inr ⟨by kernel_rfl, rfl⟩) (by assumption) ?_
      simp only [List.setIfInBounds_toArray, List.set_cons_zero, List.set_cons_succ, hnL, hnLi, hne1, hne2, Bool.not_false]
      refine take_at 21 (v := undef) rfl rfl (by kernel_rfl) (by kernel_rfl) (by kernel_rfl) (fun _ _ _ h => (show False from h).elim) (Or.inr ⟨by kernel_rfl, rfl⟩) (by assumption) ?_
      simp only [List.setIfInBounds_toArray, List.set_cons_zero, List.set_cons_succ, hnL, hnLi, hne1, hne2, Bool.not_false]
      refine take_at 22 (v := ?_) rfl rfl (by kernel_rfl) (by kernel_rfl) (by kernel_rfl) (fun _ _ _ h => (show False from h).elim) (Or.inl ⟨by kernel_rfl, ?_⟩) (by assumption) ?_
      rotate_left 1
      · (intro wx hSw; (try dsimp only at hSw); go_simp; try with_reducible rfl)
      simp only [List.setIfInBounds_toArray, List.set_cons_zero, List.set_cons_succ, hnL, hnLi, hne1, hne2, Bool.not_false]
      refine wpAnyH_done (by kernel_rfl) ?_ _
      have x4' : W.heap[w.heap.size + 1 + 1]? = some (.cells #[.bool false] 4 (0, 0)) := blk_below hb4 (by rw [hm]; exact iB)
      obtain ⟨y40, y41⟩ := box_of x4'
      have x40 : W.drew.cell? ⟨w.heap.size + 1 + 1, 0, none⟩ = some (.bool false) := y40
      have x41 : W.drew.frozen? ⟨w.heap.size + 1 + 1, 0, none⟩ = false := y41
      gi_wp2
      exact ⟨((KeepsOthers.setCell _ _ _).trans (KeepsC.of_below (below_drew (Below.refl _ _))).ko).from _, .inl ⟨rfl, fun hp => hdd (HVIS.out hp).1⟩⟩
  case done =>
    rintro D ys W hD hys ⟨i7, i8, i9, iB, il⟩ hKD
    obtain ⟨N, hNN⟩ : ∃ N, ys.length = N := ⟨_, rfl⟩
    rw [hNN] at i9 il
    have hN : (N : Int) ≤ (partL x 0).length ∧ (N : Int) ≤ stop + 1 ∧ ((N : Int) = (partL x 0).length ∨ (N : Int) = stop + 1) := by
      have h1 := congrArg List.length hys
      have h2 := congrArg List.length (part_form x ho 0).1
      rw [List.length_map] at h1 h2
      omega
    have hconv := ar_conv hst0
    have hw1 : wrap64 (stop + 1) = stop + 1 := wrap_ok (by omega) (by omega)
    have hcI : IntKind.i64.wrap stop = stop := (i64_w _).trans hconv
    have hwI : IntKind.i64.wrap (stop + 1) = stop + 1 := (i64_w _).trans hw1
    have hmin : min ((partL x 0).length : Int) (stop + 1) = (N : Int) := by omega
    have hmin2 : (if (stop + 1) < ((partL x 0).length : Int) then stop + 1 else ((partL x 0).length : Int)) = (N : Int) := by split <;> omega
    have hWD : Below wP.heap.size wP W := by rw [hm]; exact iB
    have hTW : IsFm W.drew (formOf x).1 (.iface ta ty) := (hT.below hWD).drew
    have hRW : ReadR W.drew x A2 c2 A8 c8 := (hRS.below hWD).below (below_drew (Below.refl _ _))
    have hx3 := blk_below hb3 hWD
    have hx4 := blk_below hb4 hWD
    have hxS := blk_below hbS hWD
    have hmW : m ≤ W.heap.size := by have := iB.size; omega
    have h2m : w.heap.size + 1 + 1 < m := by have := blk_lt hb4; omega
    have v7 : W.drew.cell? ⟨m, 0, none⟩ = some (.slice A (partL x 0).length c) := (box_of i7).1
    have v9 : W.drew.cell? ⟨m + 1 + 1, 0, none⟩ = some (.int .i64 N) := (box_of i9).1
    have v3 : W.drew.cell? ⟨w.heap.size + 1, 0, none⟩ = some (.int .u8 stop) := (box_of hx3).1
    have n7 : m ≠ w.heap.size + 1 + 1 := by omega
    have n9 : m + 1 + 1 ≠ w.heap.size + 1 + 1 := by omega
    have n3 : w.heap.size + 1 ≠ w.heap.size + 1 + 1 := by omega
    have nS : w.heap.size ≠ w.heap.size + 1 + 1 := by omega
    have hk1 : w.heap.size ≤ W.drew.heap.size := by show w.heap.size ≤ W.heap.size; omega
    have hk2 : w.heap.size ≤ w.heap.size + 1 + 1 := by omega
    have hsz2 : sizeS x ≤ 1000000 := by omega
    have hWq2 : (wk (formOf x).1 0).length ≤ 1000000 := by omega
    have hL64 : ((partL x 0).length : Int) < 2000 := by have := wk_size x ho 0; have := (part_form x ho 0).1; have := congrArg List.length this; rw [List.length_map] at this; omega
    obtain ⟨t0, t1, t2, t3, t4, t5, t6, t7, t8, tf⟩ := nine_cells hxS
    have HT := Lib.hid (And.intro t0 (And.intro t1 (And.intro t2 (And.intro t3 (And.intro t4 (And.intro t5 (And.intro t6 (And.intro t7 t8))))))))
    have HC := Lib.hid (And.intro v7 (And.intro v9 v3))
    have HN := Lib.hid (And.intro n7 (And.intro n9 (And.intro n3 nS)))
    have HK := Lib.hid (And.intro hk1 (And.intro hk2 (And.intro hsz2 hWq2)))
    have hiB := Lib.hid iB
    have HWm := Lib.hid hmW
    have HDm : D ≠ w.heap.size + 1 + 1 ∧ w.heap.size ≤ D := by omega
    have HDm := Lib.hid HDm
    have hBwW : Below w.heap.size w W := belowU hBw hWD
    have HBW := Lib.hid hBwW
    have HX4 := Lib.hid hx4
    obtain ⟨na, hna⟩ : ∃ na, cntA ((wk (formOf x).1 0).map Prod.snd) = na := ⟨_, rfl⟩
    obtain ⟨nn, hnn⟩ : ∃ nn, cntN ((wk (formOf x).1 0).map Prod.snd) = nn := ⟨_, rfl⟩
    have HNA := Lib.hid (And.intro hna hnn)
    clear hna hnn
    clear t0 t1 t2 t3 t4 t5 t6 t7 t8 tf v7 v9 v3 n7 n9 n3 nS hk1 hk2 hsz2 hWq2 iB hmW hBwW hN HSZ hsz hWq hL64 h2m hst0 i7 i9 hx3 hxS hWD hCP hb3 hb4 hbS hRS hT hz h7 h8 h9 h43 hPI hR hBw hs hrt hlc hld hx4
    gi_wp2
    refine region_wide_calm (S := CellsBut (w.heap.size + 1 + 1) w.heap.size W.drew) (by kernel_rfl) (CellsBut.refl _ _ _) (fun hHeld => ?_)
    refine take_at 0 (v := ?_) rfl rfl (by kernel_rfl) (by kernel_rfl) (by kernel_rfl) (fun _ _ _ h => (show False from h).elim) (Or.inl ⟨by kernel_rfl, ?_⟩) (by assumption) ?_
    rotate_left 1
    · (intro wx hSw; (try dsimp only at hSw); have z9 := hSw.1 _ HN.out.2.1 _ HC.out.2.1; go_simp; try with_reducible rfl)
    simp only [List.setIfInBounds_toArray, List.set_cons_zero, List.set_cons_succ, hcI, hwI, hmin, hmin2, hw1, hconv, beq_self_eq_true, Bool.not_false]
    refine take_at 1 (v := ?_) rfl rfl (by kernel_rfl) (by kernel_rfl) (by kernel_rfl) (fun _ _ _ h => (show False from h).elim) (Or.inl ⟨by kernel_rfl, ?_⟩) (by assumption) ?_
    rotate_left 1
    · (intro wx hSw; (try dsimp only at hSw); have z7 := hSw.1 _ HN.out.1 _ HC.out.1; go_simp; try with_reducible rfl)
    simp only [List.setIfInBounds_toArray, List.set_cons_zero, List.set_cons_succ, hcI, hwI, hmin, hmin2, hw1, hconv, beq_self_eq_true, Bool.not_false]
    refine take_at 2 (v := ?_) rfl rfl (by kernel_rfl) (by kernel_rfl) (by kernel_rfl) (fun _ _ _ h => (show False from h).elim) (Or.inl ⟨by kernel_rfl, ?_⟩) (by assumption) ?_
    rotate_left 1
    · (intro wx hSw; (try dsimp only at hSw); go_simp; try with_reducible rfl)
    simp only [List.setIfInBounds_toArray, List.set_cons_zero, List.set_cons_succ, hcI, hwI, hmin, hmin2, hw1, hconv, beq_self_eq_true, Bool.not_false]
    refine take_at 3 (v := ?_) rfl rfl (by kernel_rfl) (by kernel_rfl) (by kernel_rfl) (fun _ _ _ h => (show False from h).elim) (Or.inl ⟨by kernel_rfl, ?_⟩) (by assumption) ?_
    rotate_left 1
    · (intro wx hSw; (try dsimp only at hSw); have z3 := hSw.1 _ HN.out.2.2.1 _ HC.out.2.2; go_simp; try with_reducible rfl)
    simp only [List.setIfInBounds_toArray, List.set_cons_zero, List.set_cons_succ, hcI, hwI, hmin, hmin2, hw1, hconv, beq_self_eq_true, Bool.not_false]
    refine take_at 4 (v := ?_) rfl rfl (by kernel_rfl) (by kernel_rfl) (by kernel_rfl) (fun _ _ _ h => (show False from h).elim) (Or.inl ⟨by kernel_rfl, ?_⟩) (by assumption) ?_
    rotate_left 1
    · (intro wx hSw; (try dsimp only at hSw); go_simp; try with_reducible rfl)
    simp only [List.setIfInBounds_toArray, List.set_cons_zero, List.set_cons_succ, hcI, hwI, hmin, hmin2, hw1, hconv, beq_self_eq_true, Bool.not_false]
    refine take_at 5 (v := ?_) rfl rfl (by kernel_rfl) (by kernel_rfl) (by kernel_rfl) (fun _ _ _ h => (show False from h).elim) (Or.inl ⟨by kernel_rfl, ?_⟩) (by assumption) ?_
    rotate_left 1
    · (intro wx hSw; (try dsimp only at hSw); go_simp; try with_reducible rfl)
    simp only [List.setIfInBounds_toArray, List.set_cons_zero, List.set_cons_succ, hcI, hwI, hmin, hmin2, hw1, hconv, beq_self_eq_true, Bool.not_false]
    refine take_at 6 (v := ?_) rfl rfl (by kernel_rfl) (by kernel_rfl) (by kernel_rfl) (fun _ _ _ h => (show False from h).elim) (Or.inl ⟨by kernel_rfl, ?_⟩) (by assumption) ?_
    rotate_left 1
    · (intro wx hSw; (try dsimp only at hSw); go_simp; try with_reducible rfl)
    simp only [List.setIfInBounds_toArray, List.set_cons_zero, List.set_cons_succ, hcI, hwI, hmin, hmin2, hw1, hconv, beq_self_eq_true, Bool.not_false]
    refine take_at 7 (v := ?_) rfl rfl (by kernel_rfl) (by kernel_rfl) (by kernel_rfl) (fun _ _ _ h => (show False from h).elim) (Or.inl ⟨by kernel_rfl, ?_⟩) (by assumption) ?_
    rotate_left 1
    · (intro wx hSw; (try dsimp only at hSw); go_simp; try with_reducible rfl)
    simp only [List.setIfInBounds_toArray, List.set_cons_zero, List.set_cons_succ, hcI, hwI, hmin, hmin2, hw1, hconv, beq_self_eq_true, Bool.not_false]
    refine take_at 8 (v := ?_) rfl rfl (by kernel_rfl) (by kernel_rfl) (by kernel_rfl) (fun _ _ _ h => (show False from h).elim) (Or.inl ⟨by kernel_rfl, ?_⟩) (by assumption) ?_
    rotate_left 1
    · (intro wx hSw; (try dsimp only at hSw); go_simp; try with_reducible rfl)
    simp only [List.setIfInBounds_toArray, List.set_cons_zero, List.set_cons_succ, hcI, hwI, hmin, hmin2, hw1, hconv, beq_self_eq_true, Bool.not_false]
    refine take_at 9 (v := ?_) rfl rfl (by kernel_rfl) (by kernel_rfl) (by kernel_rfl) (fun _ _ _ h => (show False from h).elim) (Or.inl ⟨by kernel_rfl, ?_⟩) (by assumption) ?_
    rotate_left 1
    · (intro wx hSw; (try dsimp only at hSw); go_simp; try with_reducible rfl)
    simp only [List.setIfInBounds_toArray, List.set_cons_zero, List.set_cons_succ, hcI, hwI, hmin, hmin2, hw1, hconv, beq_self_eq_true, Bool.not_false]
    refine take_at 11 (v := ?_) rfl rfl (by kernel_rfl) (by kernel_rfl) (by kernel_rfl) (fun _ _ _ h => (show False from h).elim) (Or.inl ⟨by kernel_rfl, ?_⟩) (by assumption) ?_
    rotate_left 1
    · (intro wx hSw; (try dsimp only at hSw); obtain ⟨t0, t1, t2, t3, t4, t5, t6, t7, t8⟩ := HT.out; have z0 := hSw.1 ⟨w.heap.size, 0, none⟩ HN.out.2.2.2 _ t0; have z1 := hSw.1 ⟨w.heap.size, 1, none⟩ HN.out.2.2.2 _ t1; have z2 := hSw.1 ⟨w.heap.size, 2, none⟩ HN.out.2.2.2 _ t2; have z3 := hSw.1 ⟨w.heap.size, 3, none⟩ HN.out.2.2.2 _ t3; have z4 := hSw.1 ⟨w.heap.size, 4, none⟩ HN.out.2.2.2 _ t4; have z5 := hSw.1 ⟨w.heap.size, 5, none⟩ HN.out.2.2.2 _ t5; have z6 := hSw.1 ⟨w.heap.size, 6, none⟩ HN.out.2.2.2 _ t6; have z7 := hSw.1 ⟨w.heap.size, 7, none⟩ HN.out.2.2.2 _ t7; have z8 := hSw.1 ⟨w.heap.size, 8, none⟩ HN.out.2.2.2 _ t8; go_simp; try with_reducible rfl)
    simp only [List.setIfInBounds_toArray, List.set_cons_zero, List.set_cons_succ, hcI, hwI, hmin, hmin2, hw1, hconv, beq_self_eq_true, Bool.not_false]
    refine wpAnyH_ready (rs := [10]) (by kernel_rfl) (by simp) ?_
    refine cons_at 10 rfl (by kernel_rfl) (fun K hK => ?_) AllReadyH.nil
    go_simp
    go_at_call 33; refine (atoms_any _ _ _ _ (Below.refl _ _) hTW HK.out.2.2.2).mono ?_; rw [HNA.out.1]; rintro e y1 ⟨rfl, hC1⟩
    have hD1 := hC1
    refine hK.out _ _ ?S (fun hHeld1 => ?_)
    case S => exact CellsBut.of HK.out.1 hD1
    clear hK hHeld
    try simp only [Act.put, List.setIfInBounds_toArray, List.set_cons_zero, List.set_cons_succ]
    refine wpAnyH_ready (rs := [12]) (by kernel_rfl) (by simp) ?_
    refine cons_at 12 rfl (by kernel_rfl) (fun K hK => ?_) AllReadyH.nil
    go_simp
    go_at_call 34; refine (refAtoms_any (hRW.below hD1) HK.out.2.2.1 ho).mono ?_; rw [HNA.out.1]; rintro e y2 ⟨rfl, hC2⟩
    have hD2 := belowU hD1 hC2
    refine hK.out _ _ ?S (fun hHeld2 => ?_)
    case S => exact CellsBut.of HK.out.1 hD2
    clear hK hHeld1
    try simp only [Act.put, List.setIfInBounds_toArray, List.set_cons_zero, List.set_cons_succ]
    refine take_at 13 (v := ?_) rfl rfl (by kernel_rfl) (by kernel_rfl) (by kernel_rfl) (fun _ _ _ h => (show False from h).elim) (Or.inl ⟨by kernel_rfl, ?_⟩) (by assumption) ?_
    rotate_left 1
    · (intro wx hSw; (try dsimp only at hSw); go_simp; try with_reducible rfl)
    simp only [List.setIfInBounds_toArray, List.set_cons_zero, List.set_cons_succ, hcI, hwI, hmin, hmin2, hw1, hconv, beq_self_eq_true, Bool.not_false]
    refine take_at 14 (v := ?_) rfl rfl (by kernel_rfl) (by kernel_rfl) (by kernel_rfl) (fun _ _ _ h => (show False from h).elim) (Or.inl ⟨by kernel_rfl, ?_⟩) (by assumption) ?_
    rotate_left 1
    · (intro wx hSw; (try dsimp only at hSw); go_simp; try with_reducible rfl)
    simp only [List.setIfInBounds_toArray, List.set_cons_zero, List.set_cons_succ, hcI, hwI, hmin, hmin2, hw1, hconv, beq_self_eq_true, Bool.not_false]
    refine take_at 15 (v := ?_) rfl rfl (by kernel_rfl) (by kernel_rfl) (by kernel_rfl) (fun _ _ _ h => (show False from h).elim) (Or.inl ⟨by kernel_rfl, ?_⟩) (by assumption) ?_
    rotate_left 1
    · (intro wx hSw; (try dsimp only at hSw); go_simp; try with_reducible rfl)
    simp only [List.setIfInBounds_toArray, List.set_cons_zero, List.set_cons_succ, hcI, hwI, hmin, hmin2, hw1, hconv, beq_self_eq_true, Bool.not_false]
    refine take_at 16 (v := ?_) rfl rfl (by kernel_rfl) (by kernel_rfl) (by kernel_rfl) (fun _ _ _ h => (show False from h).elim) (Or.inl ⟨by kernel_rfl, ?_⟩) (by assumption) ?_
    rotate_left 1
    · (intro wx hSw; (try dsimp only at hSw); go_simp; try with_reducible rfl)
    simp only [List.setIfInBounds_toArray, List.set_cons_zero, List.set_cons_succ, hcI, hwI, hmin, hmin2, hw1, hconv, beq_self_eq_true, Bool.not_false]
    refine take_at 18 (v := ?_) rfl rfl (by kernel_rfl) (by kernel_rfl) (by kernel_rfl) (fun _ _ _ h => (show False from h).elim) (Or.inl ⟨by kernel_rfl, ?_⟩) (by assumption) ?_
    rotate_left 1
    · (intro wx hSw; (try dsimp only at hSw); obtain ⟨t0, t1, t2, t3, t4, t5, t6, t7, t8⟩ := HT.out; have z0 := hSw.1 ⟨w.heap.size, 0, none⟩ HN.out.2.2.2 _ t0; have z1 := hSw.1 ⟨w.heap.size, 1, none⟩ HN.out.2.2.2 _ t1; have z2 := hSw.1 ⟨w.heap.size, 2, none⟩ HN.out.2.2.2 _ t2; have z3 := hSw.1 ⟨w.heap.size, 3, none⟩ HN.out.2.2.2 _ t3; have z4 := hSw.1 ⟨w.heap.size, 4, none⟩ HN.out.2.2.2 _ t4; have z5 := hSw.1 ⟨w.heap.size, 5, none⟩ HN.out.2.2.2 _ t5; have z6 := hSw.1 ⟨w.heap.size, 6, none⟩ HN.out.2.2.2 _ t6; have z7 := hSw.1 ⟨w.heap.size, 7, none⟩ HN.out.2.2.2 _ t7; have z8 := hSw.1 ⟨w.heap.size, 8, none⟩ HN.out.2.2.2 _ t8; go_simp; try with_reducible rfl)
    simp only [List.setIfInBounds_toArray, List.set_cons_zero, List.set_cons_succ, hcI, hwI, hmin, hmin2, hw1, hconv, beq_self_eq_true, Bool.not_false]
    refine wpAnyH_ready (rs := [17]) (by kernel_rfl) (by simp) ?_
    refine cons_at 17 rfl (by kernel_rfl) (fun K hK => ?_) AllReadyH.nil
    go_simp
    go_at_call 35; refine (nodes_any _ _ _ _ (Below.refl _ _) (hTW.below hD2) HK.out.2.2.2).mono ?_; rw [HNA.out.2]; rintro e y3 ⟨rfl, hC3⟩
    have hD3 := belowU hD2 hC3
    refine hK.out _ _ ?S (fun hHeld3 => ?_)
    case S => exact CellsBut.of HK.out.1 hD3
    clear hK hHeld2
    try simp only [Act.put, List.setIfInBounds_toArray, List.set_cons_zero, List.set_cons_succ]
    refine wpAnyH_ready (rs := [19]) (by kernel_rfl) (by simp) ?_
    refine cons_at 19 rfl (by kernel_rfl) (fun K hK => ?_) AllReadyH.nil
    go_simp
    go_at_call 36; refine (refNodes_any (hRW.below hD3) HK.out.2.2.1 ho).mono ?_; rw [HNA.out.2]; rintro e y4 ⟨rfl, hC4⟩
    have hD4 := belowU hD3 hC4
    refine hK.out _ _ ?S (fun hHeld4 => ?_)
    case S => exact CellsBut.of HK.out.1 hD4
    clear hK hHeld3
    try simp only [Act.put, List.setIfInBounds_toArray, List.set_cons_zero, List.set_cons_succ]
    refine take_at 20 (v := ?_) rfl rfl (by kernel_rfl) (by kernel_rfl) (by kernel_rfl) (fun _ _ _ h => (show False from h).elim) (Or.inl ⟨by kernel_rfl, ?_⟩) (by assumption) ?_
    rotate_left 1
    · (intro wx hSw; (try dsimp only at hSw); go_simp; try with_reducible rfl)
    simp only [List.setIfInBounds_toArray, List.set_cons_zero, List.set_cons_succ, hcI, hwI, hmin, hmin2, hw1, hconv, beq_self_eq_true, Bool.not_false]
    refine take_at 21 (v := ?_) rfl rfl (by kernel_rfl) (by kernel_rfl) (by kernel_rfl) (fun _ _ _ h => (show False from h).elim) (Or.inl ⟨by kernel_rfl, ?_⟩) (by assumption) ?_
    rotate_left 1
    · (intro wx hSw; (try dsimp only at hSw); go_simp; try with_reducible rfl)
    simp only [List.setIfInBounds_toArray, List.set_cons_zero, List.set_cons_succ, hcI, hwI, hmin, hmin2, hw1, hconv, beq_self_eq_true, Bool.not_false]
    have hy4 : y4.heap[w.heap.size + 1 + 1]? = some (.cells #[.bool false] 4 (0, 0)) := blk_below HX4.out (belowU (below_drew (Below.refl _ W)) hD4)
    obtain ⟨f40, f41⟩ := box_of hy4
    refine wpAnyH_ready (rs := [22]) (by kernel_rfl) (by simp) ?_
    refine cons_at 22 rfl (by kernel_rfl) (fun K hK => ?_) AllReadyH.nil
    go_simp
    refine hK.out _ _ ?S (fun hHeld5 => ?_)
    case S => exact CellsBut.put hHeld4 HK.out.2.1 _
    clear hK
    refine wpAnyH_done (by kernel_rfl) ?_ _
    refine Onward.intro ?_
    gi_wp2
    have hBy := belowU (below_drew (Below.refl _ W)) hD4
    have hK4 : y4.heap[D]? = some (.deferred (some [])) := blk_below hKD hBy
    have hK5 := (Below.heap_setCell y4 ⟨w.heap.size + 1 + 1, 0, none⟩ (.bool true) D HDm.out.1).trans hK4
    have hp := one_put hy4 (.bool true)
    have hp2 := (World.putObj_heap_other (o := .deferred none) (Ne.symm HDm.out.1)).trans hp
    refine ⟨by simp, .inl ⟨_, _, rfl, run_takeDeferred hK5, ?_⟩⟩
    refine ⟨_, res_cell4 rfl (box_of hp2).1, rfl, ?_⟩
    exact ((belowU HBW.out hBy).setCell (p := ⟨w.heap.size + 1 + 1, 0, none⟩) HK.out.2.1 _).trans (belowK_b (w := w) (Nat.le_refl _) _ D _ _ HDm.out.2 hK5 rfl rfl)
  case stop =>
    rintro D cd pre W hD hpre hx hKD
    rcases hx with ⟨rfl, hx⟩ | ⟨rfl, i7, i9, iB, il⟩
    · exact absurd hpre hx
    obtain ⟨N, hNN⟩ : ∃ N, pre.length = N := ⟨_, rfl⟩
    rw [hNN] at i9 il
    have hN : (N : Int) ≤ (partL x 0).length ∧ (N : Int) ≤ stop + 1 ∧ ((N : Int) = (partL x 0).length ∨ (N : Int) = stop + 1) := by
      have h1 := hpre.length_le
      have h2 := congrArg List.length (part_form x ho 0).1
      rw [List.length_map] at h1 h2
      omega
    have hconv := ar_conv hst0
    have hw1 : wrap64 (stop + 1) = stop + 1 := wrap_ok (by omega) (by omega)
    have hcI : IntKind.i64.wrap stop = stop := (i64_w _).trans hconv
    have hwI : IntKind.i64.wrap (stop + 1) = stop + 1 := (i64_w _).trans hw1
    have hmin : min ((partL x 0).length : Int) (stop + 1) = (N : Int) := by omega
    have hmin2 : (if (stop + 1) < ((partL x 0).length : Int) then stop + 1 else ((partL x 0).length : Int)) = (N : Int) := by split <;> omega
    have hWD : Below wP.heap.size wP W := by rw [hm]; exact iB
    have hTW : IsFm W.drew (formOf x).1 (.iface ta ty) := (hT.below hWD).drew
    have hRW : ReadR W.drew x A2 c2 A8 c8 := (hRS.below hWD).below (below_drew (Below.refl _ _))
    have hx3 := blk_below hb3 hWD
    have hx4 := blk_below hb4 hWD
    have hxS := blk_below hbS hWD
    have hmW : m ≤ W.heap.size := by have := iB.size; omega
    have h2m : w.heap.size + 1 + 1 < m := by have := blk_lt hb4; omega
    have v7 : W.drew.cell? ⟨m, 0, none⟩ = some (.slice A (partL x 0).length c) := (box_of i7).1
    have v9 : W.drew.cell? ⟨m + 1 + 1, 0, none⟩ = some (.int .i64 N) := (box_of i9).1
    have v3 : W.drew.cell? ⟨w.heap.size + 1, 0, none⟩ = some (.int .u8 stop) := (box_of hx3).1
    have n7 : m ≠ w.heap.size + 1 + 1 := by omega
    have n9 : m + 1 + 1 ≠ w.heap.size + 1 + 1 := by omega
    have n3 : w.heap.size + 1 ≠ w.heap.size + 1 + 1 := by omega
    have nS : w.heap.size ≠ w.heap.size + 1 + 1 := by omega
    have hk1 : w.heap.size ≤ W.drew.heap.size := by show w.heap.size ≤ W.heap.size; omega
    have hk2 : w.heap.size ≤ w.heap.size + 1 + 1 := by omega
    have hsz2 : sizeS x ≤ 1000000 := by omega
    have hWq2 : (wk (formOf x).1 0).length ≤ 1000000 := by omega
    have hL64 : ((partL x 0).length : Int) < 2000 := by have := wk_size x ho 0; have := (part_form x ho 0).1; have := congrArg List.length this; rw [List.length_map] at this; omega
    obtain ⟨t0, t1, t2, t3, t4, t5, t6, t7, t8, tf⟩ := nine_cells hxS
    have HT := Lib.hid (And.intro t0 (And.intro t1 (And.intro t2 (And.intro t3 (And.intro t4 (And.intro t5 (And.intro t6 (And.intro t7 t8))))))))
    have HC := Lib.hid (And.intro v7 (And.intro v9 v3))
    have HN := Lib.hid (And.intro n7 (And.intro n9 (And.intro n3 nS)))
    have HK := Lib.hid (And.intro hk1 (And.intro hk2 (And.intro hsz2 hWq2)))
    have hiB := Lib.hid iB
    have HWm := Lib.hid hmW
    have HDm : D ≠ w.heap.size + 1 + 1 ∧ w.heap.size ≤ D := by omega
    have HDm := Lib.hid HDm
    have hBwW : Below w.heap.size w W := belowU hBw hWD
    have HBW := Lib.hid hBwW
    have HX4 := Lib.hid hx4
    obtain ⟨na, hna⟩ : ∃ na, cntA ((wk (formOf x).1 0).map Prod.snd) = na := ⟨_, rfl⟩
    obtain ⟨nn, hnn⟩ : ∃ nn, cntN ((wk (formOf x).1 0).map Prod.snd) = nn := ⟨_, rfl⟩
    have HNA := Lib.hid (And.intro hna hnn)
    clear hna hnn
    clear t0 t1 t2 t3 t4 t5 t6 t7 t8 tf v7 v9 v3 n7 n9 n3 nS hk1 hk2 hsz2 hWq2 iB hmW hBwW hN HSZ hsz hWq hL64 h2m hst0 i7 i9 hx3 hxS hWD hCP hb3 hb4 hbS hRS hT hz h7 h8 h9 h43 hPI hR hBw hs hrt hlc hld hx4
    gi_wp2
    refine region_wide_calm (S := CellsBut (w.heap.size + 1 + 1) w.heap.size W.drew) (by kernel_rfl) (CellsBut.refl _ _ _) (fun hHeld => ?_)
    refine take_at 0 (v := ?_) rfl rfl (by kernel_rfl) (by kernel_rfl) (by kernel_rfl) (fun _ _ _ h => (show False from h).elim) (Or.inl ⟨by kernel_rfl, ?_⟩) (by assumption) ?_
    rotate_left 1
    · (intro wx hSw; (try dsimp only at hSw); have z9 := hSw.1 _ HN.out.2.1 _ HC.out.2.1; go_simp; try with_reducible rfl)
    simp only [List.setIfInBounds_toArray, List.set_cons_zero, List.set_cons_succ, hcI, hwI, hmin, hmin2, hw1, hconv, beq_self_eq_true, Bool.not_false]
    refine take_at 1 (v := ?_) rfl rfl (by kernel_rfl) (by kernel_rfl) (by kernel_rfl) (fun _ _ _ h => (show False from h).elim) (Or.inl ⟨by kernel_rfl, ?_⟩) (by assumption) ?_
    rotate_left 1
    · (intro wx hSw; (try dsimp only at hSw); have z7 := hSw.1 _ HN.out.1 _ HC.out.1; go_simp; try with_reducible rfl)
    simp only [List.setIfInBounds_toArray, List.set_cons_zero, List.set_cons_succ, hcI, hwI, hmin, hmin2, hw1, hconv, beq_self_eq_true, Bool.not_false]
    refine take_at 2 (v := ?_) rfl rfl (by kernel_rfl) (by kernel_rfl) (by kernel_rfl) (fun _ _ _ h => (show False from h).elim) (Or.inl ⟨by kernel_rfl, ?_⟩) (by assumption) ?_
    rotate_left 1
    · (intro wx hSw; (try dsimp only at hSw); go_simp; try with_reducible rfl)
    simp only [List.setIfInBounds_toArray, List.set_cons_zero, List.set_cons_succ, hcI, hwI, hmin, hmin2, hw1, hconv, beq_self_eq_true, Bool.not_false]
    refine take_at 3 (v := ?_) rfl rfl (by kernel_rfl) (by kernel_rfl) (by kernel_rfl) (fun _ _ _ h => (show False from h).elim) (Or.inl ⟨by kernel_rfl, ?_⟩) (by assumption) ?_
    rotate_left 1
    · (intro wx hSw; (try dsimp only at hSw); have z3 := hSw.1 _ HN.out.2.2.1 _ HC.out.2.2; go_simp; try with_reducible rfl)
    simp only [List.setIfInBounds_toArray, List.set_cons_zero, List.set_cons_succ, hcI, hwI, hmin, hmin2, hw1, hconv, beq_self_eq_true, Bool.not_false]
    refine take_at 4 (v := ?_) rfl rfl (by kernel_rfl) (by kernel_rfl) (by kernel_rfl) (fun _ _ _ h => (show False from h).elim) (Or.inl ⟨by kernel_rfl, ?_⟩) (by assumption) ?_
    rotate_left 1
    · (intro wx hSw; (try dsimp only at hSw); go_simp; try with_reducible rfl)
    simp only [List.setIfInBounds_toArray, List.set_cons_zero, List.set_cons_succ, hcI, hwI, hmin, hmin2, hw1, hconv, beq_self_eq_true, Bool.not_false]
    refine take_at 5 (v := ?_) rfl rfl (by kernel_rfl) (by kernel_rfl) (by kernel_rfl) (fun _ _ _ h => (show False from h).elim) (Or.inl ⟨by kernel_rfl, ?_⟩) (by assumption) ?_
    rotate_left 1
    · (intro wx hSw; (try dsimp only at hSw); go_simp; try with_reducible rfl)
    simp only [List.setIfInBounds_toArray, List.set_cons_zero, List.set_cons_succ, hcI, hwI, hmin, hmin2, hw1, hconv, beq_self_eq_true, Bool.not_false]
    refine take_at 6 (v := ?_) rfl rfl (by kernel_rfl) (by kernel_rfl) (by kernel_rfl) (fun _ _ _ h => (show False from h).elim) (Or.inl ⟨by kernel_rfl, ?_⟩) (by assumption) ?_
    rotate_left 1
    · (intro wx hSw; (try dsimp only at hSw); go_simp; try with_reducible rfl)
    simp only [List.setIfInBounds_toArray, List.set_cons_zero, List.set_cons_succ, hcI, hwI, hmin, hmin2, hw1, hconv, beq_self_eq_true, Bool.not_false]
    refine take_at 7 (v := ?_) rfl rfl (by kernel_rfl) (by kernel_rfl) (by kernel_rfl) (fun _ _ _ h => (show False from h).elim) (Or.inl ⟨by kernel_rfl, ?_⟩) (by assumption) ?_
    rotate_left 1
    · (intro wx hSw; (try dsimp only at hSw); go_simp; try with_reducible rfl)
    simp only [List.setIfInBounds_toArray, List.set_cons_zero, List.set_cons_succ, hcI, hwI, hmin, hmin2, hw1, hconv, beq_self_eq_true, Bool.not_false]
    refine take_at 8 (v := ?_) rfl rfl (by kernel_rfl) (by kernel_rfl) (by kernel_rfl) (fun _ _ _ h => (show False from h).elim) (Or.inl ⟨by kernel_rfl, ?_⟩) (by assumption) ?_
    rotate_left 1
    · (intro wx hSw; (try dsimp only at hSw); go_simp; try with_reducible rfl)
    simp only [List.setIfInBounds_toArray, List.set_cons_zero, List.set_cons_succ, hcI, hwI, hmin, hmin2, hw1, hconv, beq_self_eq_true, Bool.not_false]
    refine take_at 9 (v := ?_) rfl rfl (by kernel_rfl) (by kernel_rfl) (by kernel_rfl) (fun _ _ _ h => (show False from h).elim) (Or.inl ⟨by kernel_rfl, ?_⟩) (by assumption) ?_
    rotate_left 1
    · (intro wx hSw; (try dsimp only at hSw); go_simp; try with_reducible rfl)
    simp only [List.setIfInBounds_toArray, List.set_cons_zero, List.set_cons_succ, hcI, hwI, hmin, hmin2, hw1, hconv, beq_self_eq_true, Bool.not_false]
    refine take_at 11 (v := ?_) rfl rfl (by kernel_rfl) (by kernel_rfl) (by kernel_rfl) (fun _ _ _ h => (show False from h).elim) (Or.inl ⟨by kernel_rfl, ?_⟩) (by assumption) ?_
    rotate_left 1
    · (intro wx hSw; (try dsimp only at hSw); obtain ⟨t0, t1, t2, t3, t4, t5, t6, t7, t8⟩ := HT.out; have z0 := hSw.1 ⟨w.heap.size, 0, none⟩ HN.out.2.2.2 _ t0; have z1 := hSw.1 ⟨w.heap.size, 1, none⟩ HN.out.2.2.2 _ t1; have z2 := hSw.1 ⟨w.heap.size, 2, none⟩ HN.out.2.2.2 _ t2; have z3 := hSw.1 ⟨w.heap.size, 3, none⟩ HN.out.2.2.2 _ t3; have z4 := hSw.1 ⟨w.heap.size, 4, none⟩ HN.out.2.2.2 _ t4; have z5 := hSw.1 ⟨w.heap.size, 5, none⟩ HN.out.2.2.2 _ t5; have z6 := hSw.1 ⟨w.heap.size, 6, none⟩ HN.out.2.2.2 _ t6; have z7 := hSw.1 ⟨w.heap.size, 7, none⟩ HN.out.2.2.2 _ t7; have z8 := hSw.1 ⟨w.heap.size, 8, none⟩ HN.out.2.2.2 _ t8; go_simp; try with_reducible rfl)
    simp only [List.setIfInBounds_toArray, List.set_cons_zero, List.set_cons_succ, hcI, hwI, hmin, hmin2, hw1, hconv, beq_self_eq_true, Bool.not_false]
    refine wpAnyH_ready (rs := [10]) (by kernel_rfl) (by simp) ?_
    refine cons_at 10 rfl (by kernel_rfl) (fun K hK => ?_) AllReadyH.nil
    go_simp
    go_at_call 33; refine (atoms_any _ _ _ _ (Below.refl _ _) hTW HK.out.2.2.2).mono ?_; rw [HNA.out.1]; rintro e y1 ⟨rfl, hC1⟩
    have hD1 := hC1
    refine hK.out _ _ ?S (fun hHeld1 => ?_)
    case S => exact CellsBut.of HK.out.1 hD1
    clear hK hHeld
    try simp only [Act.put, List.setIfInBounds_toArray, List.set_cons_zero, List.set_cons_succ]
    refine wpAnyH_ready (rs := [12]) (by kernel_rfl) (by simp) ?_
    refine cons_at 12 rfl (by kernel_rfl) (fun K hK => ?_) AllReadyH.nil
    go_simp
    go_at_call 34; refine (refAtoms_any (hRW.below hD1) HK.out.2.2.1 ho).mono ?_; rw [HNA.out.1]; rintro e y2 ⟨rfl, hC2⟩
    have hD2 := belowU hD1 hC2
    refine hK.out _ _ ?S (fun hHeld2 => ?_)
    case S => exact CellsBut.of HK.out.1 hD2
    clear hK hHeld1
    try simp only [Act.put, List.setIfInBounds_toArray, List.set_cons_zero, List.set_cons_succ]
    refine take_at 13 (v := ?_) rfl rfl (by kernel_rfl) (by kernel_rfl) (by kernel_rfl) (fun _ _ _ h => (show False from h).elim) (Or.inl ⟨by kernel_rfl, ?_⟩) (by assumption) ?_
    rotate_left 1
    · (intro wx hSw; (try dsimp only at hSw); go_simp; try with_reducible rfl)
    simp only [List.setIfInBounds_toArray, List.set_cons_zero, List.set_cons_succ, hcI, hwI, hmin, hmin2, hw1, hconv, beq_self_eq_true, Bool.not_false]
    refine take_at 14 (v := ?_) rfl rfl (by kernel_rfl) (by kernel_rfl) (by kernel_rfl) (fun _ _ _ h => (show False from h).elim) (Or.inl ⟨by kernel_rfl, ?_⟩) (by assumption) ?_
    rotate_left 1
    · (intro wx hSw; (try dsimp only at hSw); go_simp; try with_reducible rfl)
    simp only [List.setIfInBounds_toArray, List.set_cons_zero, List.set_cons_succ, hcI, hwI, hmin, hmin2, hw1, hconv, beq_self_eq_true, Bool.not_false]
    refine take_at 15 (v := ?_) rfl rfl (by kernel_rfl) (by kernel_rfl) (by kernel_rfl) (fun _ _ _ h => (show False from h).elim) (Or.inl ⟨by kernel_rfl, ?_⟩) (by assumption) ?_
    rotate_left 1
    · (intro wx hSw; (try dsimp only at hSw); go_simp; try with_reducible rfl)
    simp only [List.setIfInBounds_toArray, List.set_cons_zero, List.set_cons_succ, hcI, hwI, hmin, hmin2, hw1, hconv, beq_self_eq_true, Bool.not_false]
    refine take_at 16 (v := ?_) rfl rfl (by kernel_rfl) (by kernel_rfl) (by kernel_rfl) (fun _ _ _ h => (show False from h).elim) (Or.inl ⟨by kernel_rfl, ?_⟩) (by assumption) ?_
    rotate_left 1
    · (intro wx hSw; (try dsimp only at hSw); go_simp; try with_reducible rfl)
    simp only [List.setIfInBounds_toArray, List.set_cons_zero, List.set_cons_succ, hcI, hwI, hmin, hmin2, hw1, hconv, beq_self_eq_true, Bool.not_false]
    refine take_at 18 (v := ?_) rfl rfl (by kernel_rfl) (by kernel_rfl) (by kernel_rfl) (fun _ _ _ h => (show False from h).elim) (Or.inl ⟨by kernel_rfl, ?_⟩) (by assumption) ?_
    rotate_left 1
    · (intro wx hSw; (try dsimp only at hSw); obtain ⟨t0, t1, t2, t3, t4, t5, t6, t7, t8⟩ := HT.out; have z0 := hSw.1 ⟨w.heap.size, 0, none⟩ HN.out.2.2.2 _ t0; have z1 := hSw.1 ⟨w.heap.size, 1, none⟩ HN.out.2.2.2 _ t1; have z2 := hSw.1 ⟨w.heap.size, 2, none⟩ HN.out.2.2.2 _ t2; have z3 := hSw.1 ⟨w.heap.size, 3, none⟩ HN.out.2.2.2 _ t3; have z4 := hSw.1 ⟨w.heap.size, 4, none⟩ HN.out.2.2.2 _ t4; have z5 := hSw.1 ⟨w.heap.size, 5, none⟩ HN.out.2.2.2 _ t5; have z6 := hSw.1 ⟨w.heap.size, 6, none⟩ HN.out.2.2.2 _ t6; have z7 := hSw.1 ⟨w.heap.size, 7, none⟩ HN.out.2.2.2 _ t7; have z8 := hSw.1 ⟨w.heap.size, 8, none⟩ HN.out.2.2.2 _ t8; go_simp; try with_reducible rfl)
    simp only [List.setIfInBounds_toArray, List.set_cons_zero, List.set_cons_succ, hcI, hwI, hmin, hmin2, hw1, hconv, beq_self_eq_true, Bool.not_false]
    refine wpAnyH_ready (rs := [17]) (by kernel_rfl) (by simp) ?_
    refine cons_at 17 rfl (by kernel_rfl) (fun K hK => ?_) AllReadyH.nil
    go_simp
    go_at_call 35; refine (nodes_any _ _ _ _ (Below.refl _ _) (hTW.below hD2) HK.out.2.2.2).mono ?_; rw [HNA.out.2]; rintro e y3 ⟨rfl, hC3⟩
    have hD3 := belowU hD2 hC3
    refine hK.out _ _ ?S (fun hHeld3 => ?_)
    case S => exact CellsBut.of HK.out.1 hD3
    clear hK hHeld2
    try simp only [Act.put, List.setIfInBounds_toArray, List.set_cons_zero, List.set_cons_succ]
    refine wpAnyH_ready (rs := [19]) (by kernel_rfl) (by simp) ?_
    refine cons_at 19 rfl (by kernel_rfl) (fun K hK => ?_) AllReadyH.nil
    go_simp
    go_at_call 36; refine (refNodes_any (hRW.below hD3) HK.out.2.2.1 ho).mono ?_; rw [HNA.out.2]; rintro e y4 ⟨rfl, hC4⟩
    have hD4 := belowU hD3 hC4
    refine hK.out _ _ ?S (fun hHeld4 => ?_)
    case S => exact CellsBut.of HK.out.1 hD4
    clear hK hHeld3
    try simp only [Act.put, List.setIfInBounds_toArray, List.set_cons_zero, List.set_cons_succ]
    refine take_at 20 (v := ?_) rfl rfl (by kernel_rfl) (by kernel_rfl) (by kernel_rfl) (fun _ _ _ h => (show False from h).elim) (Or.inl ⟨by kernel_rfl, ?_⟩) (by assumption) ?_
    rotate_left 1
    · (intro wx hSw; (try dsimp only at hSw); go_simp; try with_reducible rfl)
    simp only [List.setIfInBounds_toArray, List.set_cons_zero, List.set_cons_succ, hcI, hwI, hmin, hmin2, hw1, hconv, beq_self_eq_true, Bool.not_false]
    refine take_at 21 (v := ?_) rfl rfl (by kernel_rfl) (by kernel_rfl) (by kernel_rfl) (fun _ _ _ h => (show False from h).elim) (Or.inl ⟨by kernel_rfl, ?_⟩) (by assumption) ?_
    rotate_left 1
    · (intro wx hSw; (try dsimp only at hSw); go_simp; try with_reducible rfl)
    simp only [List.setIfInBounds_toArray, List.set_cons_zero, List.set_cons_succ, hcI, hwI, hmin, hmin2, hw1, hconv, beq_self_eq_true, Bool.not_false]
    have hy4 : y4.heap[w.heap.size + 1 + 1]? = some (.cells #[.bool false] 4 (0, 0)) := blk_below HX4.out (belowU (below_drew (Below.refl _ W)) hD4)
    obtain ⟨f40, f41⟩ := box_of hy4
    refine wpAnyH_ready (rs := [22]) (by kernel_rfl) (by simp) ?_
    refine cons_at 22 rfl (by kernel_rfl) (fun K hK => ?_) AllReadyH.nil
    go_simp
    refine hK.out _ _ ?S (fun hHeld5 => ?_)
    case S => exact CellsBut.put hHeld4 HK.out.2.1 _
    clear hK
    refine wpAnyH_done (by kernel_rfl) ?_ _
    refine Onward.intro ?_
    gi_wp2
    have hBy := belowU (below_drew (Below.refl _ W)) hD4
    have hK4 : y4.heap[D]? = some (.deferred (some [])) := blk_below hKD hBy
    have hK5 := (Below.heap_setCell y4 ⟨w.heap.size + 1 + 1, 0, none⟩ (.bool true) D HDm.out.1).trans hK4
    have hp := one_put hy4 (.bool true)
    have hp2 := (World.putObj_heap_other (o := .deferred none) (Ne.symm HDm.out.1)).trans hp
    refine ⟨by simp, .inl ⟨_, _, rfl, run_takeDeferred hK5, ?_⟩⟩
    refine ⟨_, res_cell4 rfl (box_of hp2).1, rfl, ?_⟩
    exact ((belowU HBW.out hBy).setCell (p := ⟨w.heap.size + 1 + 1, 0, none⟩) HK.out.2.1 _).trans (belowK_b (w := w) (Nat.le_refl _) _ D _ _ HDm.out.2 hK5 rfl rfl)
theorem law6 (x : S29) (A2 A8 : Option Addr) (c2 c8 : Nat) (stop : Int) (w : World) (hR : ReadR w x A2 c2 A8 c8) (_ : WfS x) (hst : 0 ≤ stop ∧ stop ≤ 255) :
    Calls Try.prog 6 #[treeV x (.slice A2 x.f1.f1.length c2) (.slice A8 x.f7.length c8), .int .u8 stop] w fun e w' => e = .returned (.bool true) ∧ Below w.heap.size w w' := by
  cases h : rightB x with
  | false => exact law6_no x stop A2 A8 c2 c8 w hR h
  | true => exact law6_yes x stop hst A2 A8 c2 c8 w hR h
end Go.Proofs.Ytddpojinlapmfaa.PRef
