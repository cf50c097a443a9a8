/- FormulaSame: the law's body. -/
import Derived.Test.YtddpojinlapmfaaSameD
import Derived.Test.YtddpojinlapmfaaRefR
import Derived.Test.YtddpojinlapmfaaLinkA
import Derived.Test.YtddpojinlapmfaaAwake
import Derived.Test.YtddpojinlapmfaaOpen
namespace Go.Proofs.Ytddpojinlapmfaa.PRef
set_option linter.unusedVariables false
set_option linter.unusedSimpArgs false
open Go.RowKit Go.Proofs.YtddpojinlapmfaaW.PrintWords Go.Proofs.YtddpojinlapmfaaW.PrintLast Go.Proofs.YtddpojinlapmfaaW.PrintMore

theorem form_iface {x : S29} (ho : (formOf x).2 = true) {w : World} {v : Value} (h : IsFm w (formOf x).1 v) : ∃ (a : Nat) (y : Value), v = .iface a y := by
  rcases form_inv x ho with ⟨h0, h7, e⟩ | ⟨a, b, h7, ha, hb, h0, -, e⟩ | ⟨a, h7, ha, h0⟩ | ⟨a, b, h7, ha, hb, h0⟩
  · rw [e] at h; cases h; exact ⟨_, _, rfl⟩
  · rw [e] at h; obtain ⟨vl, vr, rfl, h1, h2⟩ := h; exact ⟨_, _, rfl⟩
  · rcases h0 with ⟨h0, e⟩ | ⟨h0, e⟩ <;> rw [e] at h
    · obtain ⟨_, rfl, _⟩ := h; exact ⟨_, _, rfl⟩
    · obtain ⟨_, rfl, _⟩ := h; exact ⟨_, _, rfl⟩
  · rcases h0 with ⟨h0, e⟩ | ⟨h0, e⟩ | ⟨h0, e⟩ | ⟨h0, e⟩ <;> rw [e] at h <;> (obtain ⟨_, _, rfl, _⟩ := h; exact ⟨_, _, rfl⟩)
theorem rightS {x : S29} (h : rightB x = true) : SmallS x ∧ sizeS x ≤ 300 ∧ (formOf x).2 = true := by
  simp only [rightB, Bool.and_eq_true] at h
  exact ⟨(few_short h.1).small, by have := few_size (by omega) h.1; omega, h.2⟩
theorem not_ne (F : Fm) : plainF F ≠ plainF (.not F) := by
  intro h
  have := congrArg sizeS h
  have e : sizeS (plainF (.not F)) = 1 + sizeS (plainF F) := by simp [plainF, node, sizeS, sizeK, z29]
  omega
set_option maxRecDepth 100000 in
set_option maxHeartbeats 8000000 in
theorem law12_a (x y : S29) (A2 A8 D2 D8 : Option Addr) (c2 c8 d2 d8 : Nat) (w : World) (hRx : ReadR w x A2 c2 A8 c8) (hRy : ReadR w y D2 d2 D8 d8) (hrx : rightB x = false) :
    Calls Try.prog 12 #[treeV x (.slice A2 x.f1.f1.length c2) (.slice A8 x.f7.length c8), treeV y (.slice D2 y.f1.f1.length d2) (.slice D8 y.f7.length d8)] w fun e w' => e = .returned (.bool true) ∧ Below w.heap.size w w' := by
  have hu29 := Try.underlying29
  obtain ⟨wS, hwS⟩ : ∃ wS, (w.alloc (.cells #[.int .i64 x.f0, .bool x.f1.f0, .slice A2 x.f1.f1.length c2, .string x.f2, .int .i64 x.f3, .int .i64 x.f4, .bool x.f5, .bool x.f6, .slice A8 x.f7.length c8] 29)).alloc (.cells #[.int .i64 y.f0, .bool y.f1.f0, .slice D2 y.f1.f1.length d2, .string y.f2, .int .i64 y.f3, .int .i64 y.f4, .bool y.f5, .bool y.f6, .slice D8 y.f7.length d8] 29) = wS := ⟨_, rfl⟩
  obtain ⟨kx, ky, hBS⟩ := fsame_boxes w #[.int .i64 x.f0, .bool x.f1.f0, .slice A2 x.f1.f1.length c2, .string x.f2, .int .i64 x.f3, .int .i64 x.f4, .bool x.f5, .bool x.f6, .slice A8 x.f7.length c8] #[.int .i64 y.f0, .bool y.f1.f0, .slice D2 y.f1.f1.length d2, .string y.f2, .int .i64 y.f3, .int .i64 y.f4, .bool y.f5, .bool y.f6, .slice D8 y.f7.length d8]
  rw [hwS] at kx ky hBS
  have HK : ∀ W, Below wS.heap.size wS W → W.heap[w.heap.size]? = some (.cells #[.int .i64 x.f0, .bool x.f1.f0, .slice A2 x.f1.f1.length c2, .string x.f2, .int .i64 x.f3, .int .i64 x.f4, .bool x.f5, .bool x.f6, .slice A8 x.f7.length c8] 29 (0, 0)) ∧ W.heap[w.heap.size + 1]? = some (.cells #[.int .i64 y.f0, .bool y.f1.f0, .slice D2 y.f1.f1.length d2, .string y.f2, .int .i64 y.f3, .int .i64 y.f4, .bool y.f5, .bool y.f6, .slice D8 y.f7.length d8] 29 (0, 0)) := fun W h => ⟨blk_below kx h, blk_below ky h⟩
  have HX : ∀ W, Below wS.heap.size wS W → ReadR W x A2 c2 A8 c8 := fun W h => hRx.below (belowS hBS h)
  have HY : ∀ W, Below wS.heap.size wS W → ReadR W y D2 d2 D8 d8 := fun W h => hRy.below (belowS hBS h)
  have HK := Lib.hid HK
  have HX := Lib.hid HX
  have HY := Lib.hid HY
  obtain ⟨x0, x1, x2, x3, x4, x5, x6, x7, x8, xf⟩ := nine_cells kx
  obtain ⟨y0, y1, y2, y3, y4, y5, y6, y7, y8, yf⟩ := nine_cells ky
  have hB0 := Below.refl wS.heap.size wS
  clear kx ky hRx hRy
  go_enter Try.func12, Try.ntmps12
  go_wp2_with (first
    | (go_at_call 16; refine (awake_any _).mono ?_; rintro e w3 ⟨rfl, hb3⟩; have hB3 := belowS hB2 hb3)
    | (go_at_call 25; refine (right_any (HX.out _ hB1)).mono ?_; rw [hrx]; rintro e w2 ⟨rfl, hb2⟩; have hB2 := belowS hB1 hb2; clear x0 x1 x2 x3 x4 x5 x6 x7 x8 xf y0 y1 y2 y3 y4 y5 y6 y7 y8 yf; obtain ⟨kx, ky⟩ := HK.out _ hB2; obtain ⟨x0, x1, x2, x3, x4, x5, x6, x7, x8, xf⟩ := nine_cells kx; obtain ⟨y0, y1, y2, y3, y4, y5, y6, y7, y8, yf⟩ := nine_cells ky; clear kx ky)
    | (go_at_call 16; refine (awake_any _).mono ?_; rintro e w1 ⟨rfl, hb1⟩; have hB1 := belowS hB0 hb1; clear x0 x1 x2 x3 x4 x5 x6 x7 x8 xf y0 y1 y2 y3 y4 y5 y6 y7 y8 yf; obtain ⟨kx, ky⟩ := HK.out _ hB1; obtain ⟨x0, x1, x2, x3, x4, x5, x6, x7, x8, xf⟩ := nine_cells kx; obtain ⟨y0, y1, y2, y3, y4, y5, y6, y7, y8, yf⟩ := nine_cells ky; clear kx ky))
  go_ret
  exact ⟨rfl, belowS hBS hB3⟩
set_option maxRecDepth 100000 in
set_option maxHeartbeats 8000000 in
theorem law12_b (x y : S29) (A2 A8 D2 D8 : Option Addr) (c2 c8 d2 d8 : Nat) (w : World) (hRx : ReadR w x A2 c2 A8 c8) (hRy : ReadR w y D2 d2 D8 d8) (hrx : rightB x = true) (hry : rightB y = false) :
    Calls Try.prog 12 #[treeV x (.slice A2 x.f1.f1.length c2) (.slice A8 x.f7.length c8), treeV y (.slice D2 y.f1.f1.length d2) (.slice D8 y.f7.length d8)] w fun e w' => e = .returned (.bool true) ∧ Below w.heap.size w w' := by
  have hu29 := Try.underlying29
  obtain ⟨wS, hwS⟩ : ∃ wS, (w.alloc (.cells #[.int .i64 x.f0, .bool x.f1.f0, .slice A2 x.f1.f1.length c2, .string x.f2, .int .i64 x.f3, .int .i64 x.f4, .bool x.f5, .bool x.f6, .slice A8 x.f7.length c8] 29)).alloc (.cells #[.int .i64 y.f0, .bool y.f1.f0, .slice D2 y.f1.f1.length d2, .string y.f2, .int .i64 y.f3, .int .i64 y.f4, .bool y.f5, .bool y.f6, .slice D8 y.f7.length d8] 29) = wS := ⟨_, rfl⟩
  obtain ⟨kx, ky, hBS⟩ := fsame_boxes w #[.int .i64 x.f0, .bool x.f1.f0, .slice A2 x.f1.f1.length c2, .string x.f2, .int .i64 x.f3, .int .i64 x.f4, .bool x.f5, .bool x.f6, .slice A8 x.f7.length c8] #[.int .i64 y.f0, .bool y.f1.f0, .slice D2 y.f1.f1.length d2, .string y.f2, .int .i64 y.f3, .int .i64 y.f4, .bool y.f5, .bool y.f6, .slice D8 y.f7.length d8]
  rw [hwS] at kx ky hBS
  have HK : ∀ W, Below wS.heap.size wS W → W.heap[w.heap.size]? = some (.cells #[.int .i64 x.f0, .bool x.f1.f0, .slice A2 x.f1.f1.length c2, .string x.f2, .int .i64 x.f3, .int .i64 x.f4, .bool x.f5, .bool x.f6, .slice A8 x.f7.length c8] 29 (0, 0)) ∧ W.heap[w.heap.size + 1]? = some (.cells #[.int .i64 y.f0, .bool y.f1.f0, .slice D2 y.f1.f1.length d2, .string y.f2, .int .i64 y.f3, .int .i64 y.f4, .bool y.f5, .bool y.f6, .slice D8 y.f7.length d8] 29 (0, 0)) := fun W h => ⟨blk_below kx h, blk_below ky h⟩
  have HX : ∀ W, Below wS.heap.size wS W → ReadR W x A2 c2 A8 c8 := fun W h => hRx.below (belowS hBS h)
  have HY : ∀ W, Below wS.heap.size wS W → ReadR W y D2 d2 D8 d8 := fun W h => hRy.below (belowS hBS h)
  have HK := Lib.hid HK
  have HX := Lib.hid HX
  have HY := Lib.hid HY
  obtain ⟨x0, x1, x2, x3, x4, x5, x6, x7, x8, xf⟩ := nine_cells kx
  obtain ⟨y0, y1, y2, y3, y4, y5, y6, y7, y8, yf⟩ := nine_cells ky
  have hB0 := Below.refl wS.heap.size wS
  clear kx ky hRx hRy
  go_enter Try.func12, Try.ntmps12
  go_wp2_with (first
    | (go_at_call 16; refine (awake_any _).mono ?_; rintro e w4 ⟨rfl, hb4⟩; have hB4 := belowS hB3 hb4)
    | (go_at_call 25; refine (right_any (HY.out _ hB2)).mono ?_; rw [hry]; rintro e w3 ⟨rfl, hb3⟩; have hB3 := belowS hB2 hb3; clear x0 x1 x2 x3 x4 x5 x6 x7 x8 xf y0 y1 y2 y3 y4 y5 y6 y7 y8 yf; obtain ⟨kx, ky⟩ := HK.out _ hB3; obtain ⟨x0, x1, x2, x3, x4, x5, x6, x7, x8, xf⟩ := nine_cells kx; obtain ⟨y0, y1, y2, y3, y4, y5, y6, y7, y8, yf⟩ := nine_cells ky; clear kx ky)
    | (go_at_call 25; refine (right_any (HX.out _ hB1)).mono ?_; rw [hrx]; rintro e w2 ⟨rfl, hb2⟩; have hB2 := belowS hB1 hb2; clear x0 x1 x2 x3 x4 x5 x6 x7 x8 xf y0 y1 y2 y3 y4 y5 y6 y7 y8 yf; obtain ⟨kx, ky⟩ := HK.out _ hB2; obtain ⟨x0, x1, x2, x3, x4, x5, x6, x7, x8, xf⟩ := nine_cells kx; obtain ⟨y0, y1, y2, y3, y4, y5, y6, y7, y8, yf⟩ := nine_cells ky; clear kx ky)
    | (go_at_call 16; refine (awake_any _).mono ?_; rintro e w1 ⟨rfl, hb1⟩; have hB1 := belowS hB0 hb1; clear x0 x1 x2 x3 x4 x5 x6 x7 x8 xf y0 y1 y2 y3 y4 y5 y6 y7 y8 yf; obtain ⟨kx, ky⟩ := HK.out _ hB1; obtain ⟨x0, x1, x2, x3, x4, x5, x6, x7, x8, xf⟩ := nine_cells kx; obtain ⟨y0, y1, y2, y3, y4, y5, y6, y7, y8, yf⟩ := nine_cells ky; clear kx ky))
  go_ret
  exact ⟨rfl, belowS hBS hB4⟩
set_option maxRecDepth 100000 in
set_option maxHeartbeats 8000000 in
theorem law12_c (x y : S29) (A2 A8 D2 D8 : Option Addr) (c2 c8 d2 d8 : Nat) (w : World) (hRx : ReadR w x A2 c2 A8 c8) (hRy : ReadR w y D2 d2 D8 d8) (hrx : rightB x = true) (hry : rightB y = true) :
    Calls Try.prog 12 #[treeV x (.slice A2 x.f1.f1.length c2) (.slice A8 x.f7.length c8), treeV y (.slice D2 y.f1.f1.length d2) (.slice D8 y.f7.length d8)] w fun e w' => e = .returned (.bool true) ∧ Below w.heap.size w w' := by
  have hu29 := Try.underlying29
  obtain ⟨wS, hwS⟩ : ∃ wS, (w.alloc (.cells #[.int .i64 x.f0, .bool x.f1.f0, .slice A2 x.f1.f1.length c2, .string x.f2, .int .i64 x.f3, .int .i64 x.f4, .bool x.f5, .bool x.f6, .slice A8 x.f7.length c8] 29)).alloc (.cells #[.int .i64 y.f0, .bool y.f1.f0, .slice D2 y.f1.f1.length d2, .string y.f2, .int .i64 y.f3, .int .i64 y.f4, .bool y.f5, .bool y.f6, .slice D8 y.f7.length d8] 29) = wS := ⟨_, rfl⟩
  obtain ⟨kx, ky, hBS⟩ := fsame_boxes w #[.int .i64 x.f0, .bool x.f1.f0, .slice A2 x.f1.f1.length c2, .string x.f2, .int .i64 x.f3, .int .i64 x.f4, .bool x.f5, .bool x.f6, .slice A8 x.f7.length c8] #[.int .i64 y.f0, .bool y.f1.f0, .slice D2 y.f1.f1.length d2, .string y.f2, .int .i64 y.f3, .int .i64 y.f4, .bool y.f5, .bool y.f6, .slice D8 y.f7.length d8]
  rw [hwS] at kx ky hBS
  have HK : ∀ W, Below wS.heap.size wS W → W.heap[w.heap.size]? = some (.cells #[.int .i64 x.f0, .bool x.f1.f0, .slice A2 x.f1.f1.length c2, .string x.f2, .int .i64 x.f3, .int .i64 x.f4, .bool x.f5, .bool x.f6, .slice A8 x.f7.length c8] 29 (0, 0)) ∧ W.heap[w.heap.size + 1]? = some (.cells #[.int .i64 y.f0, .bool y.f1.f0, .slice D2 y.f1.f1.length d2, .string y.f2, .int .i64 y.f3, .int .i64 y.f4, .bool y.f5, .bool y.f6, .slice D8 y.f7.length d8] 29 (0, 0)) := fun W h => ⟨blk_below kx h, blk_below ky h⟩
  have HX : ∀ W, Below wS.heap.size wS W → ReadR W x A2 c2 A8 c8 := fun W h => hRx.below (belowS hBS h)
  have HY : ∀ W, Below wS.heap.size wS W → ReadR W y D2 d2 D8 d8 := fun W h => hRy.below (belowS hBS h)
  have HK := Lib.hid HK
  have HX := Lib.hid HX
  have HY := Lib.hid HY
  obtain ⟨x0, x1, x2, x3, x4, x5, x6, x7, x8, xf⟩ := nine_cells kx
  obtain ⟨y0, y1, y2, y3, y4, y5, y6, y7, y8, yf⟩ := nine_cells ky
  have hB0 := Below.refl wS.heap.size wS
  clear kx ky hRx hRy
  obtain ⟨sx, zx, ox⟩ := rightS hrx
  obtain ⟨sy, zy, oy⟩ := rightS hry
  have cx := canon_form x ox
  have cy := canon_form y oy
  have fx := small_form x sx
  have fy := small_form y sy
  have HZ := Lib.hid (show sizeS x ≤ 1000000 ∧ sizeS y ≤ 1000000 ∧ sizeS (canonS x) ≤ 1000000 from ⟨by omega, by omega, by rw [sizeS_canon]; omega⟩)
  have HC := Lib.hid (And.intro cx cy)
  clear zx zy cx cy
  go_enter Try.func12, Try.ntmps12
  go_upto_region 5 with (first
    | (go_at_call 23; refine (of_any y sy D2 d2 D8 d8 _ (HY.out _ hB4)).mono ?_; rw [oy, if_pos rfl, if_pos rfl]; rintro e w5 ⟨vy, rfl, hTy, hb5⟩; have hB5 := belowS hB4 hb5; obtain ⟨ty, zy, rfl⟩ : ∃ (a : Nat) (z : Value), vy = .iface a z := form_iface oy hTy; replace hTx := hTx.below hb5; clear x0 x1 x2 x3 x4 x5 x6 x7 x8 xf y0 y1 y2 y3 y4 y5 y6 y7 y8 yf; obtain ⟨kx, ky⟩ := HK.out _ hB5; obtain ⟨x0, x1, x2, x3, x4, x5, x6, x7, x8, xf⟩ := nine_cells kx; obtain ⟨y0, y1, y2, y3, y4, y5, y6, y7, y8, yf⟩ := nine_cells ky; clear kx ky)
    | (go_at_call 23; refine (of_any x sx A2 c2 A8 c8 _ (HX.out _ hB3)).mono ?_; rw [ox, if_pos rfl, if_pos rfl]; rintro e w4 ⟨vx, rfl, hTx, hb4⟩; have hB4 := belowS hB3 hb4; obtain ⟨tx, zx, rfl⟩ : ∃ (a : Nat) (z : Value), vx = .iface a z := form_iface ox hTx; clear x0 x1 x2 x3 x4 x5 x6 x7 x8 xf y0 y1 y2 y3 y4 y5 y6 y7 y8 yf; obtain ⟨kx, ky⟩ := HK.out _ hB4; obtain ⟨x0, x1, x2, x3, x4, x5, x6, x7, x8, xf⟩ := nine_cells kx; obtain ⟨y0, y1, y2, y3, y4, y5, y6, y7, y8, yf⟩ := nine_cells ky; clear kx ky)
    | (go_at_call 25; refine (right_any (HY.out _ hB2)).mono ?_; rw [hry]; rintro e w3 ⟨rfl, hb3⟩; have hB3 := belowS hB2 hb3; clear x0 x1 x2 x3 x4 x5 x6 x7 x8 xf y0 y1 y2 y3 y4 y5 y6 y7 y8 yf; obtain ⟨kx, ky⟩ := HK.out _ hB3; obtain ⟨x0, x1, x2, x3, x4, x5, x6, x7, x8, xf⟩ := nine_cells kx; obtain ⟨y0, y1, y2, y3, y4, y5, y6, y7, y8, yf⟩ := nine_cells ky; clear kx ky)
    | (go_at_call 25; refine (right_any (HX.out _ hB1)).mono ?_; rw [hrx]; rintro e w2 ⟨rfl, hb2⟩; have hB2 := belowS hB1 hb2; clear x0 x1 x2 x3 x4 x5 x6 x7 x8 xf y0 y1 y2 y3 y4 y5 y6 y7 y8 yf; obtain ⟨kx, ky⟩ := HK.out _ hB2; obtain ⟨x0, x1, x2, x3, x4, x5, x6, x7, x8, xf⟩ := nine_cells kx; obtain ⟨y0, y1, y2, y3, y4, y5, y6, y7, y8, yf⟩ := nine_cells ky; clear kx ky)
    | (go_at_call 16; refine (awake_any _).mono ?_; rintro e w1 ⟨rfl, hb1⟩; have hB1 := belowS hB0 hb1; clear x0 x1 x2 x3 x4 x5 x6 x7 x8 xf y0 y1 y2 y3 y4 y5 y6 y7 y8 yf; obtain ⟨kx, ky⟩ := HK.out _ hB1; obtain ⟨x0, x1, x2, x3, x4, x5, x6, x7, x8, xf⟩ := nine_cells kx; obtain ⟨y0, y1, y2, y3, y4, y5, y6, y7, y8, yf⟩ := nine_cells ky; clear kx ky))
  have hBd := belowS hB5 (below_drew (Below.refl w5.heap.size w5))
  have hTx5 := hTx.drew
  have hTy5 := hTy.drew
  clear x0 x1 x2 x3 x4 x5 x6 x7 x8 xf y0 y1 y2 y3 y4 y5 y6 y7 y8 yf
  obtain ⟨kx, ky⟩ := HK.out _ hBd; obtain ⟨x0, x1, x2, x3, x4, x5, x6, x7, x8, xf⟩ := nine_cells kx; obtain ⟨y0, y1, y2, y3, y4, y5, y6, y7, y8, yf⟩ := nine_cells ky; clear kx ky
  go_region_held3 (fun w' => w'.cell? ⟨w.heap.size, 0, none⟩ = some (.int .i64 x.f0) ∧ w'.cell? ⟨w.heap.size, 1, none⟩ = some (.bool x.f1.f0) ∧ w'.cell? ⟨w.heap.size, 2, none⟩ = some (.slice A2 x.f1.f1.length c2) ∧ w'.cell? ⟨w.heap.size, 3, none⟩ = some (.string x.f2) ∧ w'.cell? ⟨w.heap.size, 4, none⟩ = some (.int .i64 x.f3) ∧ w'.cell? ⟨w.heap.size, 5, none⟩ = some (.int .i64 x.f4) ∧ w'.cell? ⟨w.heap.size, 6, none⟩ = some (.bool x.f5) ∧ w'.cell? ⟨w.heap.size, 7, none⟩ = some (.bool x.f6) ∧ w'.cell? ⟨w.heap.size, 8, none⟩ = some (.slice A8 x.f7.length c8) ∧ w'.cell? ⟨w.heap.size + 1, 0, none⟩ = some (.int .i64 y.f0) ∧ w'.cell? ⟨w.heap.size + 1, 1, none⟩ = some (.bool y.f1.f0) ∧ w'.cell? ⟨w.heap.size + 1, 2, none⟩ = some (.slice D2 y.f1.f1.length d2) ∧ w'.cell? ⟨w.heap.size + 1, 3, none⟩ = some (.string y.f2) ∧ w'.cell? ⟨w.heap.size + 1, 4, none⟩ = some (.int .i64 y.f3) ∧ w'.cell? ⟨w.heap.size + 1, 5, none⟩ = some (.int .i64 y.f4) ∧ w'.cell? ⟨w.heap.size + 1, 6, none⟩ = some (.bool y.f5) ∧ w'.cell? ⟨w.heap.size + 1, 7, none⟩ = some (.bool y.f6) ∧ w'.cell? ⟨w.heap.size + 1, 8, none⟩ = some (.slice D8 y.f7.length d8)) (first | exact ⟨by with_reducible assumption, by with_reducible assumption, by with_reducible assumption, by with_reducible assumption, by with_reducible assumption, by with_reducible assumption, by with_reducible assumption, by with_reducible assumption, by with_reducible assumption, by with_reducible assumption, by with_reducible assumption, by with_reducible assumption, by with_reducible assumption, by with_reducible assumption, by with_reducible assumption, by with_reducible assumption, by with_reducible assumption, by with_reducible assumption⟩)
    (first
      | (go_at_call 20; obtain ⟨r, hr, hcall⟩ := same_any hT7.readR hT8.readR (small_canon x sx) HZ.out.2.2; refine hcall.mono ?_; clear hcall; rintro e w9 ⟨rfl, hb9⟩; have HR := Lib.hid hr; clear hr; have hB9 := belowS hB8 hb9; clear x0 x1 x2 x3 x4 x5 x6 x7 x8 xf y0 y1 y2 y3 y4 y5 y6 y7 y8 yf; obtain ⟨kx, ky⟩ := HK.out _ hB9; obtain ⟨x0, x1, x2, x3, x4, x5, x6, x7, x8, xf⟩ := nine_cells kx; obtain ⟨y0, y1, y2, y3, y4, y5, y6, y7, y8, yf⟩ := nine_cells ky; clear kx ky)
      | (go_at_call 22; refine (canon_any (HY.out _ hB7) sy HZ.out.2.1).mono ?_; dsimp only [treeV]; rintro e w8 ⟨q2, q8, rfl, hT8, hb8⟩; obtain ⟨G2, g2, G8, g8, rfl, rfl, -⟩ := hT8.forms; have hB8 := belowS hB7 hb8; replace hT7 := hT7.below hb8; clear x0 x1 x2 x3 x4 x5 x6 x7 x8 xf y0 y1 y2 y3 y4 y5 y6 y7 y8 yf; obtain ⟨kx, ky⟩ := HK.out _ hB8; obtain ⟨x0, x1, x2, x3, x4, x5, x6, x7, x8, xf⟩ := nine_cells kx; obtain ⟨y0, y1, y2, y3, y4, y5, y6, y7, y8, yf⟩ := nine_cells ky; clear kx ky)
      | (go_at_call 22; refine (canon_any (HX.out _ hBd) sx HZ.out.1).mono ?_; dsimp only [treeV]; rintro e w7 ⟨p2, p8, rfl, hT7, hb7⟩; obtain ⟨F2, f2, F8, f8, rfl, rfl, -⟩ := hT7.forms; have hB7 := belowS hBd hb7; clear x0 x1 x2 x3 x4 x5 x6 x7 x8 xf y0 y1 y2 y3 y4 y5 y6 y7 y8 yf; obtain ⟨kx, ky⟩ := HK.out _ hB7; obtain ⟨x0, x1, x2, x3, x4, x5, x6, x7, x8, xf⟩ := nine_cells kx; obtain ⟨y0, y1, y2, y3, y4, y5, y6, y7, y8, yf⟩ := nine_cells ky; clear kx ky))
  all_goals
    (clear x0 x1 x2 x3 x4 x5 x6 x7 x8 xf y0 y1 y2 y3 y4 y5 y6 y7 y8 yf
     have hTx9 := hTx5.below (belowS hb7 (belowS hb8 hb9))
     have hTy9 := hTy5.below (belowS hb7 (belowS hb8 hb9))
     have E1 : ∀ r1 : Bool, (r1 = true ↔ plainF (formOf x).1 = plainF (formOf y).1) → r1 = r := fun r1 h => Bool.eq_iff_iff.2 (by rw [h, HC.out.1, HC.out.2]; exact HR.out.symm)
     have E2 : ∀ r1 : Bool, (r1 = true ↔ plainF (formOf y).1 = plainF (formOf x).1) → r1 = r := fun r1 h => E1 r1 (h.trans eq_comm)
     have E1 := Lib.hid E1
     have E2 := Lib.hid E2
     have C1 := sameF_any _ _ _ _ _ fx fy hTx9 hTy9
     have C2 := fun W (h : Below w9.heap.size w9 W) => sameF_any _ _ _ _ _ fy fx (hTy9.below h) (hTx9.below h)
     have C3 := fun W (h : Below w9.heap.size w9 W) => sameF_any _ _ _ _ _ fx fx (hTx9.below h) (hTx9.below h)
     have C4 := fun W (h : Below w9.heap.size w9 W) => sameF_any (formOf x).1 (.not (formOf x).1) _ (.iface 93 (.agg #[.iface tx zx])) W fx fx (hTx9.below h) ⟨_, rfl, hTx9.below h⟩
     have D1 := Lib.hid C1
     have D2 := Lib.hid C2
     have D3 := Lib.hid C3
     have D4 := Lib.hid C4
     clear C1 C2 C3 C4 hTx9 hTy9 hTx5 hTy5 hTx hTy
     go_wp2_with (first
       | (go_at_call 45; refine (D4.out _ hC3).mono ?_; rintro e z4 ⟨r4, rfl, hr4, hb13⟩; obtain rfl : r4 = false := Bool.eq_false_iff.2 (fun h => not_ne _ (hr4.1 h)); have hC4 := belowS hC3 hb13)
       | (go_at_call 45; refine (D3.out _ hC2).mono ?_; rintro e z3 ⟨r3, rfl, hr3, hb12⟩; obtain rfl : r3 = true := hr3.2 (by simp); have hC3 := belowS hC2 hb12)
       | (go_at_call 45; refine (D2.out _ hC1).mono ?_; rintro e z2 ⟨r2, rfl, hr2, hb11⟩; obtain rfl := E2.out r2 hr2; have hC2 := belowS hC1 hb11)
       | (go_at_call 45; refine D1.out.mono ?_; rintro e z1 ⟨r1, rfl, hr1, hC1⟩; obtain rfl := E1.out r1 hr1))
     go_ret
     exact ⟨rfl, belowS hBS (belowS hB9 hC4)⟩)
theorem law12 (x : S29) (A2 A8 : Option Addr) (c2 c8 : Nat) (y : S29) (D2 D8 : Option Addr) (d2 d8 : Nat) (w : World) (hRx : ReadR w x A2 c2 A8 c8) (_ : WfS x) (hRy : ReadR w y D2 d2 D8 d8) (_ : WfS y) :
    Calls Try.prog 12 #[treeV x (.slice A2 x.f1.f1.length c2) (.slice A8 x.f7.length c8), treeV y (.slice D2 y.f1.f1.length d2) (.slice D8 y.f7.length d8)] w fun e w' => e = .returned (.bool true) ∧ Below w.heap.size w w' := by
  cases hrx : rightB x with
  | false => exact law12_a x y A2 A8 D2 D8 c2 c8 d2 d8 w hRx hRy hrx
  | true =>
    cases hry : rightB y with
    | false => exact law12_b x y A2 A8 D2 D8 c2 c8 d2 d8 w hRx hRy hrx hry
    | true => exact law12_c x y A2 A8 D2 D8 c2 c8 d2 d8 w hRx hRy hrx hry
end Go.Proofs.Ytddpojinlapmfaa.PRef
