/- FormulaOdd: the law's body. -/
import Derived.Test.YtddpojinlapmfaaSameD
import Derived.Test.YtddpojinlapmfaaRefR
import Derived.Test.YtddpojinlapmfaaLinkA
import Derived.Test.YtddpojinlapmfaaAwake
import Derived.Test.YtddpojinlapmfaaOpen
namespace Go.Proofs.Ytddpojinlapmfaa.PRef
set_option linter.unusedVariables false
set_option linter.unusedSimpArgs false
open Go.RowKit Go.Proofs.YtddpojinlapmfaaW.PrintWords Go.Proofs.YtddpojinlapmfaaW.PrintLast Go.Proofs.YtddpojinlapmfaaW.PrintMore

theorem form_ifaceG {x : S29} (ho : (formOf x).2 = true) {w : World} {v : Value} (h : IsFm w (formOf x).1 v) : ∃ (a : Nat) (y : Value), v = .iface a y := by
  rcases form_inv x ho with ⟨h0, h7, e⟩ | ⟨a, b, h7, ha, hb, h0, -, e⟩ | ⟨a, h7, ha, h0⟩ | ⟨a, b, h7, ha, hb, h0⟩
  · rw [e] at h; cases h; exact ⟨_, _, rfl⟩
  · rw [e] at h; obtain ⟨vl, vr, rfl, h1, h2⟩ := h; exact ⟨_, _, rfl⟩
  · rcases h0 with ⟨h0, e⟩ | ⟨h0, e⟩ <;> rw [e] at h
    · obtain ⟨_, rfl, _⟩ := h; exact ⟨_, _, rfl⟩
    · obtain ⟨_, rfl, _⟩ := h; exact ⟨_, _, rfl⟩
  · rcases h0 with ⟨h0, e⟩ | ⟨h0, e⟩ | ⟨h0, e⟩ | ⟨h0, e⟩ <;> rw [e] at h <;> (obtain ⟨_, _, rfl, _⟩ := h; exact ⟨_, _, rfl⟩)
theorem rightG {x : S29} (h : rightB x = true) : SmallS x ∧ (formOf x).2 = true := by
  simp only [rightB, Bool.and_eq_true] at h
  exact ⟨(few_short h.1).small, h.2⟩
theorem three_blocks {w wA : World} {c0 c1 c2 : Array Value} {t0 t1 t2 : Nat} (h : ((w.alloc (.cells c0 t0)).alloc (.cells c1 t1)).alloc (.cells c2 t2) = wA) :
    wA.heap[w.heap.size]? = some (.cells c0 t0 (0, 0)) ∧ wA.heap[w.heap.size + 1]? = some (.cells c1 t1 (0, 0)) ∧ wA.heap[w.heap.size + 1 + 1]? = some (.cells c2 t2 (0, 0)) ∧ Below w.heap.size w wA ∧ wA.heap.size = w.heap.size + 1 + 1 + 1 := by
  subst h
  refine ⟨blk_alloc (blk_alloc (blk_new _ _) _) _, ?_, ?_, (((Below.refl _ w).alloc (Nat.le_refl _) _).alloc (by simp) _).alloc (by simp; omega) _, by simp⟩
  · have := blk_alloc (blk_new (w.alloc (.cells c0 t0)) (.cells c1 t1)) (.cells c2 t2)
    rwa [World.size_alloc] at this
  · have := blk_new ((w.alloc (.cells c0 t0)).alloc (.cells c1 t1)) (.cells c2 t2)
    rwa [World.size_alloc, World.size_alloc] at this
theorem sameFT_any (F G : Fm) (v u : Value) (w : World) (hF : SmallF F) (hG : SmallF G) (hv : IsFm w F v) (hu : IsFm w G u) (h : plainF F = plainF G) :
    Calls Try.prog 45 #[v, u] w fun e w' => e = .returned (.bool true) ∧ Below w.heap.size w w' :=
  (sameF_any F G v u w hF hG hv hu).mono fun e w' ⟨r, he, hr, hb⟩ => ⟨by rw [he, hr.2 h], hb⟩
theorem sameFF_any (F G : Fm) (v u : Value) (w : World) (hF : SmallF F) (hG : SmallF G) (hv : IsFm w F v) (hu : IsFm w G u) (h : plainF F ≠ plainF G) :
    Calls Try.prog 45 #[v, u] w fun e w' => e = .returned (.bool false) ∧ Below w.heap.size w w' :=
  (sameF_any F G v u w hF hG hv hu).mono fun e w' ⟨r, he, hr, hb⟩ => ⟨by rw [he, Bool.eq_false_iff.2 (fun h' => h (hr.1 h'))], hb⟩
def oddA (rel exp : Int) (p : Option Addr) : Fm := .atom (.add (.odd .nilIface) (.pow (.name ⟨#[120]⟩) exp)) rel (.odd (.iface 89 (.pointer p)))
def oddB : Fm := .atom (.add (.num false []) (.pow (.name ⟨#[120]⟩) 0)) 3 (.num false [])
theorem oddA_is (w : World) (rel exp : Int) (p : Option Addr) : IsFm w (oddA rel exp p) (.iface 91 (.agg #[.iface 88 (.agg #[.nilIface, .iface 72 (.agg #[.iface 82 (.agg #[.string ⟨#[120]⟩]), .int .i64 exp])]), .int .i64 rel, .iface 89 (.pointer p)])) :=
  ⟨_, _, rfl, ⟨_, _, rfl, ⟨rfl, .inl rfl⟩, ⟨_, rfl, rfl⟩⟩, ⟨rfl, .inr ⟨_, rfl⟩⟩⟩
theorem num0_is (w : World) : IsTm w (.num false []) (.iface 80 (.agg #[.bool false, .slice none 0 0])) := ⟨none, 0, rfl, Nat.le_refl _, nil_C⟩
theorem oddB_is (w : World) : IsFm w oddB (.iface 91 (.agg #[.iface 88 (.agg #[.iface 80 (.agg #[.bool false, .slice none 0 0]), .iface 72 (.agg #[.iface 82 (.agg #[.string ⟨#[120]⟩]), .int .i64 0])]), .int .i64 3, .iface 80 (.agg #[.bool false, .slice none 0 0])])) :=
  ⟨_, _, rfl, ⟨_, _, rfl, num0_is w, ⟨_, rfl, rfl⟩⟩, num0_is w⟩
theorem odd_small : SmallF oddB ∧ ∀ rel exp p, SmallF (oddA rel exp p) := ⟨by simp [oddB, SmallF, SmallT], fun _ _ _ => by simp [oddA, SmallF, SmallT]⟩
theorem odd_plain (rel exp : Int) (p : Option Addr) (h1 : ¬ (1 ≤ rel ∧ rel ≤ 6)) (h2 : exp < 0) : plainF (oddA rel exp p) = plainF oddB := by
  have e1 : sixB rel = false := by
    unfold sixB
    by_cases h : 1 ≤ rel
    · have : ¬ rel ≤ 6 := fun h' => h1 ⟨h, h'⟩
      simp [this]
    · simp [h]
  have e2 : normI false [] = z25 := rfl
  have e3 : ¬ 0 ≤ exp := by omega
  simp only [oddA, plainF, plainT, e1, if_neg e3, Bool.false_eq_true, if_false]
  rfl
theorem odd_ne (rel exp : Int) (p : Option Addr) : plainF (oddA rel exp p) ≠ plainF (.truth false) := by
  intro h
  have := congrArg S29.f0 h
  simp [oddA, plainF, node, leaf] at this
set_option maxRecDepth 100000 in
set_option maxHeartbeats 8000000 in
theorem law11_a (x : S29) (A2 A8 : Option Addr) (c2 c8 : Nat) (rel exp : Int) (w : World) (hRx : ReadR w x A2 c2 A8 c8) (hrx : rightB x = false) :
    Calls Try.prog 11 #[treeV x (.slice A2 x.f1.f1.length c2) (.slice A8 x.f7.length c8), .int .i64 rel, .int .i64 exp] w fun e w' => e = .returned (.bool true) ∧ Below w.heap.size w w' := by
  have hu29 := Try.underlying29
  obtain ⟨wS, hwS⟩ : ∃ wS, w.alloc (.cells #[.int .i64 x.f0, .bool x.f1.f0, .slice A2 x.f1.f1.length c2, .string x.f2, .int .i64 x.f3, .int .i64 x.f4, .bool x.f5, .bool x.f6, .slice A8 x.f7.length c8] 29) = wS := ⟨_, rfl⟩
  have kx : wS.heap[w.heap.size]? = some (.cells #[.int .i64 x.f0, .bool x.f1.f0, .slice A2 x.f1.f1.length c2, .string x.f2, .int .i64 x.f3, .int .i64 x.f4, .bool x.f5, .bool x.f6, .slice A8 x.f7.length c8] 29 (0, 0)) := by rw [← hwS]; exact blk_new _ _
  have hBS : Below w.heap.size w wS := by rw [← hwS]; exact (Below.refl _ w).alloc (Nat.le_refl _) _
  have HK : ∀ W, Below wS.heap.size wS W → W.heap[w.heap.size]? = some (.cells #[.int .i64 x.f0, .bool x.f1.f0, .slice A2 x.f1.f1.length c2, .string x.f2, .int .i64 x.f3, .int .i64 x.f4, .bool x.f5, .bool x.f6, .slice A8 x.f7.length c8] 29 (0, 0)) := fun W h => blk_below kx h
  have HX : ∀ W, Below wS.heap.size wS W → ReadR W x A2 c2 A8 c8 := fun W h => hRx.below (belowS hBS h)
  have HK := Lib.hid HK
  have HX := Lib.hid HX
  obtain ⟨x0, x1, x2, x3, x4, x5, x6, x7, x8, xf⟩ := nine_cells kx
  have hB0 := Below.refl wS.heap.size wS
  clear kx hRx
  go_enter Try.func11, Try.ntmps11
  go_wp2_with (first
    | (go_at_call 16; refine (awake_any _).mono ?_; rintro e w3 ⟨rfl, hb3⟩; have hB3 := belowS hB2 hb3)
    | (go_at_call 25; refine (right_any (HX.out _ hB1)).mono ?_; rw [hrx]; rintro e w2 ⟨rfl, hb2⟩; have hB2 := belowS hB1 hb2; clear x0 x1 x2 x3 x4 x5 x6 x7 x8 xf; obtain ⟨x0, x1, x2, x3, x4, x5, x6, x7, x8, xf⟩ := nine_cells (HK.out _ hB2))
    | (go_at_call 16; refine (awake_any _).mono ?_; rintro e w1 ⟨rfl, hb1⟩; have hB1 := belowS hB0 hb1; clear x0 x1 x2 x3 x4 x5 x6 x7 x8 xf; obtain ⟨x0, x1, x2, x3, x4, x5, x6, x7, x8, xf⟩ := nine_cells (HK.out _ hB1)))
  go_ret
  exact ⟨rfl, belowS hBS hB3⟩
set_option maxRecDepth 100000 in
set_option maxHeartbeats 8000000 in
theorem law11_b (x : S29) (A2 A8 : Option Addr) (c2 c8 : Nat) (rel exp : Int) (w : World) (hRx : ReadR w x A2 c2 A8 c8) (hrx : rightB x = true) (h1 : 1 ≤ rel) (h2 : rel ≤ 6) :
    Calls Try.prog 11 #[treeV x (.slice A2 x.f1.f1.length c2) (.slice A8 x.f7.length c8), .int .i64 rel, .int .i64 exp] w fun e w' => e = .returned (.bool true) ∧ Below w.heap.size w w' := by
  have hu29 := Try.underlying29
  obtain ⟨wS, hwS⟩ : ∃ wS, w.alloc (.cells #[.int .i64 x.f0, .bool x.f1.f0, .slice A2 x.f1.f1.length c2, .string x.f2, .int .i64 x.f3, .int .i64 x.f4, .bool x.f5, .bool x.f6, .slice A8 x.f7.length c8] 29) = wS := ⟨_, rfl⟩
  have kx : wS.heap[w.heap.size]? = some (.cells #[.int .i64 x.f0, .bool x.f1.f0, .slice A2 x.f1.f1.length c2, .string x.f2, .int .i64 x.f3, .int .i64 x.f4, .bool x.f5, .bool x.f6, .slice A8 x.f7.length c8] 29 (0, 0)) := by rw [← hwS]; exact blk_new _ _
  have hBS : Below w.heap.size w wS := by rw [← hwS]; exact (Below.refl _ w).alloc (Nat.le_refl _) _
  have HK : ∀ W, Below wS.heap.size wS W → W.heap[w.heap.size]? = some (.cells #[.int .i64 x.f0, .bool x.f1.f0, .slice A2 x.f1.f1.length c2, .string x.f2, .int .i64 x.f3, .int .i64 x.f4, .bool x.f5, .bool x.f6, .slice A8 x.f7.length c8] 29 (0, 0)) := fun W h => blk_below kx h
  have HX : ∀ W, Below wS.heap.size wS W → ReadR W x A2 c2 A8 c8 := fun W h => hRx.below (belowS hBS h)
  have HK := Lib.hid HK
  have HX := Lib.hid HX
  obtain ⟨x0, x1, x2, x3, x4, x5, x6, x7, x8, xf⟩ := nine_cells kx
  have hB0 := Below.refl wS.heap.size wS
  clear kx hRx
  obtain ⟨sx, ox⟩ := rightG hrx
  have fx := small_form x sx
  have g1' : decide (1 ≤ rel) = true := decide_eq_true h1
  have g2' : decide (rel ≤ 6) = true := decide_eq_true h2
  go_enter Try.func11, Try.ntmps11
  go_wp2_with (first
    | (go_at_call 45; refine (D2.out _ hb4 _).mono ?_; rintro e w5 ⟨rfl, hb5⟩; have hBE := belowS hbA4 hb5)
    | (go_at_call 45; refine D1.out.mono ?_; rintro e w4 ⟨rfl, hb4⟩; have kb4 := blk_below HKa.out hb4; obtain ⟨wC, hwC⟩ : ∃ wC, w4.alloc (.cells #[.bool true] 78) = wC := ⟨_, rfl⟩; have hbC : Below w4.heap.size w4 wC := by rw [← hwC]; exact (Below.refl _ w4).alloc (Nat.le_refl _) _
       have kb5 := blk_below kb4 hbC; obtain ⟨g0, g1⟩ := box_of kb5; have hbA4 := belowS hb4 hbC; replace hb4 := hbA4)
    | (go_at_call 23; refine (of_any x sx A2 c2 A8 c8 _ (HX.out _ hB2)).mono ?_; rw [ox, if_pos rfl, if_pos rfl]; rintro e w3 ⟨vx, rfl, hTx, hb3⟩; obtain ⟨tx, zx, rfl⟩ : ∃ (a : Nat) (z : Value), vx = .iface a z := form_ifaceG ox hTx
       have hB3 := belowS hB2 hb3
       obtain ⟨wA, hwA⟩ : ∃ wA, ((w3.alloc (.cells #[.bool false] 78)).alloc (.cells #[.bool false, .slice none 0 0] 80)).alloc (.cells #[.string ⟨#[120]⟩] 82) = wA := ⟨_, rfl⟩
       obtain ⟨ka, kb, kc, hBA, hzA⟩ := three_blocks hwA
       have hTA := hTx.below hBA
       obtain ⟨d0, d1⟩ := box_of ka
       obtain ⟨d2, d3, _, _⟩ := two_cells kb
       obtain ⟨d4, d5⟩ := box_of kc
       have hBSA := belowS hB3 hBA
       have HKa := Lib.hid ka
       have HTA := Lib.hid hTA
       clear ka kb kc hTx hTA
       have C1 := sameFT_any (.and (.odd .nilIface) (formOf x).1) (.and (.truth false) (formOf x).1) (.iface 85 (.agg #[.nilIface, .iface tx zx])) (.iface 85 (.agg #[.iface 78 (.agg #[.bool false]), .iface tx zx])) wA ⟨trivial, fx⟩ ⟨trivial, fx⟩ ⟨_, _, rfl, ⟨rfl, .inl rfl⟩, HTA.out⟩ ⟨_, _, rfl, rfl, HTA.out⟩ rfl
       have C2 := fun W (h : Below wA.heap.size wA W) (p : Option Addr) => sameFT_any (.or (formOf x).1 (.odd (.iface 86 (.pointer p)))) (.or (formOf x).1 (.truth false)) (.iface 87 (.agg #[.iface tx zx, .iface 86 (.pointer p)])) (.iface 87 (.agg #[.iface tx zx, .iface 78 (.agg #[.bool false])])) W ⟨fx, trivial⟩ ⟨fx, trivial⟩ ⟨_, _, rfl, HTA.out.below h, ⟨rfl, .inr ⟨_, rfl⟩⟩⟩ ⟨_, _, rfl, HTA.out.below h, rfl⟩ rfl
       have D1 := Lib.hid C1
       have D2 := Lib.hid C2
       clear C1 C2)
    | (go_at_call 25; refine (right_any (HX.out _ hB1)).mono ?_; rw [hrx]; rintro e w2 ⟨rfl, hb2⟩; have hB2 := belowS hB1 hb2; clear x0 x1 x2 x3 x4 x5 x6 x7 x8 xf; obtain ⟨x0, x1, x2, x3, x4, x5, x6, x7, x8, xf⟩ := nine_cells (HK.out _ hB2))
    | (go_at_call 16; refine (awake_any _).mono ?_; rintro e w1 ⟨rfl, hb1⟩; have hB1 := belowS hB0 hb1; clear x0 x1 x2 x3 x4 x5 x6 x7 x8 xf; obtain ⟨x0, x1, x2, x3, x4, x5, x6, x7, x8, xf⟩ := nine_cells (HK.out _ hB1)))
  go_ret
  exact ⟨rfl, belowS hBS (belowS hBSA hBE)⟩
set_option maxRecDepth 100000 in
set_option maxHeartbeats 8000000 in
theorem law11_c (x : S29) (A2 A8 : Option Addr) (c2 c8 : Nat) (rel exp : Int) (w : World) (hRx : ReadR w x A2 c2 A8 c8) (hrx : rightB x = true) (h1 : 1 ≤ rel) (h2 : ¬ rel ≤ 6) (h3 : 0 ≤ exp) :
    Calls Try.prog 11 #[treeV x (.slice A2 x.f1.f1.length c2) (.slice A8 x.f7.length c8), .int .i64 rel, .int .i64 exp] w fun e w' => e = .returned (.bool true) ∧ Below w.heap.size w w' := by
  have hu29 := Try.underlying29
  obtain ⟨wS, hwS⟩ : ∃ wS, w.alloc (.cells #[.int .i64 x.f0, .bool x.f1.f0, .slice A2 x.f1.f1.length c2, .string x.f2, .int .i64 x.f3, .int .i64 x.f4, .bool x.f5, .bool x.f6, .slice A8 x.f7.length c8] 29) = wS := ⟨_, rfl⟩
  have kx : wS.heap[w.heap.size]? = some (.cells #[.int .i64 x.f0, .bool x.f1.f0, .slice A2 x.f1.f1.length c2, .string x.f2, .int .i64 x.f3, .int .i64 x.f4, .bool x.f5, .bool x.f6, .slice A8 x.f7.length c8] 29 (0, 0)) := by rw [← hwS]; exact blk_new _ _
  have hBS : Below w.heap.size w wS := by rw [← hwS]; exact (Below.refl _ w).alloc (Nat.le_refl _) _
  have HK : ∀ W, Below wS.heap.size wS W → W.heap[w.heap.size]? = some (.cells #[.int .i64 x.f0, .bool x.f1.f0, .slice A2 x.f1.f1.length c2, .string x.f2, .int .i64 x.f3, .int .i64 x.f4, .bool x.f5, .bool x.f6, .slice A8 x.f7.length c8] 29 (0, 0)) := fun W h => blk_below kx h
  have HX : ∀ W, Below wS.heap.size wS W → ReadR W x A2 c2 A8 c8 := fun W h => hRx.below (belowS hBS h)
  have HK := Lib.hid HK
  have HX := Lib.hid HX
  obtain ⟨x0, x1, x2, x3, x4, x5, x6, x7, x8, xf⟩ := nine_cells kx
  have hB0 := Below.refl wS.heap.size wS
  clear kx hRx
  obtain ⟨sx, ox⟩ := rightG hrx
  have fx := small_form x sx
  have g1' : decide (1 ≤ rel) = true := decide_eq_true h1
  have g2' : decide (rel ≤ 6) = false := decide_eq_false h2
  have g3' : decide (0 ≤ exp) = true := decide_eq_true h3
  go_enter Try.func11, Try.ntmps11
  go_wp2_with (first
    | (go_at_call 45; refine (D2.out _ hb4 _).mono ?_; rintro e w5 ⟨rfl, hb5⟩; have hBE := belowS hbA4 hb5)
    | (go_at_call 45; refine D1.out.mono ?_; rintro e w4 ⟨rfl, hb4⟩; have kb4 := blk_below HKa.out hb4; obtain ⟨wC, hwC⟩ : ∃ wC, w4.alloc (.cells #[.bool true] 78) = wC := ⟨_, rfl⟩; have hbC : Below w4.heap.size w4 wC := by rw [← hwC]; exact (Below.refl _ w4).alloc (Nat.le_refl _) _
       have kb5 := blk_below kb4 hbC; obtain ⟨g0, g1⟩ := box_of kb5; have hbA4 := belowS hb4 hbC; replace hb4 := hbA4)
    | (go_at_call 23; refine (of_any x sx A2 c2 A8 c8 _ (HX.out _ hB2)).mono ?_; rw [ox, if_pos rfl, if_pos rfl]; rintro e w3 ⟨vx, rfl, hTx, hb3⟩; obtain ⟨tx, zx, rfl⟩ : ∃ (a : Nat) (z : Value), vx = .iface a z := form_ifaceG ox hTx
       have hB3 := belowS hB2 hb3
       obtain ⟨wA, hwA⟩ : ∃ wA, ((w3.alloc (.cells #[.bool false] 78)).alloc (.cells #[.bool false, .slice none 0 0] 80)).alloc (.cells #[.string ⟨#[120]⟩] 82) = wA := ⟨_, rfl⟩
       obtain ⟨ka, kb, kc, hBA, hzA⟩ := three_blocks hwA
       have hTA := hTx.below hBA
       obtain ⟨d0, d1⟩ := box_of ka
       obtain ⟨d2, d3, _, _⟩ := two_cells kb
       obtain ⟨d4, d5⟩ := box_of kc
       have hBSA := belowS hB3 hBA
       have HKa := Lib.hid ka
       have HTA := Lib.hid hTA
       clear ka kb kc hTx hTA
       have C1 := sameFT_any (.and (.odd .nilIface) (formOf x).1) (.and (.truth false) (formOf x).1) (.iface 85 (.agg #[.nilIface, .iface tx zx])) (.iface 85 (.agg #[.iface 78 (.agg #[.bool false]), .iface tx zx])) wA ⟨trivial, fx⟩ ⟨trivial, fx⟩ ⟨_, _, rfl, ⟨rfl, .inl rfl⟩, HTA.out⟩ ⟨_, _, rfl, rfl, HTA.out⟩ rfl
       have C2 := fun W (h : Below wA.heap.size wA W) (p : Option Addr) => sameFT_any (.or (formOf x).1 (.odd (.iface 86 (.pointer p)))) (.or (formOf x).1 (.truth false)) (.iface 87 (.agg #[.iface tx zx, .iface 86 (.pointer p)])) (.iface 87 (.agg #[.iface tx zx, .iface 78 (.agg #[.bool false])])) W ⟨fx, trivial⟩ ⟨fx, trivial⟩ ⟨_, _, rfl, HTA.out.below h, ⟨rfl, .inr ⟨_, rfl⟩⟩⟩ ⟨_, _, rfl, HTA.out.below h, rfl⟩ rfl
       have D1 := Lib.hid C1
       have D2 := Lib.hid C2
       clear C1 C2)
    | (go_at_call 25; refine (right_any (HX.out _ hB1)).mono ?_; rw [hrx]; rintro e w2 ⟨rfl, hb2⟩; have hB2 := belowS hB1 hb2; clear x0 x1 x2 x3 x4 x5 x6 x7 x8 xf; obtain ⟨x0, x1, x2, x3, x4, x5, x6, x7, x8, xf⟩ := nine_cells (HK.out _ hB2))
    | (go_at_call 16; refine (awake_any _).mono ?_; rintro e w1 ⟨rfl, hb1⟩; have hB1 := belowS hB0 hb1; clear x0 x1 x2 x3 x4 x5 x6 x7 x8 xf; obtain ⟨x0, x1, x2, x3, x4, x5, x6, x7, x8, xf⟩ := nine_cells (HK.out _ hB1)))
  go_ret
  exact ⟨rfl, belowS hBS (belowS hBSA hBE)⟩
set_option maxRecDepth 100000 in
set_option maxHeartbeats 8000000 in
theorem law11_d (x : S29) (A2 A8 : Option Addr) (c2 c8 : Nat) (rel exp : Int) (w : World) (hRx : ReadR w x A2 c2 A8 c8) (hrx : rightB x = true) (h1 : ¬ 1 ≤ rel) (h3 : 0 ≤ exp) :
    Calls Try.prog 11 #[treeV x (.slice A2 x.f1.f1.length c2) (.slice A8 x.f7.length c8), .int .i64 rel, .int .i64 exp] w fun e w' => e = .returned (.bool true) ∧ Below w.heap.size w w' := by
  have hu29 := Try.underlying29
  obtain ⟨wS, hwS⟩ : ∃ wS, w.alloc (.cells #[.int .i64 x.f0, .bool x.f1.f0, .slice A2 x.f1.f1.length c2, .string x.f2, .int .i64 x.f3, .int .i64 x.f4, .bool x.f5, .bool x.f6, .slice A8 x.f7.length c8] 29) = wS := ⟨_, rfl⟩
  have kx : wS.heap[w.heap.size]? = some (.cells #[.int .i64 x.f0, .bool x.f1.f0, .slice A2 x.f1.f1.length c2, .string x.f2, .int .i64 x.f3, .int .i64 x.f4, .bool x.f5, .bool x.f6, .slice A8 x.f7.length c8] 29 (0, 0)) := by rw [← hwS]; exact blk_new _ _
  have hBS : Below w.heap.size w wS := by rw [← hwS]; exact (Below.refl _ w).alloc (Nat.le_refl _) _
  have HK : ∀ W, Below wS.heap.size wS W → W.heap[w.heap.size]? = some (.cells #[.int .i64 x.f0, .bool x.f1.f0, .slice A2 x.f1.f1.length c2, .string x.f2, .int .i64 x.f3, .int .i64 x.f4, .bool x.f5, .bool x.f6, .slice A8 x.f7.length c8] 29 (0, 0)) := fun W h => blk_below kx h
  have HX : ∀ W, Below wS.heap.size wS W → ReadR W x A2 c2 A8 c8 := fun W h => hRx.below (belowS hBS h)
  have HK := Lib.hid HK
  have HX := Lib.hid HX
  obtain ⟨x0, x1, x2, x3, x4, x5, x6, x7, x8, xf⟩ := nine_cells kx
  have hB0 := Below.refl wS.heap.size wS
  clear kx hRx
  obtain ⟨sx, ox⟩ := rightG hrx
  have fx := small_form x sx
  have g1' : decide (1 ≤ rel) = false := decide_eq_false h1
  have g3' : decide (0 ≤ exp) = true := decide_eq_true h3
  go_enter Try.func11, Try.ntmps11
  go_wp2_with (first
    | (go_at_call 45; refine (D2.out _ hb4 _).mono ?_; rintro e w5 ⟨rfl, hb5⟩; have hBE := belowS hbA4 hb5)
    | (go_at_call 45; refine D1.out.mono ?_; rintro e w4 ⟨rfl, hb4⟩; have kb4 := blk_below HKa.out hb4; obtain ⟨wC, hwC⟩ : ∃ wC, w4.alloc (.cells #[.bool true] 78) = wC := ⟨_, rfl⟩; have hbC : Below w4.heap.size w4 wC := by rw [← hwC]; exact (Below.refl _ w4).alloc (Nat.le_refl _) _
       have kb5 := blk_below kb4 hbC; obtain ⟨g0, g1⟩ := box_of kb5; have hbA4 := belowS hb4 hbC; replace hb4 := hbA4)
    | (go_at_call 23; refine (of_any x sx A2 c2 A8 c8 _ (HX.out _ hB2)).mono ?_; rw [ox, if_pos rfl, if_pos rfl]; rintro e w3 ⟨vx, rfl, hTx, hb3⟩; obtain ⟨tx, zx, rfl⟩ : ∃ (a : Nat) (z : Value), vx = .iface a z := form_ifaceG ox hTx
       have hB3 := belowS hB2 hb3
       obtain ⟨wA, hwA⟩ : ∃ wA, ((w3.alloc (.cells #[.bool false] 78)).alloc (.cells #[.bool false, .slice none 0 0] 80)).alloc (.cells #[.string ⟨#[120]⟩] 82) = wA := ⟨_, rfl⟩
       obtain ⟨ka, kb, kc, hBA, hzA⟩ := three_blocks hwA
       have hTA := hTx.below hBA
       obtain ⟨d0, d1⟩ := box_of ka
       obtain ⟨d2, d3, _, _⟩ := two_cells kb
       obtain ⟨d4, d5⟩ := box_of kc
       have hBSA := belowS hB3 hBA
       have HKa := Lib.hid ka
       have HTA := Lib.hid hTA
       clear ka kb kc hTx hTA
       have C1 := sameFT_any (.and (.odd .nilIface) (formOf x).1) (.and (.truth false) (formOf x).1) (.iface 85 (.agg #[.nilIface, .iface tx zx])) (.iface 85 (.agg #[.iface 78 (.agg #[.bool false]), .iface tx zx])) wA ⟨trivial, fx⟩ ⟨trivial, fx⟩ ⟨_, _, rfl, ⟨rfl, .inl rfl⟩, HTA.out⟩ ⟨_, _, rfl, rfl, HTA.out⟩ rfl
       have C2 := fun W (h : Below wA.heap.size wA W) (p : Option Addr) => sameFT_any (.or (formOf x).1 (.odd (.iface 86 (.pointer p)))) (.or (formOf x).1 (.truth false)) (.iface 87 (.agg #[.iface tx zx, .iface 86 (.pointer p)])) (.iface 87 (.agg #[.iface tx zx, .iface 78 (.agg #[.bool false])])) W ⟨fx, trivial⟩ ⟨fx, trivial⟩ ⟨_, _, rfl, HTA.out.below h, ⟨rfl, .inr ⟨_, rfl⟩⟩⟩ ⟨_, _, rfl, HTA.out.below h, rfl⟩ rfl
       have D1 := Lib.hid C1
       have D2 := Lib.hid C2
       clear C1 C2)
    | (go_at_call 25; refine (right_any (HX.out _ hB1)).mono ?_; rw [hrx]; rintro e w2 ⟨rfl, hb2⟩; have hB2 := belowS hB1 hb2; clear x0 x1 x2 x3 x4 x5 x6 x7 x8 xf; obtain ⟨x0, x1, x2, x3, x4, x5, x6, x7, x8, xf⟩ := nine_cells (HK.out _ hB2))
    | (go_at_call 16; refine (awake_any _).mono ?_; rintro e w1 ⟨rfl, hb1⟩; have hB1 := belowS hB0 hb1; clear x0 x1 x2 x3 x4 x5 x6 x7 x8 xf; obtain ⟨x0, x1, x2, x3, x4, x5, x6, x7, x8, xf⟩ := nine_cells (HK.out _ hB1)))
  go_ret
  exact ⟨rfl, belowS hBS (belowS hBSA hBE)⟩
set_option maxRecDepth 100000 in
set_option maxHeartbeats 8000000 in
theorem law11_e (x : S29) (A2 A8 : Option Addr) (c2 c8 : Nat) (rel exp : Int) (w : World) (hRx : ReadR w x A2 c2 A8 c8) (hrx : rightB x = true) (h1 : ¬ 1 ≤ rel) (h3 : ¬ 0 ≤ exp) :
    Calls Try.prog 11 #[treeV x (.slice A2 x.f1.f1.length c2) (.slice A8 x.f7.length c8), .int .i64 rel, .int .i64 exp] w fun e w' => e = .returned (.bool true) ∧ Below w.heap.size w w' := by
  have hu29 := Try.underlying29
  obtain ⟨wS, hwS⟩ : ∃ wS, w.alloc (.cells #[.int .i64 x.f0, .bool x.f1.f0, .slice A2 x.f1.f1.length c2, .string x.f2, .int .i64 x.f3, .int .i64 x.f4, .bool x.f5, .bool x.f6, .slice A8 x.f7.length c8] 29) = wS := ⟨_, rfl⟩
  have kx : wS.heap[w.heap.size]? = some (.cells #[.int .i64 x.f0, .bool x.f1.f0, .slice A2 x.f1.f1.length c2, .string x.f2, .int .i64 x.f3, .int .i64 x.f4, .bool x.f5, .bool x.f6, .slice A8 x.f7.length c8] 29 (0, 0)) := by rw [← hwS]; exact blk_new _ _
  have hBS : Below w.heap.size w wS := by rw [← hwS]; exact (Below.refl _ w).alloc (Nat.le_refl _) _
  have HK : ∀ W, Below wS.heap.size wS W → W.heap[w.heap.size]? = some (.cells #[.int .i64 x.f0, .bool x.f1.f0, .slice A2 x.f1.f1.length c2, .string x.f2, .int .i64 x.f3, .int .i64 x.f4, .bool x.f5, .bool x.f6, .slice A8 x.f7.length c8] 29 (0, 0)) := fun W h => blk_below kx h
  have HX : ∀ W, Below wS.heap.size wS W → ReadR W x A2 c2 A8 c8 := fun W h => hRx.below (belowS hBS h)
  have HK := Lib.hid HK
  have HX := Lib.hid HX
  obtain ⟨x0, x1, x2, x3, x4, x5, x6, x7, x8, xf⟩ := nine_cells kx
  have hB0 := Below.refl wS.heap.size wS
  clear kx hRx
  obtain ⟨sx, ox⟩ := rightG hrx
  have fx := small_form x sx
  have g1' : decide (1 ≤ rel) = false := decide_eq_false h1
  have g3' : decide (0 ≤ exp) = false := decide_eq_false h3
  have hN : ¬ (1 ≤ rel ∧ rel ≤ 6) := fun h => h1 h.1
  have hE : exp < 0 := by omega
  go_enter Try.func11, Try.ntmps11
  go_wp2_with (first
    | (go_at_call 45; refine (D3.out _ hE2).mono ?_; rintro e z3 ⟨rfl, hb6⟩; have hE3 := belowS hE2 hb6)
    | (go_at_call 45; refine (D2.out _ hE1).mono ?_; rintro e z2 ⟨rfl, hb5⟩; have hE2 := belowS hE1 hb5; obtain ⟨i0, i1, i2⟩ := three_box (HKB.out _ hE2).1; obtain ⟨g0, g1⟩ := box_of (HKB.out _ hE2).2.2)
    | (go_at_call 45; refine D1.out.mono ?_; rintro e z1 ⟨rfl, hE1⟩; obtain ⟨i0, i1, i2⟩ := three_box (HKB.out _ hE1).1; obtain ⟨g0, g1⟩ := box_of (HKB.out _ hE1).2.2)
    | (go_at_call 23; refine (of_any x sx A2 c2 A8 c8 _ (HX.out _ hB2)).mono ?_; rw [ox, if_pos rfl, if_pos rfl]; rintro e w3 ⟨vx, rfl, hTx, hb3⟩; obtain ⟨tx, zx, rfl⟩ : ∃ (a : Nat) (z : Value), vx = .iface a z := form_ifaceG ox hTx
       have hB3 := belowS hB2 hb3
       obtain ⟨wA, hwA⟩ : ∃ wA, ((w3.alloc (.cells #[.bool false] 78)).alloc (.cells #[.bool false, .slice none 0 0] 80)).alloc (.cells #[.string ⟨#[120]⟩] 82) = wA := ⟨_, rfl⟩
       obtain ⟨ka, kb, kc, hBA, hzA⟩ := three_blocks hwA
       have hTA := hTx.below hBA
       obtain ⟨d0, d1⟩ := box_of ka
       obtain ⟨d2, d3, _, _⟩ := two_cells kb
       obtain ⟨d4, d5⟩ := box_of kc
       have hBSA := belowS hB3 hBA
       have HKa := Lib.hid ka
       have HTA := Lib.hid hTA
       clear ka kb kc hTx hTA
       obtain ⟨wB, hwB⟩ : ∃ wB, ((wA.alloc (.cells #[.iface 82 (.agg #[.string ⟨#[120]⟩]), .int .i64 exp] 72)).alloc (.cells #[.iface 88 (.agg #[.nilIface, .iface 72 (.agg #[.iface 82 (.agg #[.string ⟨#[120]⟩]), .int .i64 exp])]), .int .i64 rel, .iface 89 (.pointer (some ⟨w3.heap.size + 1 + 1, 0, none⟩))] 91)).alloc (.cells #[.iface 88 (.agg #[.iface 80 (.agg #[.bool false, .slice none 0 0]), .iface 72 (.agg #[.iface 82 (.agg #[.string ⟨#[120]⟩]), .int .i64 0])]), .int .i64 3, .iface 80 (.agg #[.bool false, .slice none 0 0])] 91) = wB := ⟨_, rfl⟩
       obtain ⟨la, lb, lc, hBB, hzB⟩ := three_blocks hwB
       rw [hzA] at la lb lc
       have HKB : ∀ W, Below wB.heap.size wB W → W.heap[w3.heap.size + 1 + 1 + 1 + 1]? = some (.cells #[.iface 88 (.agg #[.nilIface, .iface 72 (.agg #[.iface 82 (.agg #[.string ⟨#[120]⟩]), .int .i64 exp])]), .int .i64 rel, .iface 89 (.pointer (some ⟨w3.heap.size + 1 + 1, 0, none⟩))] 91 (0, 0)) ∧ W.heap[w3.heap.size + 1 + 1 + 1 + 1 + 1]? = some (.cells #[.iface 88 (.agg #[.iface 80 (.agg #[.bool false, .slice none 0 0]), .iface 72 (.agg #[.iface 82 (.agg #[.string ⟨#[120]⟩]), .int .i64 0])]), .int .i64 3, .iface 80 (.agg #[.bool false, .slice none 0 0])] 91 (0, 0)) ∧ W.heap[w3.heap.size]? = some (.cells #[.bool false] 78 (0, 0)) := fun W h => ⟨blk_below lb h, blk_below lc h, blk_below HKa.out (belowS hBB h)⟩
       have HKB := Lib.hid HKB
       have C1 := sameFT_any (oddA rel exp (some ⟨w3.heap.size + 1 + 1, 0, none⟩)) oddB _ _ wB (odd_small.2 _ _ _) odd_small.1 (oddA_is wB rel exp _) (oddB_is wB) (odd_plain rel exp _ hN hE)
       have C2 := fun W (h : Below wB.heap.size wB W) => sameFT_any (.not (.odd .nilIface)) (.not (.truth false)) (.iface 93 (.agg #[.nilIface])) (.iface 93 (.agg #[.iface 78 (.agg #[.bool false])])) W trivial trivial ⟨_, rfl, ⟨rfl, .inl rfl⟩⟩ ⟨_, rfl, rfl⟩ rfl
       have C3 := fun W (h : Below wB.heap.size wB W) => sameFF_any (oddA rel exp (some ⟨w3.heap.size + 1 + 1, 0, none⟩)) (.truth false) _ (.iface 78 (.agg #[.bool false])) W (odd_small.2 _ _ _) trivial (oddA_is W rel exp _) rfl (odd_ne rel exp _)
       have D1 := Lib.hid C1
       have D2 := Lib.hid C2
       have D3 := Lib.hid C3
       have hBSB := belowS hBSA hBB
       have ja := blk_below HKa.out hBB
       obtain ⟨g0, g1⟩ := box_of ja
       obtain ⟨i0, i1, i2⟩ := three_box lb
       obtain ⟨j0, j1, j2⟩ := three_box lc
       skip
       clear C1 C2 C3 la lb lc ja)
    | (go_at_call 25; refine (right_any (HX.out _ hB1)).mono ?_; rw [hrx]; rintro e w2 ⟨rfl, hb2⟩; have hB2 := belowS hB1 hb2; clear x0 x1 x2 x3 x4 x5 x6 x7 x8 xf; obtain ⟨x0, x1, x2, x3, x4, x5, x6, x7, x8, xf⟩ := nine_cells (HK.out _ hB2))
    | (go_at_call 16; refine (awake_any _).mono ?_; rintro e w1 ⟨rfl, hb1⟩; have hB1 := belowS hB0 hb1; clear x0 x1 x2 x3 x4 x5 x6 x7 x8 xf; obtain ⟨x0, x1, x2, x3, x4, x5, x6, x7, x8, xf⟩ := nine_cells (HK.out _ hB1)))
  go_ret
  exact ⟨rfl, belowS hBS (belowS hBSB hE3)⟩
set_option maxRecDepth 100000 in
set_option maxHeartbeats 8000000 in
theorem law11_f (x : S29) (A2 A8 : Option Addr) (c2 c8 : Nat) (rel exp : Int) (w : World) (hRx : ReadR w x A2 c2 A8 c8) (hrx : rightB x = true) (h1 : 1 ≤ rel) (h2 : ¬ rel ≤ 6) (h3 : ¬ 0 ≤ exp) :
    Calls Try.prog 11 #[treeV x (.slice A2 x.f1.f1.length c2) (.slice A8 x.f7.length c8), .int .i64 rel, .int .i64 exp] w fun e w' => e = .returned (.bool true) ∧ Below w.heap.size w w' := by
  have hu29 := Try.underlying29
  obtain ⟨wS, hwS⟩ : ∃ wS, w.alloc (.cells #[.int .i64 x.f0, .bool x.f1.f0, .slice A2 x.f1.f1.length c2, .string x.f2, .int .i64 x.f3, .int .i64 x.f4, .bool x.f5, .bool x.f6, .slice A8 x.f7.length c8] 29) = wS := ⟨_, rfl⟩
  have kx : wS.heap[w.heap.size]? = some (.cells #[.int .i64 x.f0, .bool x.f1.f0, .slice A2 x.f1.f1.length c2, .string x.f2, .int .i64 x.f3, .int .i64 x.f4, .bool x.f5, .bool x.f6, .slice A8 x.f7.length c8] 29 (0, 0)) := by rw [← hwS]; exact blk_new _ _
  have hBS : Below w.heap.size w wS := by rw [← hwS]; exact (Below.refl _ w).alloc (Nat.le_refl _) _
  have HK : ∀ W, Below wS.heap.size wS W → W.heap[w.heap.size]? = some (.cells #[.int .i64 x.f0, .bool x.f1.f0, .slice A2 x.f1.f1.length c2, .string x.f2, .int .i64 x.f3, .int .i64 x.f4, .bool x.f5, .bool x.f6, .slice A8 x.f7.length c8] 29 (0, 0)) := fun W h => blk_below kx h
  have HX : ∀ W, Below wS.heap.size wS W → ReadR W x A2 c2 A8 c8 := fun W h => hRx.below (belowS hBS h)
  have HK := Lib.hid HK
  have HX := Lib.hid HX
  obtain ⟨x0, x1, x2, x3, x4, x5, x6, x7, x8, xf⟩ := nine_cells kx
  have hB0 := Below.refl wS.heap.size wS
  clear kx hRx
  obtain ⟨sx, ox⟩ := rightG hrx
  have fx := small_form x sx
  have g1' : decide (1 ≤ rel) = true := decide_eq_true h1
  have g2' : decide (rel ≤ 6) = false := decide_eq_false h2
  have g3' : decide (0 ≤ exp) = false := decide_eq_false h3
  have hN : ¬ (1 ≤ rel ∧ rel ≤ 6) := fun h => h2 h.2
  have hE : exp < 0 := by omega
  go_enter Try.func11, Try.ntmps11
  go_wp2_with (first
    | (go_at_call 45; refine (D3.out _ hE2).mono ?_; rintro e z3 ⟨rfl, hb6⟩; have hE3 := belowS hE2 hb6)
    | (go_at_call 45; refine (D2.out _ hE1).mono ?_; rintro e z2 ⟨rfl, hb5⟩; have hE2 := belowS hE1 hb5; obtain ⟨i0, i1, i2⟩ := three_box (HKB.out _ hE2).1; obtain ⟨g0, g1⟩ := box_of (HKB.out _ hE2).2.2)
    | (go_at_call 45; refine D1.out.mono ?_; rintro e z1 ⟨rfl, hE1⟩; obtain ⟨i0, i1, i2⟩ := three_box (HKB.out _ hE1).1; obtain ⟨g0, g1⟩ := box_of (HKB.out _ hE1).2.2)
    | (go_at_call 23; refine (of_any x sx A2 c2 A8 c8 _ (HX.out _ hB2)).mono ?_; rw [ox, if_pos rfl, if_pos rfl]; rintro e w3 ⟨vx, rfl, hTx, hb3⟩; obtain ⟨tx, zx, rfl⟩ : ∃ (a : Nat) (z : Value), vx = .iface a z := form_ifaceG ox hTx
       have hB3 := belowS hB2 hb3
       obtain ⟨wA, hwA⟩ : ∃ wA, ((w3.alloc (.cells #[.bool false] 78)).alloc (.cells #[.bool false, .slice none 0 0] 80)).alloc (.cells #[.string ⟨#[120]⟩] 82) = wA := ⟨_, rfl⟩
       obtain ⟨ka, kb, kc, hBA, hzA⟩ := three_blocks hwA
       have hTA := hTx.below hBA
       obtain ⟨d0, d1⟩ := box_of ka
       obtain ⟨d2, d3, _, _⟩ := two_cells kb
       obtain ⟨d4, d5⟩ := box_of kc
       have hBSA := belowS hB3 hBA
       have HKa := Lib.hid ka
       have HTA := Lib.hid hTA
       clear ka kb kc hTx hTA
       obtain ⟨wB, hwB⟩ : ∃ wB, ((wA.alloc (.cells #[.iface 82 (.agg #[.string ⟨#[120]⟩]), .int .i64 exp] 72)).alloc (.cells #[.iface 88 (.agg #[.nilIface, .iface 72 (.agg #[.iface 82 (.agg #[.string ⟨#[120]⟩]), .int .i64 exp])]), .int .i64 rel, .iface 89 (.pointer (some ⟨w3.heap.size + 1 + 1, 0, none⟩))] 91)).alloc (.cells #[.iface 88 (.agg #[.iface 80 (.agg #[.bool false, .slice none 0 0]), .iface 72 (.agg #[.iface 82 (.agg #[.string ⟨#[120]⟩]), .int .i64 0])]), .int .i64 3, .iface 80 (.agg #[.bool false, .slice none 0 0])] 91) = wB := ⟨_, rfl⟩
       obtain ⟨la, lb, lc, hBB, hzB⟩ := three_blocks hwB
       rw [hzA] at la lb lc
       have HKB : ∀ W, Below wB.heap.size wB W → W.heap[w3.heap.size + 1 + 1 + 1 + 1]? = some (.cells #[.iface 88 (.agg #[.nilIface, .iface 72 (.agg #[.iface 82 (.agg #[.string ⟨#[120]⟩]), .int .i64 exp])]), .int .i64 rel, .iface 89 (.pointer (some ⟨w3.heap.size + 1 + 1, 0, none⟩))] 91 (0, 0)) ∧ W.heap[w3.heap.size + 1 + 1 + 1 + 1 + 1]? = some (.cells #[.iface 88 (.agg #[.iface 80 (.agg #[.bool false, .slice none 0 0]), .iface 72 (.agg #[.iface 82 (.agg #[.string ⟨#[120]⟩]), .int .i64 0])]), .int .i64 3, .iface 80 (.agg #[.bool false, .slice none 0 0])] 91 (0, 0)) ∧ W.heap[w3.heap.size]? = some (.cells #[.bool false] 78 (0, 0)) := fun W h => ⟨blk_below lb h, blk_below lc h, blk_below HKa.out (belowS hBB h)⟩
       have HKB := Lib.hid HKB
       have C1 := sameFT_any (oddA rel exp (some ⟨w3.heap.size + 1 + 1, 0, none⟩)) oddB _ _ wB (odd_small.2 _ _ _) odd_small.1 (oddA_is wB rel exp _) (oddB_is wB) (odd_plain rel exp _ hN hE)
       have C2 := fun W (h : Below wB.heap.size wB W) => sameFT_any (.not (.odd .nilIface)) (.not (.truth false)) (.iface 93 (.agg #[.nilIface])) (.iface 93 (.agg #[.iface 78 (.agg #[.bool false])])) W trivial trivial ⟨_, rfl, ⟨rfl, .inl rfl⟩⟩ ⟨_, rfl, rfl⟩ rfl
       have C3 := fun W (h : Below wB.heap.size wB W) => sameFF_any (oddA rel exp (some ⟨w3.heap.size + 1 + 1, 0, none⟩)) (.truth false) _ (.iface 78 (.agg #[.bool false])) W (odd_small.2 _ _ _) trivial (oddA_is W rel exp _) rfl (odd_ne rel exp _)
       have D1 := Lib.hid C1
       have D2 := Lib.hid C2
       have D3 := Lib.hid C3
       have hBSB := belowS hBSA hBB
       have ja := blk_below HKa.out hBB
       obtain ⟨g0, g1⟩ := box_of ja
       obtain ⟨i0, i1, i2⟩ := three_box lb
       obtain ⟨j0, j1, j2⟩ := three_box lc
       skip
       clear C1 C2 C3 la lb lc ja)
    | (go_at_call 25; refine (right_any (HX.out _ hB1)).mono ?_; rw [hrx]; rintro e w2 ⟨rfl, hb2⟩; have hB2 := belowS hB1 hb2; clear x0 x1 x2 x3 x4 x5 x6 x7 x8 xf; obtain ⟨x0, x1, x2, x3, x4, x5, x6, x7, x8, xf⟩ := nine_cells (HK.out _ hB2))
    | (go_at_call 16; refine (awake_any _).mono ?_; rintro e w1 ⟨rfl, hb1⟩; have hB1 := belowS hB0 hb1; clear x0 x1 x2 x3 x4 x5 x6 x7 x8 xf; obtain ⟨x0, x1, x2, x3, x4, x5, x6, x7, x8, xf⟩ := nine_cells (HK.out _ hB1)))
  go_ret
  exact ⟨rfl, belowS hBS (belowS hBSB hE3)⟩
theorem law11 (x : S29) (A2 A8 : Option Addr) (c2 c8 : Nat) (rel exp : Int) (w : World) (hRx : ReadR w x A2 c2 A8 c8) (_ : WfS x) (_ : -9223372036854775808 ≤ rel ∧ rel ≤ 9223372036854775807) (_ : -9223372036854775808 ≤ exp ∧ exp ≤ 9223372036854775807) :
    Calls Try.prog 11 #[treeV x (.slice A2 x.f1.f1.length c2) (.slice A8 x.f7.length c8), .int .i64 rel, .int .i64 exp] w fun e w' => e = .returned (.bool true) ∧ Below w.heap.size w w' := by
  cases hrx : rightB x with
  | false => exact law11_a x A2 A8 c2 c8 rel exp w hRx hrx
  | true =>
    by_cases h1 : 1 ≤ rel
    · by_cases h2 : rel ≤ 6
      · exact law11_b x A2 A8 c2 c8 rel exp w hRx hrx h1 h2
      · by_cases h3 : 0 ≤ exp
        · exact law11_c x A2 A8 c2 c8 rel exp w hRx hrx h1 h2 h3
        · exact law11_f x A2 A8 c2 c8 rel exp w hRx hrx h1 h2 h3
    · by_cases h3 : 0 ≤ exp
      · exact law11_d x A2 A8 c2 c8 rel exp w hRx hrx h1 h3
      · exact law11_e x A2 A8 c2 c8 rel exp w hRx hrx h1 h3
end Go.Proofs.Ytddpojinlapmfaa.PRef
