/- integer.Cmp, Same. -/
import Derived.Test.YtddpojinlapmfaaSameA
namespace Go.Proofs.Ytddpojinlapmfaa.PRef
set_option linter.unusedVariables false
set_option linter.unusedSimpArgs false
open Go.RowKit Go.Proofs.YtddpojinlapmfaaW.PrintWords Go.Proofs.YtddpojinlapmfaaW.PrintLast Go.Proofs.YtddpojinlapmfaaW.PrintMore

theorem belowS {w a b : World} (h : Below w.heap.size w a) (k : Below a.heap.size a b) : Below w.heap.size w b := h.trans (k.mono h.size)
set_option maxRecDepth 100000 in
set_option maxHeartbeats 4000000 in
theorem cmpI_any (n m : Bool) (A B : Option Addr) (c d : Nat) (xs ys : List Int) (w : World) (hx : xs.length ≤ 1000) (hy : ys.length ≤ 1000) (hc : xs.length ≤ c) (hC : (Kd.int .u32).C w A xs.length xs) (hd : ys.length ≤ d) (hD : (Kd.int .u32).C w B ys.length ys) :
    Calls Try.prog 102 #[.agg #[.bool n, .slice A xs.length c], .agg #[.bool m, .slice B ys.length d]] w fun e w' => ∃ r : Int, e = .returned (.int .i64 r) ∧ (r = 0 ↔ signV n xs = signV m ys ∧ trimL xs = trimL ys) ∧ Below w.heap.size w w' := by
  have hu25 := Try.underlying25
  obtain ⟨wS, hwS⟩ : ∃ wS, (w.alloc (.cells #[.bool n, .slice A xs.length c] 25)).alloc (.cells #[.bool m, .slice B ys.length d] 25) = wS := ⟨_, rfl⟩
  have hBS : Below w.heap.size w wS := by rw [← hwS]; exact ((Below.refl _ w).alloc (Nat.le_refl _) _).alloc (by simp) _
  have k0 : wS.heap[w.heap.size]? = some (.cells #[.bool n, .slice A xs.length c] 25 (0, 0)) := by rw [← hwS]; exact blk_alloc (blk_new _ _) _
  have k1 : wS.heap[w.heap.size + 1]? = some (.cells #[.bool m, .slice B ys.length d] 25 (0, 0)) := by
    rw [← hwS]
    have := blk_new (w.alloc (.cells #[.bool n, .slice A xs.length c] 25)) (.cells #[.bool m, .slice B ys.length d] 25)
    rwa [World.size_alloc] at this
  have HC : ∀ W, Below wS.heap.size wS W → (Kd.int .u32).C W A xs.length xs ∧ (Kd.int .u32).C W B ys.length ys := fun W h => ⟨Kd.C_below hC (belowS hBS h), Kd.C_below hD (belowS hBS h)⟩
  have HK : ∀ W, Below wS.heap.size wS W → W.heap[w.heap.size]? = some (.cells #[.bool n, .slice A xs.length c] 25 (0, 0)) ∧ W.heap[w.heap.size + 1]? = some (.cells #[.bool m, .slice B ys.length d] 25 (0, 0)) := fun W h => ⟨blk_below k0 h, blk_below k1 h⟩
  have HC := Lib.hid HC
  have HK := Lib.hid HK
  have hBd : Below wS.heap.size wS wS.drew := below_drew (Below.refl _ _)
  obtain ⟨p0, p1, _, _⟩ := two_cells (HK.out _ hBd).1
  obtain ⟨p2, p3, _, _⟩ := two_cells (HK.out _ hBd).2
  have HX := Lib.hid (And.intro hx (And.intro hy (And.intro hc hd)))
  clear hC hD k0 k1
  obtain ⟨s, hs⟩ : ∃ s, signV n xs = s := ⟨_, rfl⟩
  obtain ⟨t, ht⟩ : ∃ t, signV m ys = t := ⟨_, rfl⟩
  have hsb : -1 ≤ s ∧ s ≤ 1 := by rw [← hs]; unfold signV; split <;> (try split) <;> omega
  rw [hs, ht]
  have S1 := fun W (h : Below wS.heap.size wS W) => sign_any n A c xs W hc (HC.out W h).1
  have S2 := fun W (h : Below wS.heap.size wS W) => sign_any m B d ys W hd (HC.out W h).2
  rw [hs] at S1
  rw [ht] at S2
  have HS1 := Lib.hid S1
  have HS2 := Lib.hid S2
  clear S1 S2 hs ht hx hy hc hd
  go_enter Try.func102, Try.ntmps102
  go_upto_region 1 with (fail)
  clear hwS
  go_region_held3 (fun w' => w'.cell? ⟨w.heap.size, 0, none⟩ = some (.bool n) ∧ w'.cell? ⟨w.heap.size, 1, none⟩ = some (.slice A xs.length c) ∧ w'.cell? ⟨w.heap.size + 1, 0, none⟩ = some (.bool m) ∧ w'.cell? ⟨w.heap.size + 1, 1, none⟩ = some (.slice B ys.length d)) (first | exact ⟨by with_reducible assumption, by with_reducible assumption, by with_reducible assumption, by with_reducible assumption⟩)
    (first
      | (go_at_call 107; refine (HS2.out _ hB1).mono ?_; rintro e w2 ⟨rfl, hb2⟩; have hB2 := belowS hB1 hb2; obtain ⟨r0, r1, _, _⟩ := two_cells (HK.out _ hB2).1; obtain ⟨r2, r3, _, _⟩ := two_cells (HK.out _ hB2).2)
      | (go_at_call 107; refine (HS1.out _ hBd).mono ?_; rintro e w1 ⟨rfl, hb1⟩; have hB1 := belowS hBd hb1; obtain ⟨r0, r1, _, _⟩ := two_cells (HK.out _ hB1).1; obtain ⟨r2, r3, _, _⟩ := two_cells (HK.out _ hB1).2))
  all_goals
    (have HN := fun W (h : Below wS.heap.size wS W) => cmpN_any A B c d xs ys W HX.out.1 HX.out.2.2.1 (HC.out W h).1 HX.out.2.2.2 (HC.out W h).2
     have HM := fun W (h : Below wS.heap.size wS W) => cmpN_any B A d c ys xs W HX.out.2.1 HX.out.2.2.2 (HC.out W h).2 HX.out.2.2.1 (HC.out W h).1
     have HN := Lib.hid HN
     have HM := Lib.hid HM
     rcases Int.lt_trichotomy t s with h | h | h
     · have g1 : decide (t < s) = true := decide_eq_true h
       go_wp2
       go_ret
       exact ⟨1, rfl, ⟨fun h => absurd h (by decide), fun he => absurd he.1 (by omega)⟩, belowS hBS hB2⟩
     · subst h
       have g1 : decide (t < t) = false := decide_eq_false (by omega)
       by_cases h0 : t < 0
       · have g2 : decide (t < 0) = true := decide_eq_true h0
         go_wp2_with (go_at_call 108; refine (HM.out _ hB2).mono ?_; rintro e w3 ⟨r, rfl, hr, hb3⟩)
         go_ret
         exact ⟨r, rfl, by first | exact hr.trans eq_comm | exact (hr.trans eq_comm).trans ⟨fun h => ⟨rfl, h⟩, fun h => h.2⟩, belowS hBS (belowS hB2 hb3)⟩
       · have g2 : decide (t < 0) = false := decide_eq_false h0
         go_wp2_with (go_at_call 108; refine (HN.out _ hB2).mono ?_; rintro e w3 ⟨r, rfl, hr, hb3⟩)
         go_ret
         exact ⟨r, rfl, by first | exact hr | exact hr.trans ⟨fun h => ⟨rfl, h⟩, fun h => h.2⟩, belowS hBS (belowS hB2 hb3)⟩
     · have g1 : decide (t < s) = false := decide_eq_false (by omega)
       have g2 : decide (s < t) = true := decide_eq_true h
       go_wp2
       go_ret
       exact ⟨-1, rfl, ⟨fun h => absurd h (by decide), fun he => absurd he.1 (by omega)⟩, belowS hBS hB2⟩)

/-- A number in canonical form. -/
def NormV (v : S25) : Prop := trimL v.f1 = v.f1 ∧ (v.f1 = [] → v.f0 = false)
theorem trimL_trim (xs : List Int) : trimL (trimL xs) = trimL xs := by
  have key : ∀ l : List Int, (l.dropWhile (· == 0)).dropWhile (· == 0) = l.dropWhile (· == 0) := by
    intro l
    induction l with
    | nil => rfl
    | cons a l ih =>
      by_cases h : (a == 0) = true
      · rw [List.dropWhile_cons, if_pos h]; exact ih
      · rw [List.dropWhile_cons, if_neg h, List.dropWhile_cons, if_neg h]
  simp only [trimL, List.reverse_reverse, key]
theorem normI_norm (n : Bool) (xs : List Int) : NormV (normI n xs) := by
  refine ⟨trimL_trim xs, fun h => ?_⟩
  have : trimL xs = [] := h
  simp [normI, this]
theorem sign_eq (u v : S25) (hu : NormV u) (hv : NormV v) : (signV u.f0 u.f1 = signV v.f0 v.f1 ∧ trimL u.f1 = trimL v.f1) ↔ u = v := by
  obtain ⟨n, xs⟩ := u
  obtain ⟨m, ys⟩ := v
  obtain ⟨h1, h2⟩ := hu
  obtain ⟨k1, k2⟩ := hv
  dsimp only at h1 h2 k1 k2 ⊢
  simp only [signV, h1, k1]
  constructor
  · rintro ⟨e1, rfl⟩
    cases xs with
    | nil => rw [h2 rfl, k2 rfl]
    | cons a l =>
      simp only [List.isEmpty_cons, Bool.false_eq_true, if_false] at e1
      cases n <;> cases m <;> simp at e1 ⊢
  · intro e
    cases e
    exact ⟨rfl, rfl⟩
set_option maxRecDepth 100000 in
set_option maxHeartbeats 1600000 in
theorem sameI_any (u v : S25) (A B : Option Addr) (c d : Nat) (w : World) (hu : NormV u) (hv : NormV v) (hx : u.f1.length ≤ 1000) (hy : v.f1.length ≤ 1000) (hc : u.f1.length ≤ c) (hC : (Kd.int .u32).C w A u.f1.length u.f1) (hd : v.f1.length ≤ d) (hD : (Kd.int .u32).C w B v.f1.length v.f1) :
    Calls Try.prog 91 #[.agg #[.bool u.f0, .slice A u.f1.length c], .agg #[.bool v.f0, .slice B v.f1.length d]] w fun e w' => ∃ r : Bool, e = .returned (.bool r) ∧ (r = true ↔ u = v) ∧ Below w.heap.size w w' := by
  have hu25 := Try.underlying25
  have hse := sign_eq u v hu hv
  obtain ⟨n, xs⟩ := u
  obtain ⟨m, ys⟩ := v
  dsimp only at hx hy hc hC hd hD hse ⊢
  have hBS : Below w.heap.size w ((w.alloc (.cells #[.bool n, .slice A xs.length c] 25)).alloc (.cells #[.bool m, .slice B ys.length d] 25)) := ((Below.refl _ w).alloc (Nat.le_refl _) _).alloc (by simp) _
  have k0 := blk_alloc (blk_new w (.cells #[.bool n, .slice A xs.length c] 25)) (.cells #[.bool m, .slice B ys.length d] 25)
  have k1 := blk_new (w.alloc (.cells #[.bool n, .slice A xs.length c] 25)) (.cells #[.bool m, .slice B ys.length d] 25)
  rw [World.size_alloc] at k1
  obtain ⟨p0, p1, _, _⟩ := two_cells k0
  obtain ⟨p2, p3, _, _⟩ := two_cells k1
  go_enter Try.func91, Try.ntmps91
  go_wp2_with (go_at_call 102; refine (cmpI_any n m A B c d xs ys _ hx hy hc (Kd.C_below hC hBS) hd (Kd.C_below hD hBS)).mono ?_; rintro e w1 ⟨r, rfl, hr, hb1⟩)
  go_ret
  exact ⟨_, rfl, by rw [beq_iff_eq, hr]; exact hse, belowS hBS hb1⟩
end Go.Proofs.Ytddpojinlapmfaa.PRef
