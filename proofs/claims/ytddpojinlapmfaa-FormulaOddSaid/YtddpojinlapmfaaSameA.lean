/- natural.IsZero, Cmp, integer.Sign, Cmp, Same: comparison of numbers. -/
import Derived.Deep.RegionHeld3
import Derived.WalkKit
import Derived.Test.YtddpojinlapmfaaNatA
namespace Go.Proofs.Ytddpojinlapmfaa.PRef
set_option linter.unusedVariables false
set_option linter.unusedSimpArgs false
open Go.RowKit Go.Proofs.YtddpojinlapmfaaW.PrintWords Go.Proofs.YtddpojinlapmfaaW.PrintLast Go.Proofs.YtddpojinlapmfaaW.PrintMore

set_option maxHeartbeats 800000 in
theorem isZero_any (A : Option Addr) (c : Nat) (xs : List Int) (w : World) (hc : xs.length ≤ c) (hC : (Kd.int .u32).C w A xs.length xs) :
    Calls Try.prog 110 #[.slice A xs.length c] w fun e w' => e = .returned (.bool (trimL xs).isEmpty) ∧ w = w' := by
  have hb : (((trimL xs).length : Int) == 0) = (trimL xs).isEmpty := by
    cases trimL xs with
    | nil => rfl
    | cons a l => exact beq_eq_false_iff_ne.2 (by simp only [List.length_cons]; omega)
  go_enter Try.func110, Try.ntmps110
  go_wp2_with (go_at_call 103; refine (trim_any A c xs _ hc hC).mono ?_; rintro e w1 ⟨⟨A1, c1, rfl, hc1, hC1⟩, rfl⟩)
  go_ret
  exact ⟨rfl, rfl⟩

/-- integer.Sign -/
def signV (n : Bool) (xs : List Int) : Int := if (trimL xs).isEmpty then 0 else if n then -1 else 1
set_option maxRecDepth 100000 in
set_option maxHeartbeats 800000 in
theorem sign_any (n : Bool) (A : Option Addr) (c : Nat) (xs : List Int) (w : World) (hc : xs.length ≤ c) (hC : (Kd.int .u32).C w A xs.length xs) :
    Calls Try.prog 107 #[.agg #[.bool n, .slice A xs.length c]] w fun e w' => e = .returned (.int .i64 (signV n xs)) ∧ Below w.heap.size w w' := by
  have hu25 := Try.underlying25
  have hC0 := Kd.C_alloc hC (.cells #[.bool n, .slice A xs.length c] 25)
  have hB := (Below.refl w.heap.size w).alloc (Nat.le_refl _) (.cells #[.bool n, .slice A xs.length c] 25)
  obtain ⟨p0, p1, p2, p3⟩ := two_cells (blk_new w (.cells #[.bool n, .slice A xs.length c] 25))
  cases hz : (trimL xs).isEmpty with
  | true =>
    go_enter Try.func107, Try.ntmps107
    go_wp2_with (go_at_call 110; refine (isZero_any A c xs _ hc hC0).mono ?_; rw [hz]; rintro e w1 ⟨rfl, rfl⟩)
    go_ret
    exact ⟨by rw [signV, hz]; rfl, hB⟩
  | false =>
    cases n with
    | true =>
      go_enter Try.func107, Try.ntmps107
      go_wp2_with (go_at_call 110; refine (isZero_any A c xs _ hc hC0).mono ?_; rw [hz]; rintro e w1 ⟨rfl, rfl⟩)
      go_ret
      exact ⟨by rw [signV, hz]; rfl, hB⟩
    | false =>
      go_enter Try.func107, Try.ntmps107
      go_wp2_with (go_at_call 110; refine (isZero_any A c xs _ hc hC0).mono ?_; rw [hz]; rintro e w1 ⟨rfl, rfl⟩)
      go_ret
      exact ⟨by rw [signV, hz]; rfl, hB⟩

set_option maxRecDepth 100000 in
set_option maxHeartbeats 1600000 in
theorem cmpN_any (A B : Option Addr) (c d : Nat) (xs ys : List Int) (w : World) (hx : xs.length ≤ 1000) (hc : xs.length ≤ c) (hC : (Kd.int .u32).C w A xs.length xs) (hd : ys.length ≤ d) (hD : (Kd.int .u32).C w B ys.length ys) :
    Calls Try.prog 108 #[.slice A xs.length c, .slice B ys.length d] w fun e w' => ∃ r : Int, e = .returned (.int .i64 r) ∧ (r = 0 ↔ trimL xs = trimL ys) ∧ Below w.heap.size w w' := by
  have hlx := trimL_le xs
  have hT1 := trim_any A c xs w hc hC
  have hT2 := trim_any B d ys w hd hD
  obtain ⟨a, ha⟩ : ∃ a, trimL xs = a := ⟨_, rfl⟩
  obtain ⟨b, hb⟩ : ∃ b, trimL ys = b := ⟨_, rfl⟩
  rw [ha] at hT1 hlx
  rw [hb] at hT2
  rw [ha, hb]
  have hal : (a.length : Int) ≤ 1000 := by omega
  clear ha hb hC hD hlx
  by_cases h1 : b.length < a.length
  · have d1 : decide ((b.length : Int) < (a.length : Int)) = true := decide_eq_true (by omega)
    go_enter Try.func108, Try.ntmps108
    go_wp2_with (first
      | (go_at_call 103; refine hT1.mono ?_; clear hT1; rintro e w1 ⟨⟨A1, c1, rfl, hc1, hC1⟩, rfl⟩)
      | (go_at_call 103; refine hT2.mono ?_; clear hT2; rintro e w2 ⟨⟨B1, d1', rfl, hd1, hD1⟩, rfl⟩))
    go_ret
    exact ⟨1, rfl, ⟨fun h => absurd h (by decide), fun h => by rw [h] at h1; omega⟩, Below.refl _ _⟩
  by_cases h2 : a.length < b.length
  · have d1 : decide ((b.length : Int) < (a.length : Int)) = false := decide_eq_false (by omega)
    have d2 : decide ((a.length : Int) < (b.length : Int)) = true := decide_eq_true (by omega)
    go_enter Try.func108, Try.ntmps108
    go_wp2_with (first
      | (go_at_call 103; refine hT1.mono ?_; clear hT1; rintro e w1 ⟨⟨A1, c1, rfl, hc1, hC1⟩, rfl⟩)
      | (go_at_call 103; refine hT2.mono ?_; clear hT2; rintro e w2 ⟨⟨B1, d1', rfl, hd1, hD1⟩, rfl⟩))
    go_ret
    exact ⟨-1, rfl, ⟨fun h => absurd h (by decide), fun h => by rw [h] at h2; omega⟩, Below.refl _ _⟩
  have hlen : b.length = a.length := by omega
  have d1 : decide ((b.length : Int) < (a.length : Int)) = false := decide_eq_false (by omega)
  have d2 : decide ((a.length : Int) < (b.length : Int)) = false := decide_eq_false (by omega)
  clear h1 h2
  go_enter Try.func108, Try.ntmps108
  go_wp2_with (first
    | (go_at_call 103; refine hT1.mono ?_; clear hT1; rintro e w1 ⟨⟨A1, c1, rfl, hc1, hC1⟩, rfl⟩)
    | (go_at_call 103; refine hT2.mono ?_; clear hT2; rintro e w2 ⟨⟨B1, d1', rfl, hd1, hD1⟩, rfl⟩))
  go_loopw [5] (fun i wr => ∃ k : Nat, k ≤ a.length ∧ i = .int .i64 ((k : Int) - 1) ∧ a.drop k = b.drop k ∧ ∃ n, wr = w.drewN n) (fun i _ => (intOf i + 1).toNat)
  case atStart => exact ⟨a.length, Nat.le_refl _, rfl, by rw [List.drop_length, List.drop_of_length_le (by omega)], 0, rfl⟩
  case round =>
    obtain ⟨k, hk, rfl, hdr, n, rfl⟩ := hrel
    cases k with
    | zero =>
      go_wp2
      go_ret
      rw [List.drop_zero, List.drop_zero] at hdr
      exact ⟨0, rfl, ⟨fun _ => hdr, fun _ => rfl⟩, pw_below_drewN (Below.refl _ _) _⟩
    | succ m =>
      have hma : m < a.length := by omega
      have hmb : m < b.length := by omega
      have e1 : ((m + 1 : Nat) : Int) - 1 = (m : Int) := by omega
      obtain ⟨aa, rfl, hca⟩ := Kd.at_int hC1 (m : Int) (by omega) (by omega)
      obtain ⟨bb, rfl, hcb⟩ := Kd.at_int hD1 (m : Int) (by omega) (by omega)
      have ra : rd a (m : Int) = a[m] := by simp [rd, List.getElem?_eq_getElem hma]
      have rb : rd b (m : Int) = b[m] := by simp [rd, List.getElem?_eq_getElem hmb]
      rw [ra, Int.toNat_natCast] at hca
      rw [rb, Int.toNat_natCast] at hcb
      rw [e1]
      have hda : a.drop m = a[m] :: a.drop (m + 1) := List.drop_eq_getElem_cons hma
      have hdb : b.drop m = b[m] :: b.drop (m + 1) := List.drop_eq_getElem_cons hmb
      obtain ⟨va, hva⟩ : ∃ v, a[m] = v := ⟨_, rfl⟩
      obtain ⟨vb, hvb⟩ : ∃ v, b[m] = v := ⟨_, rfl⟩
      rw [hva] at hca hda
      rw [hvb] at hcb hdb
      have hne : va ≠ vb → a ≠ b := fun h he => h (by subst he; rw [← hva, ← hvb])
      have HD := Lib.hid (And.intro hda (And.intro hdb hdr))
      have HN := Lib.hid hne
      have hm0 : (0 : Int) ≤ (m : Int) := by omega
      have hm1 : (m : Int) < (a.length : Int) := by omega
      have hm2 : (m : Int) ≤ 1000 := by omega
      have va1 : (w.drewN n).drew.cell? (aa.add m) = some (.int .u32 va) := hca
      have vb1 : (w.drewN n).drew.cell? (bb.add m) = some (.int .u32 vb) := hcb
      clear hda hdb hdr hne ra rb hva hvb
      rcases Int.lt_trichotomy vb va with h | h | h
      · have g1 : decide (vb < va) = true := decide_eq_true h
        go_wp2
        go_region_held3 (fun w' => w'.cell? (aa.add m) = some (.int .u32 va) ∧ w'.cell? (bb.add m) = some (.int .u32 vb)) (first | exact ⟨by with_reducible assumption, by with_reducible assumption⟩) (fail)
        all_goals go_wp2
        all_goals go_ret
        all_goals exact ⟨1, rfl, ⟨fun h => absurd h (by decide), fun he => absurd he (HN.out (by omega))⟩, below_drew (pw_below_drewN (Below.refl _ _) _)⟩
      · subst h
        have g1 : decide (vb < vb) = false := decide_eq_false (by omega)
        have va2 : (w.drewN n).drew.drew.cell? (aa.add m) = some (.int .u32 vb) := hca
        have vb2 : (w.drewN n).drew.drew.cell? (bb.add m) = some (.int .u32 vb) := hcb
        go_wp2
        go_region_held3 (fun w' => w'.cell? (aa.add m) = some (.int .u32 vb) ∧ w'.cell? (bb.add m) = some (.int .u32 vb)) (first | exact ⟨by with_reducible assumption, by with_reducible assumption⟩) (fail)
        all_goals go_wp2
        all_goals go_region_held3 (fun w' => w'.cell? (aa.add m) = some (.int .u32 vb) ∧ w'.cell? (bb.add m) = some (.int .u32 vb)) (first | exact ⟨by with_reducible assumption, by with_reducible assumption⟩) (fail)
        all_goals go_wp2
        all_goals go_roundw
        case rel => exact ⟨m, by omega, by go_num, by rw [HD.out.1, HD.out.2.1, HD.out.2.2], n + 2, rfl⟩
        case measure => simp [intOf]
      · have g1 : decide (vb < va) = false := decide_eq_false (by omega)
        have g2 : decide (va < vb) = true := decide_eq_true h
        have va2 : (w.drewN n).drew.drew.cell? (aa.add m) = some (.int .u32 va) := hca
        have vb2 : (w.drewN n).drew.drew.cell? (bb.add m) = some (.int .u32 vb) := hcb
        go_wp2
        go_region_held3 (fun w' => w'.cell? (aa.add m) = some (.int .u32 va) ∧ w'.cell? (bb.add m) = some (.int .u32 vb)) (first | exact ⟨by with_reducible assumption, by with_reducible assumption⟩) (fail)
        all_goals go_wp2
        all_goals go_region_held3 (fun w' => w'.cell? (aa.add m) = some (.int .u32 va) ∧ w'.cell? (bb.add m) = some (.int .u32 vb)) (first | exact ⟨by with_reducible assumption, by with_reducible assumption⟩) (fail)
        all_goals go_wp2
        all_goals go_ret
        all_goals exact ⟨-1, rfl, ⟨fun h => absurd h (by decide), fun he => absurd he (HN.out (by omega))⟩, below_drew (below_drew (pw_below_drewN (Below.refl _ _) _))⟩
end Go.Proofs.Ytddpojinlapmfaa.PRef
