/- formula.Same: contract. -/
import Derived.Test.YtddpojinlapmfaaSameC
import Derived.Test.YtddpojinlapmfaaRefD
namespace Go.Proofs.Ytddpojinlapmfaa.PRef
set_option linter.unusedVariables false
set_option linter.unusedSimpArgs false
open Go.RowKit Go.Proofs.YtddpojinlapmfaaW.PrintWords Go.Proofs.YtddpojinlapmfaaW.PrintLast Go.Proofs.YtddpojinlapmfaaW.PrintMore

theorem normZ : NormV z25 := ⟨rfl, fun _ => rfl⟩
theorem good_leaf {k : Int} (x : S29) (h1 : x.f1 = z25) (h7 : x.f7 = []) : GoodS x := ⟨_, by rw [h1]; exact normZ, by rw [h1]; simp [z25], by rw [h7]; simp, by rw [h7]; intro y hy; cases hy⟩
theorem good_one (x a : S29) (h1 : x.f1 = z25) (h7 : x.f7 = [a]) (ha : GoodS a) : GoodS x := ⟨_, by rw [h1]; exact normZ, by rw [h1]; simp [z25], by rw [h7]; simp, by rw [h7]; intro y hy; rcases List.mem_singleton.1 hy with rfl; exact ha⟩
theorem good_two (x a b : S29) (h1 : x.f1 = z25) (h7 : x.f7 = [a, b]) (ha : GoodS a) (hb : GoodS b) : GoodS x := ⟨_, by rw [h1]; exact normZ, by rw [h1]; simp [z25], by rw [h7]; simp, by
  rw [h7]; intro y hy
  rcases List.mem_cons.1 hy with rfl | hy
  · exact ha
  · rcases List.mem_singleton.1 hy with rfl; exact hb⟩
theorem plainT_good : ∀ t : Tm, SmallT t → GoodS (plainT t)
  | .num n xs, h => ⟨_, normI_norm n xs, by show (trimL xs).length ≤ 1000; exact Nat.le_trans (trimL_le xs) h, by simp [plainT, z29], by simp [plainT, z29]⟩
  | .name s, _ => good_leaf (k := 0) _ rfl rfl
  | .add a b, h => good_two _ _ _ rfl rfl (plainT_good a h.1) (plainT_good b h.2)
  | .sub a b, h => good_two _ _ _ rfl rfl (plainT_good a h.1) (plainT_good b h.2)
  | .mul a b, h => good_two _ _ _ rfl rfl (plainT_good a h.1) (plainT_good b h.2)
  | .neg a, h => good_one _ _ rfl rfl (plainT_good a h)
  | .pow a e, h => good_one _ _ rfl rfl (plainT_good a h)
  | .odd v, _ => good_leaf (k := 0) _ rfl rfl
theorem plainF_good : ∀ F : Fm, SmallF F → GoodS (plainF F)
  | .truth b, _ => good_leaf (k := 0) _ rfl rfl
  | .atom l r s, h => good_two _ _ _ rfl rfl (plainT_good l h.1) (plainT_good s h.2)
  | .not a, h => good_one _ _ rfl rfl (plainF_good a h)
  | .and a b, h => good_two _ _ _ rfl rfl (plainF_good a h.1) (plainF_good b h.2)
  | .or a b, h => good_two _ _ _ rfl rfl (plainF_good a h.1) (plainF_good b h.2)
  | .imp a b, h => good_two _ _ _ rfl rfl (plainF_good a h.1) (plainF_good b h.2)
  | .iff a b, h => good_two _ _ _ rfl rfl (plainF_good a h.1) (plainF_good b h.2)
  | .quant q s a, h => good_one _ _ rfl rfl (plainF_good a h)
  | .odd v, _ => good_leaf (k := 0) _ rfl rfl
theorem TreeR.readR {w : World} {base : Nat} {x : S29} {A2 A8 : Option Addr} {c2 c8 : Nat} (h : TreeR w base x (.slice A2 x.f1.f1.length c2) (.slice A8 x.f7.length c8)) : ReadR w x A2 c2 A8 c8 :=
  ⟨(Kd.R_reads' h.g2).2.1, (Kd.R_reads' h.g2).2.2, (Kd.R_reads' h.g8).2.1, (Kd.R_reads' h.g8).2.2⟩
set_option maxRecDepth 100000 in
set_option maxHeartbeats 1600000 in
theorem sameF_any (F G : Fm) (v u : Value) (w : World) (hF : SmallF F) (hG : SmallF G) (hv : IsFm w F v) (hu : IsFm w G u) :
    Calls Try.prog 45 #[v, u] w fun e w' => ∃ r : Bool, e = .returned (.bool r) ∧ (r = true ↔ plainF F = plainF G) ∧ Below w.heap.size w w' := by
  have hP := plainF_any F v w hF hv
  have hQ := fun W (h : Below w.heap.size w W) => plainF_any G u W hG (hu.below h)
  have hS := fsame_any _ (plainF_good F hF) _ (plainF_good G hG)
  go_enter Try.func45, Try.ntmps45
  go_wp2_with (first
    | (go_at_call 72; refine (hS _ _ _ _ _ _ _ _ _ (hT1.below hb2).readR hT2.readR).mono ?_; rintro e w3 ⟨r, rfl, hr, hb3⟩)
    | (go_at_call 24; refine (hQ _ hb1).mono ?_; dsimp only [treeV]; rintro e w2 ⟨u2, u8, rfl, hT2, hb2⟩; obtain ⟨F2, f2, F8, f8, rfl, rfl, -⟩ := hT2.forms)
    | (go_at_call 24; refine hP.mono ?_; dsimp only [treeV]; rintro e w1 ⟨v2, v8, rfl, hT1, hb1⟩; obtain ⟨E2, e2, E8, e8, rfl, rfl, -⟩ := hT1.forms))
  go_ret
  exact ⟨r, rfl, hr, belowS hb1 (belowS hb2 hb3)⟩
end Go.Proofs.Ytddpojinlapmfaa.PRef
