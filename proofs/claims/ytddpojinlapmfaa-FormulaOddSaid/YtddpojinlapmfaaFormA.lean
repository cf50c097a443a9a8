/- formula.OfTerm, pair, form, Of. -/
import Derived.Test.YtddpojinlapmfaaTermA
import Derived.Test.YtddpojinlapmfaaPlainB
namespace Go.Proofs.Ytddpojinlapmfaa.PRef
set_option linter.unusedVariables false
set_option linter.unusedSimpArgs false
open Go.RowKit Go.Proofs.YtddpojinlapmfaaW.PrintWords Go.Proofs.YtddpojinlapmfaaW.PrintLast Go.Proofs.YtddpojinlapmfaaW.PrintMore

theorem IsFm.shape {w : World} {t : Fm} {v : Value} (h : IsFm w t v) : v = .nilIface ∨ ∃ a x, v = .iface a x := by
  cases t with
  | truth b => cases h; exact .inr ⟨_, _, rfl⟩
  | atom l r s => obtain ⟨_, _, rfl, _⟩ := h; exact .inr ⟨_, _, rfl⟩
  | not a => obtain ⟨_, rfl, _⟩ := h; exact .inr ⟨_, _, rfl⟩
  | and a b => obtain ⟨_, _, rfl, _⟩ := h; exact .inr ⟨_, _, rfl⟩
  | or a b => obtain ⟨_, _, rfl, _⟩ := h; exact .inr ⟨_, _, rfl⟩
  | imp a b => obtain ⟨_, _, rfl, _⟩ := h; exact .inr ⟨_, _, rfl⟩
  | iff a b => obtain ⟨_, _, rfl, _⟩ := h; exact .inr ⟨_, _, rfl⟩
  | quant q s a => obtain ⟨_, rfl, _⟩ := h; exact .inr ⟨_, _, rfl⟩
  | odd u =>
    obtain ⟨rfl, rfl | ⟨p, rfl⟩⟩ := h
    · exact .inl rfl
    · exact .inr ⟨_, _, rfl⟩

def pairF (k : Int) (a b : Fm) : Fm := if k = 11 then .and a b else if k = 12 then .or a b else if k = 13 then .imp a b else .iff a b
set_option maxRecDepth 100000 in
set_option maxHeartbeats 1600000 in
theorem pair_any (k : Int) (hk : k = 11 ∨ k = 12 ∨ k = 13 ∨ k = 14) (a b : Fm) (f g : Value) (w : World) (hf : IsFm w a f) (hg : IsFm w b g) :
    Calls Try.prog 85 #[.int .i64 k, f, g] w fun e w' => ∃ v, e = .returned v ∧ IsFm w' (pairF k a b) v ∧ w = w' := by
  rcases hf.shape with rfl | ⟨ta, xa, rfl⟩ <;> rcases hg.shape with rfl | ⟨tb, xb, rfl⟩ <;> rcases hk with rfl | rfl | rfl | rfl
  all_goals
    (go_enter Try.func85, Try.ntmps85
     go_wp2_with fail
     go_ret
     exact ⟨_, rfl, ⟨_, _, rfl, hf, hg⟩, rfl⟩)

set_option maxRecDepth 100000 in
set_option maxHeartbeats 1600000 in
theorem ofTerm_any (x : S29) (hx : SmallS x) (A2 : Option Addr) (c2 : Nat) (A8 : Option Addr) (c8 : Nat) (w : World) (hR : ReadR w x A2 c2 A8 c8) :
    Calls Try.prog 18 #[treeV x (.slice A2 x.f1.f1.length c2) (.slice A8 x.f7.length c8)] w fun e w' => ∃ v, e = .returned (.tuple #[v, .int .i64 (if (termOf x).2 then 0 else 9)]) ∧ IsTm w' (if (termOf x).2 then (termOf x).1 else nilT) v ∧ Below w.heap.size w w' := by
  have hu29 := Try.underlying29
  have hb0 := (Below.refl _ w).alloc (Nat.le_refl _) (.cells #[.int .i64 x.f0, .bool x.f1.f0, .slice A2 x.f1.f1.length c2, .string x.f2, .int .i64 x.f3, .int .i64 x.f4, .bool x.f5, .bool x.f6, .slice A8 x.f7.length c8] 29)
  cases hok : (termOf x).2
  all_goals
    (go_enter Try.func18, Try.ntmps18
     go_wp2_with (go_at_call 55; refine (term_any x hx A2 c2 A8 c8 _ (hR.below hb0)).mono ?_; rw [hok]; rintro e w1 ⟨v, rfl, hT, hB1⟩))
  · exact bodyPost_ret (v := .tuple #[.nilIface, .int .i64 9]) (by simp [results, Try.results18, go_sem]) rfl ⟨_, rfl, ⟨rfl, .inl rfl⟩, hb0.trans (hB1.mono (by simp))⟩
  · exact bodyPost_ret (v := .tuple #[_, .int .i64 0]) (by simp [results, Try.results18, go_sem]) rfl ⟨_, rfl, hT, hb0.trans (hB1.mono (by simp))⟩
end Go.Proofs.Ytddpojinlapmfaa.PRef
