/- cylinderlaw34.right: contract. -/
import Derived.Test.YtddpojinlapmfaaPRefRF
import Derived.Test.YtddpojinlapmfaaRefK
namespace Go.Proofs.Ytddpojinlapmfaa.PRef
set_option linter.unusedVariables false
set_option linter.unusedSimpArgs false
open Go.RowKit Go.Proofs.YtddpojinlapmfaaW.PrintWords Go.Proofs.YtddpojinlapmfaaW.PrintLast Go.Proofs.YtddpojinlapmfaaW.PrintMore

variable {x y : S29} {A2 A8 D2 D8 : Option Addr} {c2 c8 d2 d8 : Nat} {w : World}
/-- cylinderlaw34.right -/
def rightB (x : S29) : Bool := fewB x 300 && (formOf x).2
theorem right_any (hR : ReadR w x A2 c2 A8 c8) :
    Calls Try.prog 25 #[treeV x (.slice A2 x.f1.f1.length c2) (.slice A8 x.f7.length c8)] w fun e w' => e = .returned (.bool (rightB x)) ∧ Below w.heap.size w w' := by
  have h : Ev (fun k => cylinderlaw34_right.f k x.f0 x.f1.f0 x.f1.f1 x.f2 x.f3 x.f4 x.f5 x.f6 x.f7) (rightB x) := by
    refine Ev.congr (fun k => by rw [cylinderlaw34_right.f]) (Ev.bind (few_ev x 300 (by omega) (by omega)) ?_)
    cases hf : fewB x 300 with
    | true =>
      refine Ev.ifp rfl (Ev.bind (is_ev x false (by have := few_size (by omega) hf; omega)) (Ev.val ?_))
      simp [rightB, hf, isS_false]
    | false => exact Ev.ifn Bool.false_ne_true (Ev.val (by simp [rightB, hf]))
  obtain ⟨k, hk⟩ := h.rounds
  exact cylinderlaw34_right.calls k _ _ A2 c2 _ _ _ _ _ _ A8 c8 _ _ w hR.g2 hR.l2 hR.g8 hR.l8 hk
end Go.Proofs.Ytddpojinlapmfaa.PRef
