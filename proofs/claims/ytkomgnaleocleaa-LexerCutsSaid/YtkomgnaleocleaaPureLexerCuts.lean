/- LexerCuts: the tokens, or the first error with its offset, of any text, are those of the reference. -/
import Derived.Test.YtkomgnaleocleaaLexS
namespace Go.Proofs.Ytkomgnaleocleaa.Pure
open Go.RowKit Go.Proofs.Ytkomgnaleocleaa.PAll Go.Proofs.YtkomgnaleocleaaW.PrintWords Go.Proofs.YtkomgnaleocleaaW.PrintLast

theorem LexerCuts : cylinderlaw35_LexerCuts.Pure := by
  intro s _
  refine Ev.rounds (g := fun k => cylinderlaw35_LexerCuts.f k s) ?_
  unfold cylinderlaw35_LexerCuts.f
  refine Ev.bc awake_true (Ev.ifp rfl ?_)
  refine Ev.step (fun k => by rw [cylinderlaw35_LexerCuts.j0]) ?_
  by_cases hs : s.size ≤ 4100
  · refine Ev.ifn (by simp; omega) (Ev.bc rfl (Ev.bv (refLex_ev s) (Ev.ifp rfl (Ev.ifp rfl (Ev.bv (same_ev _ true ?_) (Ev.val rfl))))))
    have := lexOf_len s; omega
  · exact Ev.ifp (by simp; omega) (Ev.bc awake_true (Ev.val rfl))

end Go.Proofs.Ytkomgnaleocleaa.Pure
