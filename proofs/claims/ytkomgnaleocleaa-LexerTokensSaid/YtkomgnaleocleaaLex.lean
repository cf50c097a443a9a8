/- lexer.Lex as the printed texts ask for it: 'lexer_Lex.f' and its contract. -/
import Derived.Test.YtkomgnaleocleaaLexC
namespace Go.Proofs.Ytkomgnaleocleaa.PAll
open Go.RowKit Go.Proofs.YtkomgnaleocleaaW.PrintWords Go.Proofs.YtkomgnaleocleaaW.PrintLast Go.Proofs.YtkomgnaleocleaaW.PrintMore

theorem wrap64_wrap_add (a b : Int) : wrap64 (wrap64 a + b) = wrap64 (a + b) := by unfold wrap64; omega

theorem run_rune_str (x : Int) (W : World) : (convert 21 9 (.int .i32 x)).run Try.prog W = .ok (.string (Utf8.encode x)) W := by
  have h1 := Try.underlying21
  have h2 := Try.underlying9
  simp [convert, run_underlying h1, run_underlying h2, Conv.intToString]

def lexer_Lex.f (a0 : ByteArray) : Option ((List (S30)) × Int × Int) := some (lexOf a0)
theorem lexer_Lex.calls (a0 : ByteArray) (r1 : List (S30)) (r2 : Int) (r3 : Int) (w : World) (h : lexer_Lex.f a0 = some (r1, r2, r3)) :
    Calls Try.prog 13 #[.string a0] w fun e w' => ∃ v0_ : Value, e = .returned (.tuple #[v0_, .int .i64 r2, .int .i64 r3]) ∧ Kd.R k30 30 w' w.heap.size (fun _ => True) v0_ r1 ∧ Below w.heap.size w w' := by
  have h' := Option.some.inj h
  have e1 : (lexOf a0).1 = r1 := by rw [h']
  have e2 : (lexOf a0).2.1 = r2 := by rw [h']
  have e3 : (lexOf a0).2.2 = r3 := by rw [h']
  rw [← e1, ← e2, ← e3]
  exact lex_any a0 w
end Go.Proofs.Ytkomgnaleocleaa.PAll
