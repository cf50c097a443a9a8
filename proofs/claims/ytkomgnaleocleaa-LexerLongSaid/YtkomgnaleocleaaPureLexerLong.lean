/- LexerLong: a text of more than api.MaxSource bytes is refused, whatever it consists of; one of exactly that many equal bytes is cut as the reference cuts it. -/
import Derived.Test.YtkomgnaleocleaaPAllx11
import Derived.Test.YtkomgnaleocleaaLexS
namespace Go.Proofs.Ytkomgnaleocleaa.Pure
open Go.RowKit Go.Proofs.Ytkomgnaleocleaa.PAll Go.Proofs.YtkomgnaleocleaaW.PrintWords Go.Proofs.YtkomgnaleocleaaW.PrintLast

theorem nums_size (xs : List Int) : (strOfNums xs).size = xs.length := by
  simp [strOfNums, ByteArray.size]

theorem long_loop (c : Int) (n : Nat) (hn : n ≤ 4002) (h4 : 4000 ≤ n) : ∀ (d i : Nat) (xs : List Int), i + d = n → xs.length = n →
    Ev (fun k => cylinderlaw35_LexerLong.l0 k c (n : Int) xs (n : Int) (i : Int)) true := by
  intro d
  induction d with
  | zero =>
    intro i xs hi hx
    have hz := nums_size xs
    refine Ev.step (fun k => by rw [cylinderlaw35_LexerLong.l0]) ?_
    refine Ev.ifn (by omega) (Ev.bc rfl ?_)
    by_cases hl : 4000 < n
    · have e : lexOf (strOfNums xs) = ([], 4000, 8) := by
        unfold lexOf; rw [if_pos (by omega)]
      rw [e]
      exact Ev.ifp (by omega) (Ev.ifp rfl (Ev.ifp rfl (Ev.val rfl)))
    · refine Ev.ifn (by omega) (Ev.bind (refLex_ev (strOfNums xs)) (Ev.ifp rfl (Ev.ifp rfl (Ev.bind (same_ev _ true ?_) (Ev.val rfl)))))
      have := lexOf_len (strOfNums xs); omega
  | succ d ih =>
    intro i xs hi hx
    refine Ev.step (fun k => by rw [cylinderlaw35_LexerLong.l0]) ?_
    refine Ev.ifp (by omega) (Ev.ifp (by omega) (Ev.ifp (by omega) ?_))
    rw [wrap_ok (by omega) (by omega)]
    exact ih (i + 1) _ (by omega) (by rw [List.length_set]; exact hx)

theorem LexerLong : cylinderlaw35_LexerLong.Pure := by
  intro a c w _
  refine Ev.rounds (g := fun k => cylinderlaw35_LexerLong.f k a c) ?_
  unfold cylinderlaw35_LexerLong.f
  have ha : 0 ≤ a ∧ a ≤ 255 := by simpa [Lit.wf, IntKind.min, IntKind.max, IntKind.signed, IntKind.bits] using w
  obtain ⟨n, hn, h4, h2⟩ : ∃ n : Nat, wrap64 (4000 + wrap64 (Int.tmod a 3)) = (n : Int) ∧ 4000 ≤ n ∧ n ≤ 4002 := by
    rw [Int.tmod_eq_emod_of_nonneg ha.1]
    have h1 := Int.emod_nonneg a (show (3 : Int) ≠ 0 by decide)
    have h3 := Int.emod_lt_of_pos a (show (0 : Int) < 3 by decide)
    rw [wrap_ok (x := a % 3) (by omega) (by omega), wrap_ok (by omega) (by omega)]
    exact ⟨(4000 + a % 3).toNat, by omega, by omega, by omega⟩
  rw [hn]
  refine Ev.bc awake_true (Ev.ifp rfl (Ev.ifp (by omega) (Ev.ifp (by omega) (Ev.bc rfl ?_))))
  have e : ((List.replicate ((n : Int)).toNat (0 : Int)).length : Int) = (n : Int) := by rw [List.length_replicate]; omega
  rw [e]
  exact long_loop c n h2 h4 n 0 _ (Nat.zero_add _) (by rw [List.length_replicate]; omega)

end Go.Proofs.Ytkomgnaleocleaa.Pure
