/- LexerJoins: the row: the law cylinderlaw35.LexerJoins returns true whatever the list, and leaves it as it is. No condition. -/
import Derived.Test.YtkomgnaleocleaaRows
import Derived.Test.YtkomgnaleocleaaPAllx12
import Derived.Test.YtkomgnaleocleaaPureLexerJoins
import Derived.Deep.Slices
import Derived.Deep.Strs
import Derived.Deep.Fields
import Derived.ChangeSame
import Derived.WalkKit
import Derived.ProofKit
import Derived.OpenShut
import Derived.ShutString
import Derived.ChangeOld
import Derived.Below
import Derived.SizedLaws
namespace Go.Proofs.Ytkomgnaleocleaa.lexerJoins
open Go.ChangeShapes Go.WideShapes Go.ChangeAt Go.RowKit
open Go.ChangeMaps (open_string shut_string)
set_option linter.unusedVariables false
theorem own : ownKnob Try.prog.godebug = none := by kernel_rfl
theorem laidOut : laidOutB Try.prog = true := by kernel_rfl

open Go.Proofs.Ytkomgnaleocleaa.PAll Go.Proofs.YtkomgnaleocleaaW.PrintWords in
/-- A list of tokens that comes in reads as a list. -/
theorem open_tokens {H : Type} {enc : TypeId × Value → H} {w : World} {base : Nat} {spare : Nat → Bool} {held : Bool} {fuel : Nat} {a : Option Addr} {n c : Nat} {x : DataW H × List MemPlace}
    (h : DataW.trod enc Try.prog w base spare held fuel 23 [.slice a n c] = some x) : ∃ zs : List S30, zs.length = n ∧ n ≤ c ∧ Kd.C k30 w a n zs := by
  rcases Go.Deep.open_slice Try.underlying23 h with ⟨h0, _⟩ | ⟨ad, len, cap, m, n', D, Pl, hcs, hb, hl, hm, hmm, hx, hi⟩
  · simp only [List.cons.injEq, Value.slice.injEq, and_true] at h0
    obtain ⟨rfl, rfl, rfl⟩ := h0
    exact ⟨[], rfl, Nat.le_refl _, rfl, by omega, fun h => absurd h (Nat.lt_irrefl _)⟩
  · simp only [List.cons.injEq, Value.slice.injEq, and_true] at hcs
    obtain ⟨rfl, rfl, rfl⟩ := hcs
    have hle : n ≤ m := by rw [hmm]; split <;> omega
    have hC : Try.prog.cellsOf 30 = 3 := by kernel_rfl
    have key : ∀ i, i < n → ∃ t : S30, w.cell? (ad.add (i * 3)) = some (.int .i64 t.f0) ∧ w.cell? (ad.add (i * 3 + 1)) = some (.string t.f1) ∧ w.cell? (ad.add (i * 3 + 2)) = some (.int .i64 t.f2) := by
      intro i hin
      obtain ⟨cs', hc, ht'⟩ := hi i (by omega)
      rw [hC] at hc
      obtain ⟨y0, y1, y2, k, hy, hlen, h0, h1, h2⟩ := Go.Deep.trod_struct3 Try.underlying30 ht'
      rw [hC] at hlen
      obtain ⟨_, hcl, hat⟩ := World.cells?_some hc
      have g0 : Try.prog.cellsOf 3 = 1 := by kernel_rfl
      have g1 : Try.prog.cellsOf 9 = 1 := by kernel_rfl
      match cs', hlen with
      | [c0, c1, c2], _ =>
        simp only [g0, g1] at h0 h1 h2
        obtain ⟨z0, e0, _, _⟩ := DataW.trod_int Try.underlying3 h0
        obtain ⟨z1, e1, _, _⟩ := DataW.trod_string Try.underlying9 h1
        obtain ⟨z2, e2, _, _⟩ := DataW.trod_int Try.underlying3 h2
        simp at e0 e1 e2
        subst e0 e1 e2
        have q0 := hat 0 (by decide)
        have q1 := hat 1 (by decide)
        have q2 := hat 2 (by decide)
        rw [Go.Deep.add_add] at q0 q1 q2
        exact ⟨⟨z0, z1, z2⟩, q0, q1, q2⟩
    have hall : ∀ m, m ≤ n → ∃ zs : List S30, zs.length = m ∧ ∀ (j : Nat) (p : S30), zs[j]? = some p → w.cell? (ad.add (j * 3)) = some (.int .i64 p.f0) ∧ w.cell? (ad.add (j * 3 + 1)) = some (.string p.f1) ∧ w.cell? (ad.add (j * 3 + 2)) = some (.int .i64 p.f2) := by
      intro m
      induction m with
      | zero => exact fun _ => ⟨[], rfl, fun j p hj => by simp at hj⟩
      | succ m ih =>
        intro hmn
        obtain ⟨zs, hz, hp⟩ := ih (by omega)
        obtain ⟨t, ht⟩ := key m (by omega)
        refine ⟨zs ++ [t], by simp [hz], fun j p hj => ?_⟩
        rcases Nat.lt_or_ge j zs.length with h' | h'
        · rw [List.getElem?_append_left h'] at hj; exact hp j p hj
        · rw [List.getElem?_append_right h'] at hj
          have hj0 : j = m := by
            rcases Nat.eq_zero_or_pos (j - zs.length) with e | e
            · omega
            · rw [List.getElem?_eq_none (by simp; omega)] at hj; cases hj
          subst hj0
          rw [hz, Nat.sub_self] at hj
          simp only [List.getElem?_cons_zero, Option.some.injEq] at hj
          subst hj
          exact ht
    obtain ⟨zs, hz, hp⟩ := hall n (Nat.le_refl _)
    have hml : maxLen ≤ 9223372036854775807 := by unfold maxLen; omega
    refine ⟨zs, hz, hl, hz, by omega, fun _ => ⟨ad, rfl, fun j p hj => ⟨_, ?_, k30_mk w p, ?_⟩⟩⟩
    · rfl
    · obtain ⟨e0, e1, e2⟩ := hp j p hj
      intro i u hu
      match i, hu with
      | 0, hu => simp only [List.getElem?_cons_zero, Option.some.injEq] at hu; subst hu; exact e0
      | 1, hu => simp only [List.getElem?_cons_succ, List.getElem?_cons_zero, Option.some.injEq] at hu; subst hu; exact e1
      | 2, hu => simp only [List.getElem?_cons_succ, List.getElem?_cons_zero, Option.some.injEq] at hu; subst hu; exact e2
      | i + 3, hu => simp at hu

set_option maxRecDepth 100000 in
theorem lifted (os : Os) (started : os.Started) (H : Type) (enc : TypeId × Value → H) :
    ReturnsInHanded {} Try.checked os 11 .any (Rows.lexerJoinsSpec.pre6 enc Try.prog Try.f11 Rows.lexerJoinsRow.domain false) (Rows.lexerJoinsSpec.post enc Try.prog Try.f11 false true false false) := by
  refine returnsInHanded_of_change_sized (C := Try.checked) own started (by kernel_rfl) Try.func11
    (ChangeSpec.witness6 (enc := enc) (C := Try.checked) false ⟨#[], #[.slice none 0 0], []⟩ 8 (by kernel_rfl) (by kernel_rfl) (by kernel_rfl) (by kernel_rfl)) ?_
  intro W base args ds gs before hval0 hW hcnd hsz0 _
  have hval : ∀ (j : Nat) t v, Try.f11.params[j]? = some t → args[j]? = some v → Value.okWide Try.prog W .any base t v := hval0
  have hW' := hW
  obtain ⟨p, q, hA0, hV, rfl, hfz, hnd⟩ := hW
  have hA : DataW.TrodAll enc Try.prog W 0 (fun _ => true) true Try.f11.params.toList args.toList ds p := hA0
  rw [Try.params11] at hA hval
  obtain ⟨v0, vs0, d0, ds0, p0, q0, hargs, rfl, rfl, h0, r0⟩ := trodAll_cons hA
  obtain ⟨rfl, rfl, rfl⟩ := trodAll_nil r0
  obtain rfl : args = #[v0] := by cases args; simp_all
  obtain ⟨rfl, rfl⟩ := trodVars_none hV
  obtain ⟨a0, len0, cap0, rfl⟩ := okWide_slice Try.underlying23 (hval 0 23 v0 rfl rfl)
  have k0 := h0
  have lt0 : ∀ x ∈ p0, x.block < W.heap.size := by obtain ⟨m, hm⟩ := k0; exact DataW.trod_lt m _ _ _ hm
  obtain ⟨zs, hz, hc, hC⟩ : ∃ zs : List PAll.S30, zs.length = len0 ∧ len0 ≤ cap0 ∧ YtkomgnaleocleaaW.PrintWords.Kd.C PAll.k30 W a0 len0 zs := by
    obtain ⟨fuel, hf⟩ := h0
    exact open_tokens hf
  subst hz
  clear hA0 hval0 hsz0
  obtain ⟨k, hk⟩ := Pure.LexerJoins zs
  refine (PAll.cylinderlaw35_LexerJoins.calls k a0 cap0 zs true W hC hc hk).mono fun e W' ⟨he, bel⟩ => ?_
  subst he
  exact ⟨_, rfl, _, _, _, [], _, [], hW', trodAll_mk1 (shut_bool Try.underlying4 _), (trodAll_cons_mk (Below.trod laidOut (by kernel_rfl) (of_decide_eq_true (by kernel_rfl)) k0 bel lt0) trodAll_mk0), rfl, bel.frame _, fun h => by cases h⟩
theorem over : Rows.lexerJoinsRow.holds Try.pinned (OpenSpec.ofChange Rows.lexerJoinsSpec) :=
  OpenClaim.holds_of_wide 11 Try.f11 rfl rfl rfl rfl rfl rfl rfl ⟨rfl, rfl, rfl, rfl, rfl⟩ rfl rfl rfl rfl rfl (by kernel_rfl) Try.func11 (by kernel_rfl)
    (of_decide_eq_true (by kernel_rfl)) (by unfold Func.isWrapper; first | (rw [if_pos (by decide +kernel)]; kernel_rfl) | (rw [if_neg (by decide +kernel)]; exact ⟨rfl, rfl⟩))
    (fun os started H enc _ => lifted os started H enc)
theorem proved : Rows.LexerJoinsSaid := over
#print axioms proved
end Go.Proofs.Ytkomgnaleocleaa.lexerJoins
namespace Go.Proofs.Ytkomgnaleocleaa
/-- The row, under a short name, for the claim. -/
theorem lexerJoins_holds : Rows.LexerJoinsSaid := lexerJoins.proved
end Go.Proofs.Ytkomgnaleocleaa
