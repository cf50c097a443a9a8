/- The reference's functions by their plain forms: contracts. -/
import Derived.Test.YtddpojinlapmfaaPRefRB
import Derived.Test.YtddpojinlapmfaaPRefRC
import Derived.Test.YtddpojinlapmfaaPRefRD
import Derived.Test.YtddpojinlapmfaaPRefRE
import Derived.Test.YtddpojinlapmfaaRefD
namespace Go.Proofs.Ytddpojinlapmfaa.PRef
set_option linter.unusedVariables false
set_option linter.unusedSimpArgs false
open Go.RowKit Go.Proofs.YtddpojinlapmfaaW.PrintWords Go.Proofs.YtddpojinlapmfaaW.PrintLast Go.Proofs.YtddpojinlapmfaaW.PrintMore

variable {x y : S29} {A2 A8 D2 D8 : Option Addr} {c2 c8 d2 d8 : Nat} {w : World}
theorem few_any (hR : ReadR w x A2 c2 A8 c8) (n : Int) (hn : 0 ≤ n) (hn2 : n ≤ 1000000) :
    Calls Try.prog 17 #[treeV x (.slice A2 x.f1.f1.length c2) (.slice A8 x.f7.length c8), .int .i64 n] w fun e w' => e = .returned (.bool (fewB x n)) ∧ Below w.heap.size w w' := by
  obtain ⟨k, hk⟩ := (few_ev x n hn hn2).rounds
  exact cylinderref34_Few.calls k _ _ A2 c2 _ _ _ _ _ _ A8 c8 _ n _ w hR.g2 hR.l2 hR.g8 hR.l8 hk
theorem is_any (hR : ReadR w x A2 c2 A8 c8) (hx : sizeS x ≤ 1000000) (b : Bool) :
    Calls Try.prog 19 #[treeV x (.slice A2 x.f1.f1.length c2) (.slice A8 x.f7.length c8), .bool b] w fun e w' => e = .returned (.bool (isS x b)) ∧ Below w.heap.size w w' := by
  obtain ⟨k, hk⟩ := (is_ev x b hx).rounds
  exact cylinderref34_Is.calls k _ _ A2 c2 _ _ _ _ _ _ A8 c8 _ b _ w hR.g2 hR.l2 hR.g8 hR.l8 hk
theorem canon_any (hR : ReadR w x A2 c2 A8 c8) (hs : SmallS x) (hx : sizeS x ≤ 1000000) :
    Calls Try.prog 22 #[treeV x (.slice A2 x.f1.f1.length c2) (.slice A8 x.f7.length c8)] w fun e w' => ∃ v2 v8, e = .returned (treeV (canonS x) v2 v8) ∧ TreeR w' w.heap.size (canonS x) v2 v8 ∧ Below w.heap.size w w' := by
  obtain ⟨k, hk⟩ := (canon_ev x hs hx).rounds
  refine (cylinderref34_Canon.calls k _ _ A2 c2 _ _ _ _ _ _ A8 c8 _ _ _ _ _ _ _ _ _ _ w hR.g2 hR.l2 hR.g8 hR.l8 hk).mono ?_
  rintro e w' ⟨v2, v8, rfl, h2, h8, hb⟩
  exact ⟨v2, v8, rfl, ⟨h2, Kd.R_mono h8 (fun _ _ => trivial)⟩, hb⟩
theorem same_any (hR : ReadR w x A2 c2 A8 c8) (hT : ReadR w y D2 d2 D8 d8) (hs : SmallS x) (hx : sizeS x ≤ 1000000) : ∃ r : Bool, (r = true ↔ x = y) ∧
    Calls Try.prog 20 #[treeV x (.slice A2 x.f1.f1.length c2) (.slice A8 x.f7.length c8), treeV y (.slice D2 y.f1.f1.length d2) (.slice D8 y.f7.length d8)] w fun e w' => e = .returned (.bool r) ∧ Below w.heap.size w w' := by
  obtain ⟨r, hr, hrr⟩ := same_ev x hs hx y
  obtain ⟨k, hk⟩ := hr.rounds
  exact ⟨r, hrr, cylinderref34_Same.calls k _ _ A2 c2 _ _ _ _ _ _ A8 c8 _ _ _ D2 d2 _ _ _ _ _ _ D8 d8 _ _ w hR.g2 hR.l2 hR.g8 hR.l8 hT.g2 hT.l2 hT.g8 hT.l8 hk⟩
theorem sameT_any (hR : ReadR w x A2 c2 A8 c8) (hT : ReadR w y D2 d2 D8 d8) (hs : SmallS x) (hx : sizeS x ≤ 1000000) (hxy : x = y) :
    Calls Try.prog 20 #[treeV x (.slice A2 x.f1.f1.length c2) (.slice A8 x.f7.length c8), treeV y (.slice D2 y.f1.f1.length d2) (.slice D8 y.f7.length d8)] w fun e w' => e = .returned (.bool true) ∧ Below w.heap.size w w' := by
  obtain ⟨r, hrr, h⟩ := same_any hR hT hs hx
  rw [hrr.2 hxy] at h
  exact h
/-- A tree of the call's own reads. -/
theorem TreeR.read {w : World} {base : Nat} {x : S29} {A2 A8 : Option Addr} {c2 c8 : Nat} (h : TreeR w base x (.slice A2 x.f1.f1.length c2) (.slice A8 x.f7.length c8)) : ReadR w x A2 c2 A8 c8 :=
  ⟨(Kd.R_reads' h.g2).2.1, (Kd.R_reads' h.g2).2.2, (Kd.R_reads' h.g8).2.1, (Kd.R_reads' h.g8).2.2⟩
end Go.Proofs.Ytddpojinlapmfaa.PRef
