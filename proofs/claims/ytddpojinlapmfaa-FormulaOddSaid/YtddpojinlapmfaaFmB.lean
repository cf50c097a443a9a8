/- The term and the formula of a tree, as pure data. -/
import Derived.Test.YtddpojinlapmfaaFmA
namespace Go.Proofs.Ytddpojinlapmfaa.PRef
set_option linter.unusedVariables false
set_option linter.unusedSimpArgs false
open Go.RowKit Go.Proofs.YtddpojinlapmfaaW.PrintWords Go.Proofs.YtddpojinlapmfaaW.PrintLast Go.Proofs.YtddpojinlapmfaaW.PrintMore

def nilT : Tm := .odd .nilIface
def nilF : Fm := .odd .nilIface
/-- formula.term: a term and whether the tree is one. -/
def termOf : S29 → Tm × Bool
  | ⟨k, v, nm, e, r, tr, al, kids⟩ =>
    if k = 1 then (.num (normI v.f0 v.f1).f0 (normI v.f0 v.f1).f1, kids.isEmpty)
    else if k = 2 then (.name nm, kids.isEmpty)
    else if k = 3 ∨ k = 4 ∨ k = 5 then
      match kids with
      | [a, b] =>
        let p := termOf a
        let q := termOf b
        (if k = 3 then .add p.1 q.1 else if k = 4 then .sub p.1 q.1 else .mul p.1 q.1, p.2 && q.2)
      | _ => (if k = 3 then .add nilT nilT else if k = 4 then .sub nilT nilT else .mul nilT nilT, false)
    else if k = 6 ∨ k = 7 then
      match kids with
      | [a] =>
        let p := termOf a
        (if k = 6 then .neg p.1 else .pow p.1 e, p.2 && (decide (k = 6) || decide (0 ≤ e)))
      | _ => (nilT, false)
    else (nilT, false)
/-- formula.two -/
def twoOf (l : List S29) : Tm × Tm × Bool := match l with
  | [a, b] => ((termOf a).1, (termOf b).1, (termOf a).2 && (termOf b).2)
  | _ => (nilT, nilT, false)
/-- formula.form: a formula and whether the tree is one. -/
def formOf : S29 → Fm × Bool
  | ⟨k, v, nm, e, r, tr, al, kids⟩ =>
    if k = 8 then (.truth tr, kids.isEmpty)
    else if k = 9 then (.atom (twoOf kids).1 r (twoOf kids).2.1, (twoOf kids).2.2 && sixB r)
    else if k = 10 ∨ k = 15 then
      match kids with
      | [a] =>
        let p := formOf a
        (if k = 10 then .not p.1 else .quant al nm p.1, p.2)
      | _ => (nilF, false)
    else if k = 11 ∨ k = 12 ∨ k = 13 ∨ k = 14 then
      match kids with
      | [a, b] =>
        let p := formOf a
        let q := formOf b
        (if k = 11 then .and p.1 q.1 else if k = 12 then .or p.1 q.1 else if k = 13 then .imp p.1 q.1 else .iff p.1 q.1, p.2 && q.2)
      | _ => (nilF, false)
    else (nilF, false)
end Go.Proofs.Ytddpojinlapmfaa.PRef
