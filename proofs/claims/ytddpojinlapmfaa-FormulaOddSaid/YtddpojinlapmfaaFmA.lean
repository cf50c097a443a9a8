/- Terms and formulas as pure data, and how a value in a world reads as one. -/
import Derived.Lib.Hide
import Derived.Test.YtddpojinlapmfaaPRefx0
namespace Go.Proofs.Ytddpojinlapmfaa.PRef
set_option linter.unusedVariables false
set_option linter.unusedSimpArgs false
open Go.RowKit Go.Proofs.YtddpojinlapmfaaW.PrintWords Go.Proofs.YtddpojinlapmfaaW.PrintLast Go.Proofs.YtddpojinlapmfaaW.PrintMore

inductive Tm where
  | num (n : Bool) (xs : List Int)
  | name (s : ByteArray)
  | add (a b : Tm)
  | sub (a b : Tm)
  | mul (a b : Tm)
  | neg (a : Tm)
  | pow (a : Tm) (e : Int)
  | odd (v : Value)

/-- nil, or a pointer to a Name: what counts as Num 0. -/
def OddT (v : Value) : Prop := v = .nilIface ∨ ∃ p, v = .iface 89 (.pointer p)

def IsTm (w : World) : Tm → Value → Prop
  | .num n xs, v => ∃ A c, v = .iface 80 (.agg #[.bool n, .slice A xs.length c]) ∧ xs.length ≤ c ∧ (Kd.int .u32).C w A xs.length xs
  | .name s, v => v = .iface 82 (.agg #[.string s])
  | .add a b, v => ∃ va vb, v = .iface 88 (.agg #[va, vb]) ∧ IsTm w a va ∧ IsTm w b vb
  | .sub a b, v => ∃ va vb, v = .iface 75 (.agg #[va, vb]) ∧ IsTm w a va ∧ IsTm w b vb
  | .mul a b, v => ∃ va vb, v = .iface 70 (.agg #[va, vb]) ∧ IsTm w a va ∧ IsTm w b vb
  | .neg a, v => ∃ va, v = .iface 74 (.agg #[va]) ∧ IsTm w a va
  | .pow a e, v => ∃ va, v = .iface 72 (.agg #[va, .int .i64 e]) ∧ IsTm w a va
  | .odd u, v => v = u ∧ OddT u

theorem IsTm.below {w w' : World} (hb : Below w.heap.size w w') : ∀ {t : Tm} {v : Value}, IsTm w t v → IsTm w' t v
  | .num n xs, v, h => by obtain ⟨A, c, h1, h2, h3⟩ := h; exact ⟨A, c, h1, h2, Kd.C_below h3 hb⟩
  | .name s, v, h => h
  | .add a b, v, h => by obtain ⟨va, vb, h1, h2, h3⟩ := h; exact ⟨va, vb, h1, h2.below hb, h3.below hb⟩
  | .sub a b, v, h => by obtain ⟨va, vb, h1, h2, h3⟩ := h; exact ⟨va, vb, h1, h2.below hb, h3.below hb⟩
  | .mul a b, v, h => by obtain ⟨va, vb, h1, h2, h3⟩ := h; exact ⟨va, vb, h1, h2.below hb, h3.below hb⟩
  | .neg a, v, h => by obtain ⟨va, h1, h2⟩ := h; exact ⟨va, h1, h2.below hb⟩
  | .pow a e, v, h => by obtain ⟨va, h1, h2⟩ := h; exact ⟨va, h1, h2.below hb⟩
  | .odd u, v, h => h

inductive Fm where
  | truth (b : Bool)
  | atom (l : Tm) (rel : Int) (r : Tm)
  | not (a : Fm)
  | and (a b : Fm)
  | or (a b : Fm)
  | imp (a b : Fm)
  | iff (a b : Fm)
  | quant (all : Bool) (s : ByteArray) (a : Fm)
  | odd (v : Value)

/-- nil, or a pointer to a Truth: what counts as Truth false. -/
def OddF (v : Value) : Prop := v = .nilIface ∨ ∃ p, v = .iface 86 (.pointer p)

def IsFm (w : World) : Fm → Value → Prop
  | .truth b, v => v = .iface 78 (.agg #[.bool b])
  | .atom l rel r, v => ∃ vl vr, v = .iface 91 (.agg #[vl, .int .i64 rel, vr]) ∧ IsTm w l vl ∧ IsTm w r vr
  | .not a, v => ∃ va, v = .iface 93 (.agg #[va]) ∧ IsFm w a va
  | .and a b, v => ∃ va vb, v = .iface 85 (.agg #[va, vb]) ∧ IsFm w a va ∧ IsFm w b vb
  | .or a b, v => ∃ va vb, v = .iface 87 (.agg #[va, vb]) ∧ IsFm w a va ∧ IsFm w b vb
  | .imp a b, v => ∃ va vb, v = .iface 116 (.agg #[va, vb]) ∧ IsFm w a va ∧ IsFm w b vb
  | .iff a b, v => ∃ va vb, v = .iface 117 (.agg #[va, vb]) ∧ IsFm w a va ∧ IsFm w b vb
  | .quant all s a, v => ∃ va, v = .iface 61 (.agg #[.bool all, .string s, va]) ∧ IsFm w a va
  | .odd u, v => v = u ∧ OddF u

theorem IsFm.below {w w' : World} (hb : Below w.heap.size w w') : ∀ {t : Fm} {v : Value}, IsFm w t v → IsFm w' t v
  | .truth b, v, h => h
  | .atom l rel r, v, h => by obtain ⟨va, vb, h1, h2, h3⟩ := h; exact ⟨va, vb, h1, h2.below hb, h3.below hb⟩
  | .not a, v, h => by obtain ⟨va, h1, h2⟩ := h; exact ⟨va, h1, h2.below hb⟩
  | .and a b, v, h => by obtain ⟨va, vb, h1, h2, h3⟩ := h; exact ⟨va, vb, h1, h2.below hb, h3.below hb⟩
  | .or a b, v, h => by obtain ⟨va, vb, h1, h2, h3⟩ := h; exact ⟨va, vb, h1, h2.below hb, h3.below hb⟩
  | .imp a b, v, h => by obtain ⟨va, vb, h1, h2, h3⟩ := h; exact ⟨va, vb, h1, h2.below hb, h3.below hb⟩
  | .iff a b, v, h => by obtain ⟨va, vb, h1, h2, h3⟩ := h; exact ⟨va, vb, h1, h2.below hb, h3.below hb⟩
  | .quant all s a, v, h => by obtain ⟨va, h1, h2⟩ := h; exact ⟨va, h1, h2.below hb⟩
  | .odd u, v, h => h

/-! ### numbers -/
/-- The words without the zeros at the end. -/
def trimL (xs : List Int) : List Int := (xs.reverse.dropWhile (· == 0)).reverse
def normI (n : Bool) (xs : List Int) : S25 := ⟨n && !(trimL xs).isEmpty, trimL xs⟩

/-! ### canonical trees -/
def leaf (k : Int) : S29 := { z29 with f0 := k }
def node (k : Int) (l : List S29) : S29 := { z29 with f0 := k, f7 := l }
def plainT : Tm → S29
  | .num n xs => { z29 with f0 := 1, f1 := normI n xs }
  | .name s => { z29 with f0 := 2, f2 := s }
  | .add a b => node 3 [plainT a, plainT b]
  | .sub a b => node 4 [plainT a, plainT b]
  | .mul a b => node 5 [plainT a, plainT b]
  | .neg a => node 6 [plainT a]
  | .pow a e => { node 7 [plainT a] with f3 := if 0 ≤ e then e else 0 }
  | .odd _ => leaf 1
def sixB (r : Int) : Bool := decide (1 ≤ r) && decide (r ≤ 6)
def plainF : Fm → S29
  | .truth b => { leaf 8 with f5 := b }
  | .atom l rel r => { node 9 [plainT l, plainT r] with f4 := if sixB rel then rel else 3 }
  | .not a => node 10 [plainF a]
  | .and a b => node 11 [plainF a, plainF b]
  | .or a b => node 12 [plainF a, plainF b]
  | .imp a b => node 13 [plainF a, plainF b]
  | .iff a b => node 14 [plainF a, plainF b]
  | .quant all s a => { node 15 [plainF a] with f6 := all, f2 := s }
  | .odd _ => leaf 8
end Go.Proofs.Ytddpojinlapmfaa.PRef
