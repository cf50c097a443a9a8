/- Type assertions to the concrete types of Term and Formula, with 'ok': what they give. -/
import Derived.Test.YtddpojinlapmfaaNatA
namespace Go.Proofs.Ytddpojinlapmfaa.PRef
set_option linter.unusedVariables false
open Go.RowKit

theorem taH80 (v : Value) (X : TypeId) (w : World) : (Instr.typeAssert (.iface 80 v) X 80 true).run Try.prog w = .ok (.tuple #[v, .bool true]) w := by
  simp [Instr.typeAssert, run_underlying Try.underlying80]
theorem taM80 (a : TypeId) (v : Value) (X : TypeId) (w : World) (h : a ≠ 80) : (Instr.typeAssert (.iface a v) X 80 true).run Try.prog w = .ok (.tuple #[.agg #[.bool false, .slice none 0 0], .bool false]) w := by
  simp [Instr.typeAssert, run_underlying Try.underlying80, Try.zeroValue80, h]
theorem taN80 (X : TypeId) (w : World) : (Instr.typeAssert .nilIface X 80 true).run Try.prog w = .ok (.tuple #[.agg #[.bool false, .slice none 0 0], .bool false]) w := by
  simp [Instr.typeAssert, run_underlying Try.underlying80, Try.zeroValue80]
theorem taH82 (v : Value) (X : TypeId) (w : World) : (Instr.typeAssert (.iface 82 v) X 82 true).run Try.prog w = .ok (.tuple #[v, .bool true]) w := by
  simp [Instr.typeAssert, run_underlying Try.underlying82]
theorem taM82 (a : TypeId) (v : Value) (X : TypeId) (w : World) (h : a ≠ 82) : (Instr.typeAssert (.iface a v) X 82 true).run Try.prog w = .ok (.tuple #[.agg #[.string ⟨#[]⟩], .bool false]) w := by
  simp [Instr.typeAssert, run_underlying Try.underlying82, Try.zeroValue82, h]
theorem taN82 (X : TypeId) (w : World) : (Instr.typeAssert .nilIface X 82 true).run Try.prog w = .ok (.tuple #[.agg #[.string ⟨#[]⟩], .bool false]) w := by
  simp [Instr.typeAssert, run_underlying Try.underlying82, Try.zeroValue82]
theorem taH88 (v : Value) (X : TypeId) (w : World) : (Instr.typeAssert (.iface 88 v) X 88 true).run Try.prog w = .ok (.tuple #[v, .bool true]) w := by
  simp [Instr.typeAssert, run_underlying Try.underlying88]
theorem taM88 (a : TypeId) (v : Value) (X : TypeId) (w : World) (h : a ≠ 88) : (Instr.typeAssert (.iface a v) X 88 true).run Try.prog w = .ok (.tuple #[.agg #[.nilIface, .nilIface], .bool false]) w := by
  simp [Instr.typeAssert, run_underlying Try.underlying88, Try.zeroValue88, h]
theorem taN88 (X : TypeId) (w : World) : (Instr.typeAssert .nilIface X 88 true).run Try.prog w = .ok (.tuple #[.agg #[.nilIface, .nilIface], .bool false]) w := by
  simp [Instr.typeAssert, run_underlying Try.underlying88, Try.zeroValue88]
theorem taH75 (v : Value) (X : TypeId) (w : World) : (Instr.typeAssert (.iface 75 v) X 75 true).run Try.prog w = .ok (.tuple #[v, .bool true]) w := by
  simp [Instr.typeAssert, run_underlying Try.underlying75]
theorem taM75 (a : TypeId) (v : Value) (X : TypeId) (w : World) (h : a ≠ 75) : (Instr.typeAssert (.iface a v) X 75 true).run Try.prog w = .ok (.tuple #[.agg #[.nilIface, .nilIface], .bool false]) w := by
  simp [Instr.typeAssert, run_underlying Try.underlying75, Try.zeroValue75, h]
theorem taN75 (X : TypeId) (w : World) : (Instr.typeAssert .nilIface X 75 true).run Try.prog w = .ok (.tuple #[.agg #[.nilIface, .nilIface], .bool false]) w := by
  simp [Instr.typeAssert, run_underlying Try.underlying75, Try.zeroValue75]
theorem taH70 (v : Value) (X : TypeId) (w : World) : (Instr.typeAssert (.iface 70 v) X 70 true).run Try.prog w = .ok (.tuple #[v, .bool true]) w := by
  simp [Instr.typeAssert, run_underlying Try.underlying70]
theorem taM70 (a : TypeId) (v : Value) (X : TypeId) (w : World) (h : a ≠ 70) : (Instr.typeAssert (.iface a v) X 70 true).run Try.prog w = .ok (.tuple #[.agg #[.nilIface, .nilIface], .bool false]) w := by
  simp [Instr.typeAssert, run_underlying Try.underlying70, Try.zeroValue70, h]
theorem taN70 (X : TypeId) (w : World) : (Instr.typeAssert .nilIface X 70 true).run Try.prog w = .ok (.tuple #[.agg #[.nilIface, .nilIface], .bool false]) w := by
  simp [Instr.typeAssert, run_underlying Try.underlying70, Try.zeroValue70]
theorem taH74 (v : Value) (X : TypeId) (w : World) : (Instr.typeAssert (.iface 74 v) X 74 true).run Try.prog w = .ok (.tuple #[v, .bool true]) w := by
  simp [Instr.typeAssert, run_underlying Try.underlying74]
theorem taM74 (a : TypeId) (v : Value) (X : TypeId) (w : World) (h : a ≠ 74) : (Instr.typeAssert (.iface a v) X 74 true).run Try.prog w = .ok (.tuple #[.agg #[.nilIface], .bool false]) w := by
  simp [Instr.typeAssert, run_underlying Try.underlying74, Try.zeroValue74, h]
theorem taN74 (X : TypeId) (w : World) : (Instr.typeAssert .nilIface X 74 true).run Try.prog w = .ok (.tuple #[.agg #[.nilIface], .bool false]) w := by
  simp [Instr.typeAssert, run_underlying Try.underlying74, Try.zeroValue74]
theorem taH72 (v : Value) (X : TypeId) (w : World) : (Instr.typeAssert (.iface 72 v) X 72 true).run Try.prog w = .ok (.tuple #[v, .bool true]) w := by
  simp [Instr.typeAssert, run_underlying Try.underlying72]
theorem taM72 (a : TypeId) (v : Value) (X : TypeId) (w : World) (h : a ≠ 72) : (Instr.typeAssert (.iface a v) X 72 true).run Try.prog w = .ok (.tuple #[.agg #[.nilIface, .int .i64 0], .bool false]) w := by
  simp [Instr.typeAssert, run_underlying Try.underlying72, Try.zeroValue72, h]
theorem taN72 (X : TypeId) (w : World) : (Instr.typeAssert .nilIface X 72 true).run Try.prog w = .ok (.tuple #[.agg #[.nilIface, .int .i64 0], .bool false]) w := by
  simp [Instr.typeAssert, run_underlying Try.underlying72, Try.zeroValue72]
theorem taH78 (v : Value) (X : TypeId) (w : World) : (Instr.typeAssert (.iface 78 v) X 78 true).run Try.prog w = .ok (.tuple #[v, .bool true]) w := by
  simp [Instr.typeAssert, run_underlying Try.underlying78]
theorem taM78 (a : TypeId) (v : Value) (X : TypeId) (w : World) (h : a ≠ 78) : (Instr.typeAssert (.iface a v) X 78 true).run Try.prog w = .ok (.tuple #[.agg #[.bool false], .bool false]) w := by
  simp [Instr.typeAssert, run_underlying Try.underlying78, Try.zeroValue78, h]
theorem taN78 (X : TypeId) (w : World) : (Instr.typeAssert .nilIface X 78 true).run Try.prog w = .ok (.tuple #[.agg #[.bool false], .bool false]) w := by
  simp [Instr.typeAssert, run_underlying Try.underlying78, Try.zeroValue78]
theorem taH91 (v : Value) (X : TypeId) (w : World) : (Instr.typeAssert (.iface 91 v) X 91 true).run Try.prog w = .ok (.tuple #[v, .bool true]) w := by
  simp [Instr.typeAssert, run_underlying Try.underlying91]
theorem taM91 (a : TypeId) (v : Value) (X : TypeId) (w : World) (h : a ≠ 91) : (Instr.typeAssert (.iface a v) X 91 true).run Try.prog w = .ok (.tuple #[.agg #[.nilIface, .int .i64 0, .nilIface], .bool false]) w := by
  simp [Instr.typeAssert, run_underlying Try.underlying91, Try.zeroValue91, h]
theorem taN91 (X : TypeId) (w : World) : (Instr.typeAssert .nilIface X 91 true).run Try.prog w = .ok (.tuple #[.agg #[.nilIface, .int .i64 0, .nilIface], .bool false]) w := by
  simp [Instr.typeAssert, run_underlying Try.underlying91, Try.zeroValue91]
theorem taH93 (v : Value) (X : TypeId) (w : World) : (Instr.typeAssert (.iface 93 v) X 93 true).run Try.prog w = .ok (.tuple #[v, .bool true]) w := by
  simp [Instr.typeAssert, run_underlying Try.underlying93]
theorem taM93 (a : TypeId) (v : Value) (X : TypeId) (w : World) (h : a ≠ 93) : (Instr.typeAssert (.iface a v) X 93 true).run Try.prog w = .ok (.tuple #[.agg #[.nilIface], .bool false]) w := by
  simp [Instr.typeAssert, run_underlying Try.underlying93, Try.zeroValue93, h]
theorem taN93 (X : TypeId) (w : World) : (Instr.typeAssert .nilIface X 93 true).run Try.prog w = .ok (.tuple #[.agg #[.nilIface], .bool false]) w := by
  simp [Instr.typeAssert, run_underlying Try.underlying93, Try.zeroValue93]
theorem taH85 (v : Value) (X : TypeId) (w : World) : (Instr.typeAssert (.iface 85 v) X 85 true).run Try.prog w = .ok (.tuple #[v, .bool true]) w := by
  simp [Instr.typeAssert, run_underlying Try.underlying85]
theorem taM85 (a : TypeId) (v : Value) (X : TypeId) (w : World) (h : a ≠ 85) : (Instr.typeAssert (.iface a v) X 85 true).run Try.prog w = .ok (.tuple #[.agg #[.nilIface, .nilIface], .bool false]) w := by
  simp [Instr.typeAssert, run_underlying Try.underlying85, Try.zeroValue85, h]
theorem taN85 (X : TypeId) (w : World) : (Instr.typeAssert .nilIface X 85 true).run Try.prog w = .ok (.tuple #[.agg #[.nilIface, .nilIface], .bool false]) w := by
  simp [Instr.typeAssert, run_underlying Try.underlying85, Try.zeroValue85]
theorem taH87 (v : Value) (X : TypeId) (w : World) : (Instr.typeAssert (.iface 87 v) X 87 true).run Try.prog w = .ok (.tuple #[v, .bool true]) w := by
  simp [Instr.typeAssert, run_underlying Try.underlying87]
theorem taM87 (a : TypeId) (v : Value) (X : TypeId) (w : World) (h : a ≠ 87) : (Instr.typeAssert (.iface a v) X 87 true).run Try.prog w = .ok (.tuple #[.agg #[.nilIface, .nilIface], .bool false]) w := by
  simp [Instr.typeAssert, run_underlying Try.underlying87, Try.zeroValue87, h]
theorem taN87 (X : TypeId) (w : World) : (Instr.typeAssert .nilIface X 87 true).run Try.prog w = .ok (.tuple #[.agg #[.nilIface, .nilIface], .bool false]) w := by
  simp [Instr.typeAssert, run_underlying Try.underlying87, Try.zeroValue87]
theorem taH116 (v : Value) (X : TypeId) (w : World) : (Instr.typeAssert (.iface 116 v) X 116 true).run Try.prog w = .ok (.tuple #[v, .bool true]) w := by
  simp [Instr.typeAssert, run_underlying Try.underlying116]
theorem taM116 (a : TypeId) (v : Value) (X : TypeId) (w : World) (h : a ≠ 116) : (Instr.typeAssert (.iface a v) X 116 true).run Try.prog w = .ok (.tuple #[.agg #[.nilIface, .nilIface], .bool false]) w := by
  simp [Instr.typeAssert, run_underlying Try.underlying116, Try.zeroValue116, h]
theorem taN116 (X : TypeId) (w : World) : (Instr.typeAssert .nilIface X 116 true).run Try.prog w = .ok (.tuple #[.agg #[.nilIface, .nilIface], .bool false]) w := by
  simp [Instr.typeAssert, run_underlying Try.underlying116, Try.zeroValue116]
theorem taH117 (v : Value) (X : TypeId) (w : World) : (Instr.typeAssert (.iface 117 v) X 117 true).run Try.prog w = .ok (.tuple #[v, .bool true]) w := by
  simp [Instr.typeAssert, run_underlying Try.underlying117]
theorem taM117 (a : TypeId) (v : Value) (X : TypeId) (w : World) (h : a ≠ 117) : (Instr.typeAssert (.iface a v) X 117 true).run Try.prog w = .ok (.tuple #[.agg #[.nilIface, .nilIface], .bool false]) w := by
  simp [Instr.typeAssert, run_underlying Try.underlying117, Try.zeroValue117, h]
theorem taN117 (X : TypeId) (w : World) : (Instr.typeAssert .nilIface X 117 true).run Try.prog w = .ok (.tuple #[.agg #[.nilIface, .nilIface], .bool false]) w := by
  simp [Instr.typeAssert, run_underlying Try.underlying117, Try.zeroValue117]
theorem taH61 (v : Value) (X : TypeId) (w : World) : (Instr.typeAssert (.iface 61 v) X 61 true).run Try.prog w = .ok (.tuple #[v, .bool true]) w := by
  simp [Instr.typeAssert, run_underlying Try.underlying61]
theorem taM61 (a : TypeId) (v : Value) (X : TypeId) (w : World) (h : a ≠ 61) : (Instr.typeAssert (.iface a v) X 61 true).run Try.prog w = .ok (.tuple #[.agg #[.bool false, .string ⟨#[]⟩, .nilIface], .bool false]) w := by
  simp [Instr.typeAssert, run_underlying Try.underlying61, Try.zeroValue61, h]
theorem taN61 (X : TypeId) (w : World) : (Instr.typeAssert .nilIface X 61 true).run Try.prog w = .ok (.tuple #[.agg #[.bool false, .string ⟨#[]⟩, .nilIface], .bool false]) w := by
  simp [Instr.typeAssert, run_underlying Try.underlying61, Try.zeroValue61]
end Go.Proofs.Ytddpojinlapmfaa.PRef
