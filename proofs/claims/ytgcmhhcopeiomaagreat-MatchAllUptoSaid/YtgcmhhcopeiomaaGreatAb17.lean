/- Texts: pieces of them, bytes as a text, their order. Conditions: none. -/
import Derived.Test.YtgcmhhcopeiomaaGreatAb16
import Derived.Laws.BytesArg
namespace Go.Proofs.YtgcmhhcopeiomaaGreat.Ab
open Go

abbrev ltS (a b : List UInt8) : Bool := Go.Op.bytesLess a b
section
variable {P : Program} {ρ : Operand → V} {H : List HE} {ty : TypeId} {x y : Operand} {t u : TypeId} {s s' : List UInt8}
theorem op_geqS (hx : As (ρ x) (.str s)) (hy : As (ρ y) (.str s')) : OpV P (.binOp .geq t x y u) ty ρ H (.d (.bool (!ltS s s'))) H :=
  OpV.of_val fun _ _ _ _ h => ⟨.bool (!ltS s s'), fun _ _ _ _ => by simp [execOp, hx.str (h x (by simp [Op.operands])), hy.str (h y (by simp [Op.operands])), eqGuard, binOp, Op.stringOp], .d (.bool _)⟩
theorem op_leqS (hx : As (ρ x) (.str s)) (hy : As (ρ y) (.str s')) : OpV P (.binOp .leq t x y u) ty ρ H (.d (.bool (ltS s s' || decide (s = s')))) H :=
  OpV.of_val fun _ _ _ _ h => ⟨.bool (ltS s s' || decide (s = s')), fun _ _ _ _ => by simp [execOp, hx.str (h x (by simp [Op.operands])), hy.str (h y (by simp [Op.operands])), eqGuard, binOp, Op.stringOp, beqL_dec], .d (.bool _)⟩
end
end Go.Proofs.YtgcmhhcopeiomaaGreat.Ab
