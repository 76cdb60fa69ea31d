/- Comparing rows. Conditions: none. -/
import Derived.Test.YthopbnohgifehaaTy
import Derived.Test.YthopbnohgifehaaMi
set_option maxRecDepth 100000
namespace Go.Proofs.Ythopbnohgifehaa.Ab
open Go
attribute [local irreducible] AL AD AW

theorem es54 : EqS Try.prog 54 SRatio.e := ⟨by kernel_rfl, fun Pr w x y a b hx hy => by
  obtain ⟨vs, rfl, h1⟩ := aggL hx
  obtain ⟨us, rfl, h2⟩ := aggL hy
  obtain ⟨x1, x2⟩ := x
  obtain ⟨y1, y2⟩ := y
  rcases h1 with _ | ⟨a1, _ | ⟨a2, _ | _⟩⟩
  rcases h2 with _ | ⟨b1, _ | ⟨b2, _ | _⟩⟩
  cases a1; cases a2; cases b1; cases b2
  refine ⟨_, _, rfl, rfl, fun w' => ?_⟩
  rw [run_equalIn_agg w' 9999 54 _ _ (by simp [Program.fieldsOf, Try.underlying54]) (by kernel_rfl)]
  simp [Program.fieldsOf, Try.underlying54, Op.eqFields, part, eqI Try.underlying3, ite_ok]⟩
end Go.Proofs.Ythopbnohgifehaa.Ab
