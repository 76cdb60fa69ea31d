/- Three things that the other laws do not need. Conditions: none. -/
import Derived.Test.YtkdefjliknpliaaGreatDoorAb54
import Derived.Test.YtkdefjliknpliaaGreatDoorAb35
namespace Go.Proofs.YtkdefjliknpliaaGreatDoor.Ab
open Go
section
variable {P : Program} {ρ : Operand → V} {H : List HE} {ty : TypeId}
theorem op_indexAddr_arr {x y : Operand} {t n e s id off : Nat} {k : IntKind} {a : Int} {i : Nat} (hx : Is (ρ x) (.ptr id off)) (hy : As (ρ y) (.int k a)) (hn : a = (i : Int)) (hlt : i < n) (hu : P.underlying t = some (.array n e))
    (hi : ∃ i, P.info? e = some i ∧ i.size = s) : OpV P (.indexAddr t x y) ty ρ H (.ptr id (off + i * s)) H :=
  OpV.of_val fun g w r _ h => by
    subst hn
    have h1 := hx.rep (h x (by simp [Op.operands]))
    have h2 := hy.int (h y (by simp [Op.operands]))
    obtain ⟨ie, hie, hes⟩ := hi
    generalize hr : r x = v at h1
    cases h1 with
    | @ptr _ _ b hb =>
      refine ⟨.pointer (some ⟨b, off + i * s, none⟩), fun _ _ _ _ => ?_, .ptr hb⟩
      simp [execOp, Instr.indexAt, asIntOf, hr, h2, run_underlying hu, Instr.sureAddr, hlt, run_sizeOf' hie, hes, Addr.add_none]
end
section
variable {P : Program} {ρ : Operand → V} {H : List HE} {ty : TypeId} {α : Type} {f : α → D} {l r : List α} {v : α} {s : Nat} {a lo : Int}
theorem op_load_lp1 {x : Operand} {t id : Nat} {e : TypeId} (h1 : ∀ x, (f x).cells = [f x]) (hx : Is (ρ x) (.ptr id (a.toNat * 1))) (hH : H[id]? = some (.lst (l.map f) e 1)) (hv : ix l a = some v) (ht : Sc P t) :
    OpV P (.load t x) ty ρ H (.d (f v)) H := op_load_lp h1 (by rwa [Nat.mul_one] at hx) hH hv ht
end
section
open Go Go.Sort
def intLt (x y : Int) : Bool := decide (x < y)
theorem intLt_swo : SWO intLt where
  irrefl x := by simp [intLt]
  trans x y z h1 h2 := by simp [intLt] at *; omega
  ntrans x y z h1 h2 := by simp [intLt] at *; omega
theorem intLt_total (x y : Int) (h1 : intLt x y = false) (h2 : intLt y x = false) : x = y := by simp [intLt] at *; omega
end
section
open Go Go.Sort
theorem ACall.sort_int {P : Program} {fs : FuncId} {e : TypeId} {l : List Int} (hS : Sorts1 P fs (Value.int .i64) intLt) (hlen : l.length < 4611686018427387904) :
    ACall P fs [.hs 0 0 l.length 1] [.lst (l.map D.i) e 1] fun r H' => r = .tup [] ∧ H' = [.lst ((isort intLt l).map D.i) e 1] :=
  ACall.sort1 hS ⟨fun _ => rfl, fun x c hc => by simp [D.cells] at hc; subst hc; rfl⟩ (fun _ => rfl) intLt_swo intLt_total hlen
end
end Go.Proofs.YtkdefjliknpliaaGreatDoor.Ab
