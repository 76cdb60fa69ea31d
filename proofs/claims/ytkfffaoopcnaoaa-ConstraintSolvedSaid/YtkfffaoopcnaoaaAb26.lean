/- Comparing rows of plain cells. Conditions: none. -/
import Derived.Test.YtkfffaoopcnaoaaAb25
import Derived.Laws.StructEq
import Derived.KernelRfl
namespace Go.Proofs.Ytkfffaoopcnaoaa.Ab
open Go

section
variable {P : Program} {ρ : Operand → V} {H : List HE} {ty : TypeId}
/-- The beginning of a list, where the rest is given up. -/
theorem op_truncH {α : Type} {f : α → D} {l r : List α} {x : Operand} {t e s bytes id len : Nat} {hi : Int} {b : Option Operand} (hx : Is (ρ x) (.hs id 0 len s)) (hH : H[id]? = some (.lst (l.map f) e s)) (hl : l.length = len) (ht : SlT P t e s bytes) (hb : hiM ρ len b hi)
    (hv : slc l 0 hi = some r) : OpV P (.slice t x none b none) ty ρ H (.hs id 0 r.length s) (H.set id (.lst (r.map f) e s)) := by
  intro g w rr pos after guard dst hw h
  have h0 := op_sliceH (ty := ty) (a := none) hx hH hl ht rfl hb hv g w rr pos after guard dst hw h
  have hidlt : id < H.length := (List.getElem?_eq_some_iff.1 hH).1
  unfold OpRuns at h0 ⊢
  have hr : r = l.take hi.toNat := by
    unfold slc at hv
    split at hv
    · injection hv with hv; rw [← hv]; simp
    · cases hv
  revert h0
  generalize (execOp rr ⟨dst, .slice t x none b none, ty, pos, after, guard⟩).run P w = res
  have key : ∀ g' w', WOK g' w' H → WOK g' w' (H.set id (.lst (r.map f) e s)) ∧ Evo g' w' g' w' := by
    intro g' w' hw'
    obtain ⟨ad, cap, k1, k2, k3, k4⟩ := hw'.lst id _ _ _ hH
    by_cases hc : cap = 0
    · clear k4
      simp only [List.length_map] at k2
      have hl0 : l = [] := List.eq_nil_of_length_eq_zero (by omega)
      have hset : H.set id (.lst (r.map f) e s) = H := by
        rw [hr, hl0, List.take_nil]
        apply List.ext_getElem?
        intro i
        by_cases hi : i = id
        · subst hi; rw [List.getElem?_set_self hidlt, hH, hl0]
        · rw [List.getElem?_set_ne (Ne.symm hi)]
      rw [hset]; exact ⟨hw', .refl _ _⟩
    · obtain ⟨b, arr, rfl, q0, q2, q3, q4, q5⟩ := k4 (by omega)
      simp only [List.length_map] at k2
      refine WOK.storeLst (w' := w') (arr' := arr) hw' hH k1 (by omega) q0 ⟨rfl, rfl, rfl⟩ rfl q2 (fun _ _ => rfl) (by rw [hr]; simp; omega) q3 (fun k x v hx' hv' => q5 k x v ?_ hv')
      have : l.map f = r.map f ++ (l.drop hi.toNat).map f := by rw [hr, ← List.map_append, List.take_append_drop]
      rw [this, flat_append, List.getElem?_append_left (List.getElem?_eq_some_iff.1 hx').1]
      exact hx'
  cases res with
  | ok nx w' =>
    cases nx with
    | value v => rintro ⟨g', w1, w2, w3⟩; exact ⟨g', (key g' w' w1).1, w2, w3⟩
    | skip => rintro ⟨g', w1, w2, w3⟩; exact ⟨g', (key g' w' w1).1, w2, w3⟩
    | enter f args => intro h; exact h.mono fun e w'' ⟨v, he, g', w1, w2, w3⟩ => ⟨v, he, g', (key g' w'' w1).1, w2, w3⟩
    | _ => exact fun h => h
  | halt x w' => exact fun h => h
end
section
variable {P : Program} {ρ : Operand → V} {H : List HE} {ty : TypeId} {x y : Operand} {t u : TypeId} {k : IntKind} {a b c : Int}
end
theorem w1 {m : Nat} (h : m + 1 ≤ 4611686018427387904) : IntKind.i64.wrap ((m : Int) + ((1 : Nat) : Int)) = ((m + 1 : Nat) : Int) := by
  rw [w64 (by omega) (by omega)]; omega
theorem ws {m i : Nat} (h : m + 1 ≤ 4611686018427387904) (hi : i ≤ m) : IntKind.i64.wrap (((m + 1 : Nat) : Int) - (i : Int)) = ((m + 1 - i : Nat) : Int) := by
  rw [w64 (by omega) (by omega)]; omega
/-- Two values of a type are compared as what they mean. -/
def EqS {α : Type} [DecidableEq α] (P : Program) (t : TypeId) (f : α → D) : Prop :=
  P.eqGuardType P.depth t = false ∧ ∀ Pr w x y a b, RepD Pr w (f x) a → RepD Pr w (f y) b → ∃ xs ys, a = .agg xs ∧ b = .agg ys ∧ ∀ w', (Op.equalIn 10000 t (.agg xs) (.agg ys)).run P w' = .ok (decide (x = y)) w'

inductive RepLL (Pr : Nat → Nat → Prop) (w : World) : List D → List Value → Prop
  | nil : RepLL Pr w [] []
  | cons {x : D} {v : Value} {l : List D} {vs : List Value} : RepD Pr w x v → RepLL Pr w l vs → RepLL Pr w (x :: l) (v :: vs)
theorem RepLL.of {Pr : Nat → Nat → Prop} {w : World} : ∀ {l : List D} {vs : List Value}, vs.length = l.length → (∀ (i : Nat) x v, l[i]? = some x → vs[i]? = some v → RepD Pr w x v) → RepLL Pr w l vs
  | [], [], _, _ => .nil
  | x :: l, v :: vs, h, hh => .cons (hh 0 x v rfl rfl) (RepLL.of (by simpa using h) (fun i y u h1 h2 => hh (i + 1) y u h1 h2))
  | [], _ :: _, h, _ => by simp at h
  | _ :: _, [], h, _ => by simp at h
section
variable {P : Program} {ρ : Operand → V} {H : List HE} {ty : TypeId}
theorem op_eqlSt {α : Type} [DecidableEq α] {f : α → D} {x y : Operand} {t u : TypeId} {a b : α} (hE : EqS P t f) (hx : As (ρ x) (f a)) (hy : As (ρ y) (f b)) : OpV P (.binOp .eql t x y u) ty ρ H (.d (.bool (decide (a = b)))) H :=
  OpV.of_val fun g w r hw h => by
    obtain ⟨xs, ys, e1, e2, e3⟩ := hE.2 _ _ _ _ _ _ (hx.rep (h x (by simp [Op.operands]))) (hy.rep (h y (by simp [Op.operands])))
    refine ⟨.bool (decide (a = b)), fun pos after guard dst => ?_, .d (.bool _)⟩
    simp only [execOp, e1, e2, Sem.run_bind, run_eqGuard_agg _ _ _ _ _ _ _ hE.1, run_eql_struct, e3, Result.andThen_ok, Sem.run_pure]
theorem op_neqSt {α : Type} [DecidableEq α] {f : α → D} {x y : Operand} {t u : TypeId} {a b : α} (hE : EqS P t f) (hx : As (ρ x) (f a)) (hy : As (ρ y) (f b)) : OpV P (.binOp .neq t x y u) ty ρ H (.d (.bool (!decide (a = b)))) H :=
  OpV.of_val fun g w r hw h => by
    obtain ⟨xs, ys, e1, e2, e3⟩ := hE.2 _ _ _ _ _ _ (hx.rep (h x (by simp [Op.operands]))) (hy.rep (h y (by simp [Op.operands])))
    refine ⟨.bool (!decide (a = b)), fun pos after guard dst => ?_, .d (.bool _)⟩
    simp only [execOp, e1, e2, Sem.run_bind, run_eqGuard_agg _ _ _ _ _ _ _ hE.1, run_neq_struct, e3, Result.andThen_ok, Sem.run_pure]
end
theorem OpRuns.mono {P : Program} {o : Oper} {r : Operand → Value} {w : World} {K K' : Value → World → Prop} (h : OpRuns P o r w K) (hk : ∀ v w', K v w' → K' v w') : OpRuns P o r w K' := by
  unfold OpRuns at *
  generalize (execOp r o).run P w = q at *
  cases q with
  | ok n w' =>
    cases n with
    | value v => exact hk _ _ h
    | skip => exact hk _ _ h
    | enter f args => exact Calls.mono h (fun e w'' ⟨v, h1, h2⟩ => ⟨v, h1, hk _ _ h2⟩)
    | _ => exact h
  | halt _ _ => exact h
section
variable {P : Program} {ρ : Operand → V} {H : List HE} {ty : TypeId}
theorem ix_inv {α : Type} {l : List α} {k : Int} {v : α} (h : ix l k = some v) : 0 ≤ k ∧ l[k.toNat]? = some v ∧ k.toNat < l.length := by
  unfold ix at h
  split at h
  · rename_i h0
    exact ⟨h0, h, (List.getElem?_eq_some_iff.1 h).1⟩
  · cases h
theorem OpV.asD {o : Op} {y : V} {x : D} {H' : List HE} (h : OpV P o ty ρ H y H') (hx : y.asD = some x) : OpV P o ty ρ H (.d x) H' := fun g w r pos after guard dst hw hr =>
  OpRuns.mono (h g w r pos after guard dst hw hr) (fun _ _ ⟨g', h1, h2, h3⟩ => ⟨g', h1, h2, .d (h3.asD hx)⟩)
end
end Go.Proofs.Ytkfffaoopcnaoaa.Ab
