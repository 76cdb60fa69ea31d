/- Lists of lists whose rows are written: one entry of the heap for all of them. Conditions: none. -/
import Derived.Test.YtkdefjliknpliaaGreatDoorAb29
namespace Go.Proofs.YtkdefjliknpliaaGreatDoor.Ab
open Go

/-- A row: data, or memory of its own. -/
def RowAt (g : G) (w : World) (id b : Nat) (e : TypeId) : Bool → List D → Value → Prop
  | false, l, v => RepD g.Pr w (.sl l) v
  | true, l, v => ∃ a cap, v = .slice a l.length cap ∧ l.length ≤ cap ∧ (l ≠ [] → ∃ br arr, a = some ⟨br, 0, none⟩ ∧ g.υ id br ∧ br ≠ b ∧ w.heap[br]? = some (.cells arr e (0, 0)) ∧ l.length ≤ arr.size ∧
      ∀ (k : Nat) x u, l[k]? = some x → arr[k]? = some u → RepD g.Pr w x u)
def rowB : Value → Option Nat
  | .slice (some a) _ _ => some a.block
  | _ => none
structure NlAt (g : G) (w : World) (id b : Nat) (e eo : TypeId) (N : Nat) (M : List (Bool × List D)) (Vs : List Value) : Prop where
  len : Vs.length = M.length
  n : M.length = N
  own : ∃ cap arr, g.τ id = some (0, some ⟨b, 0, none⟩, cap) ∧ N ≤ cap ∧ 0 < cap ∧ w.heap[b]? = some (.cells arr eo (0, 0)) ∧ N ≤ arr.size ∧ ∀ (k : Nat) v, Vs[k]? = some v → arr[k]? = some v
  row : ∀ (k : Nat) m v, M[k]? = some m → Vs[k]? = some v → RowAt g w id b e m.1 m.2 v
  dis : ∀ (k k' : Nat) l l' v v' B, k ≠ k' → M[k]? = some (true, l) → M[k']? = some (true, l') → l ≠ [] → l' ≠ [] → Vs[k]? = some v → Vs[k']? = some v' → rowB v = some B → rowB v' = some B → False

theorem RowAt.mono {g g' : G} {w w' : World} {id id' b : Nat} {e : TypeId} {f : Bool} {l : List D} {v : Value} (hP : ∀ b o, g.Pr b o → g'.Pr b o ∧ w'.cell? ⟨b, o, none⟩ = w.cell? ⟨b, o, none⟩)
    (hu : ∀ b', g.υ id b' → g'.υ id' b') (ho : ∀ b', g.υ id b' → b' ≠ b → w'.heap[b']? = w.heap[b']?) (h : RowAt g w id b e f l v) : RowAt g' w' id' b e f l v := by
  cases f with
  | false => exact RepD.mono hP h
  | true =>
    obtain ⟨a, cap, h1, h2, h3⟩ := h
    refine ⟨a, cap, h1, h2, fun hl => ?_⟩
    obtain ⟨br, arr, k1, k2, k3, k4, k5, k6⟩ := h3 hl
    exact ⟨br, arr, k1, hu _ k2, k3, (ho _ k2 k3).trans k4, k5, fun k x u hx hu' => (k6 k x u hx hu').mono hP⟩
theorem NlAt.st {g g' : G} {w w' : World} {id b : Nat} {e eo : TypeId} {N : Nat} {M : List (Bool × List D)} {Vs : List Value} (he : EvoW g w g' w') (ht : g'.τ id = g.τ id) (hu : g'.υ id = g.υ id) (hb : w'.heap[b]? = w.heap[b]?)
    (ho : ∀ b', g.υ id b' → w'.heap[b']? = w.heap[b']?) (h : NlAt g w id b e eo N M Vs) : NlAt g' w' id b e eo N M Vs where
  len := h.len
  n := h.n
  own := by
    obtain ⟨cap, arr, h1, h2, h3, h4, h5, h6⟩ := h.own
    exact ⟨cap, arr, ht ▸ h1, h2, h3, hb.trans h4, h5, h6⟩
  row := fun k m v hm hv => (h.row k m v hm hv).mono he.pr (fun b' hb' => by rw [hu]; exact hb') (fun b' hb' _ => ho b' hb')
  dis := h.dis
/-- Such a list, the values of its rows known; and not known. -/
def nlV (e eo : TypeId) (N : Nat) (M : List (Bool × List D)) (Vs : List Value) : OB where
  φ := fun g w id b => NlAt g w id b e eo N M Vs
  st := fun he ht hu hb ho h => h.st he ht hu hb ho
  fr := false
  fre := fun h => by cases h
def nlO (e eo : TypeId) (N : Nat) (M : List (Bool × List D)) : OB where
  φ := fun g w id b => ∃ Vs, NlAt g w id b e eo N M Vs
  st := fun he ht hu hb ho ⟨Vs, h⟩ => ⟨Vs, h.st he ht hu hb ho⟩
  fr := false
  fre := fun h => by cases h
section
variable {F : FC} {K : St → Prop} {ops : Array Oper} {os : List Oper} {E : Nat → V} {H : List HE} {e eo : TypeId} {N : Nat} {M : List (Bool × List D)}
end

/-! ### operations, the lists as plain Lean -/
def nlD {α : Type} (f : α → D) (M : List (Bool × List α)) : List (Bool × List D) := M.map fun r => (r.1, r.2.map f)
section
variable {P : Program} {ρ : Operand → V} {H : List HE} {ty : TypeId} {α : Type} {f : α → D} {e eo : TypeId} {N : Nat} {M : List (Bool × List α)} {Vs : List Value}
theorem set_cases {H : List HE} {id : Nat} {x : HE} (h : id < H.length) {i : Nat} {e : HE} (he : (H.set id x)[i]? = some e) : (i = id ∧ e = x) ∨ (i ≠ id ∧ H[i]? = some e) := by
  by_cases hi : i = id
  · subst hi; rw [List.getElem?_set_self h] at he; exact .inl ⟨rfl, (Option.some.inj he).symm⟩
  · rw [List.getElem?_set_ne (Ne.symm hi)] at he; exact .inr ⟨hi, he⟩

theorem setE_rep2 {g g' : G} {w : World} {E : Nat → V} {v u : V} {i : Nat} {r : Value} (hr : Rep g w (E i) r) (he : Evo g w g' w) (huv : ∀ r, Rep g w u r → Rep g' w v r) : ∀ {ts : List Nat}, SameE E u ts → Rep g' w (setE E ts v i) r
  | [], _ => hr.mono he
  | t :: ts, h => by
    simp only [setE]
    by_cases hi : i = t
    · subst hi
      rw [upd_same]
      rw [h.1] at hr
      exact huv _ hr
    · rw [upd_ne _ _ hi]; exact setE_rep2 hr he huv h.2
end

section
variable {F : FC} {Q : Exit → St → Prop} {c y : Code} {st : St} {ops : Array Oper}
theorem AW.ghost {Q1 : Exit → St → Prop} (h : AW F c Q1 st) (hq : ∀ e s, Q1 e s → ∀ a w, Sim F s a w → ∃ s', Sim F s' a w ∧ Q e s') : AW F c Q st := by
  intro a w hs b k cs
  obtain ⟨e, a', w', ⟨st', k1, k2⟩, k3⟩ := h a w hs b k cs
  obtain ⟨s', k4, k5⟩ := hq e st' k2 a' w' k1
  exact ⟨e, a', w', ⟨s', k4, k5⟩, k3⟩
end
section
variable {P : Program} {ρ : Operand → V} {H : List HE} {ty : TypeId} {α : Type} {f : α → D} {e eo : TypeId} {N : Nat} {M : List (Bool × List α)} {Vs : List Value}
end
end Go.Proofs.YtkdefjliknpliaaGreatDoor.Ab
