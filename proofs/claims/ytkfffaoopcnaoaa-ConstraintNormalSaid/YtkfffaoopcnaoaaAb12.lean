/- The plain language into which functions are turned, and the rules of operations stated over it. Conditions: none. -/
import Derived.Test.YtkfffaoopcnaoaaAb10
namespace Go.Proofs.Ytkfffaoopcnaoaa.Ab
open Go

/-- A loop: as many rounds as there is fuel for. -/
def iter {σ τ : Type} : Nat → (σ → Option (σ ⊕ τ)) → σ → Option τ
  | 0, _, _ => none
  | n + 1, f, s => (f s).bind fun y => match y with
    | .inl s' => iter n f s'
    | .inr t => some t
def iterK {σ τ : Type} (n : Nat) (f : σ → Option (σ ⊕ τ)) : σ ⊕ τ → Option τ
  | .inl s => iter n f s
  | .inr t => some t
theorem iter0 {σ τ : Type} {f : σ → Option (σ ⊕ τ)} {s : σ} {t : τ} (h : iter 0 f s = some t) : False := by cases h
theorem iterS {σ τ : Type} {n : Nat} {f : σ → Option (σ ⊕ τ)} {s : σ} {t : τ} (h : iter (n + 1) f s = some t) : ∃ y, f s = some y ∧ iterK n f y = some t := by
  rw [iter, Option.bind_eq_some_iff] at h
  obtain ⟨y, h1, h2⟩ := h
  refine ⟨y, h1, ?_⟩
  cases y <;> exact h2
def ix {α : Type} (l : List α) (k : Int) : Option α := if 0 ≤ k then l[k.toNat]? else none
def slc {α : Type} (l : List α) (lo hi : Int) : Option (List α) := if 0 ≤ lo ∧ lo ≤ hi ∧ hi ≤ l.length then some ((l.take hi.toNat).drop lo.toNat) else none
def app {α : Type} (b : Nat) (l l' : List α) : Option (List α) := if (l.length + l'.length) * b ≤ 140737488355328 ∧ l.length + l'.length ≤ 4611686018427387904 then some (l ++ l') else none
theorem bindE {α β : Type} {o : Option α} {f : α → Option β} {r : β} (h : o.bind f = some r) : ∃ x, o = some x ∧ f x = some r := Option.bind_eq_some_iff.1 h
theorem iteT {α : Type} {c : Prop} [Decidable c] {a b x : α} (hc : c) (h : (if c then a else b) = x) : a = x := by rw [if_pos hc] at h; exact h
theorem iteF {α : Type} {c : Bool} {a b x : α} (hc : c = false) (h : (if c = true then a else b) = x) : b = x := by rw [hc] at h; exact h

/-- How data of a type is held: its cells. -/
structure En {α : Type} (f : α → D) (s : Nat) : Prop where
  sz : ∀ x, (f x).cells.length = s
  one : ∀ x, ∀ y ∈ (f x).cells, y.one = true
theorem En.szL {α : Type} {f : α → D} {s : Nat} (h : En f s) (l : List α) : ∀ x ∈ l.map f, x.cells.length = s := by
  intro x hx; obtain ⟨y, _, rfl⟩ := List.mem_map.1 hx; exact h.sz y
theorem En.oneL {α : Type} {f : α → D} {s : Nat} (h : En f s) (l : List α) : ∀ x ∈ l.map f, ∀ y ∈ x.cells, y.one = true := by
  intro x hx; obtain ⟨y, _, rfl⟩ := List.mem_map.1 hx; exact h.one y

section
variable {P : Program} {ρ : Operand → V} {H : List HE} {ty : TypeId}
variable {x y : Operand} {t u : TypeId} {k : IntKind} {a b c : Int}
theorem ix_nat {α : Type} {l : List α} {v : α} (hv : ix l a = some v) : ∃ i : Nat, a = (i : Int) ∧ l[i]? = some v := by
  unfold ix at hv
  split at hv
  · exact ⟨a.toNat, by omega, hv⟩
  · cases hv
theorem op_indexAddrM {α : Type} {f : α → D} {l : List α} {v : α} {e s bytes : Nat} (hx : As (ρ x) (.sl (l.map f))) (hy : As (ρ y) (.int k a)) (hv : ix l a = some v) (hf : En f s)
    (ht : SlT P t e s bytes) : OpV P (.indexAddr t x y) ty ρ H (.vp (f v).cells 0) H := by
  obtain ⟨i, hi, hv⟩ := ix_nat hv
  exact op_indexAddr hx hy hi (by simp [hv]) ht (hf.sz v)
theorem op_lenM {α : Type} {f : α → D} {l : List α} {e s bytes : Nat} (hx : As (ρ x) (.sl (l.map f))) (ht : SlT P t e s bytes) : OpV P (.call ⟨.builtin .len, #[x], #[t]⟩) ty ρ H (.d (.int .i64 (l.length : Int))) H :=
  op_lenN hx (by simp) ht
theorem op_appendM {α : Type} {f : α → D} {l l' r : List α} {e s bytes id n : Nat} (ht : SlT P t e s bytes) (hx : Is (ρ x) (.tk id (l.map f))) (hy : As (ρ y) (.sl (l'.map f))) (hH : H[id]? = some (.tok n e s))
    (hn : n = l.length) (hf : En f s) (hv : app bytes l l' = some r) : OpV P (.call ⟨.builtin .append, #[x, y], #[t, t]⟩) ty ρ H (.tk id (r.map f)) (H.set id (.tok r.length e s)) := by
  unfold app at hv
  split at hv
  · rename_i h
    injection hv with hv; subst hv
    have := op_append (ty := ty) ht hx hy (by rw [hH, hn, List.length_map]) (by rw [← List.map_append]; exact hf.szL _) (by rw [← List.map_append]; exact hf.oneL _) (by simp only [List.length_append, List.length_map]; exact h.1) (by simp only [List.length_append, List.length_map]; exact h.2)
    rw [← List.map_append, List.length_map] at this
    exact this
  · cases hv
theorem op_appendEM {α : Type} {f : α → D} {l l' r : List α} {e s bytes n : Nat} (ht : SlT P t e s bytes) (hx : Is (ρ x) (.ex (l.map f))) (hy : As (ρ y) (.sl (l'.map f))) (hn : H.length = n)
    (hf : En f s) (hv : app bytes l l' = some r) : OpV P (.call ⟨.builtin .append, #[x, y], #[t, t]⟩) ty ρ H (.tk n (r.map f)) (H ++ [.tok r.length e s]) := by
  unfold app at hv
  split at hv
  · rename_i h
    injection hv with hv; subst hv
    have := op_appendE (ty := ty) ht hx hy hn (by rw [← List.map_append]; exact hf.szL _) (by rw [← List.map_append]; exact hf.oneL _) (by simp only [List.length_append, List.length_map]; exact h.1) (by simp only [List.length_append, List.length_map]; exact h.2)
    rw [← List.map_append, List.length_map] at this
    exact this
  · cases hv
def loM (ρ : Operand → V) : Option Operand → Int → Prop
  | none, lo => lo = 0
  | some x, lo => As (ρ x) (.int .i64 lo)
def hiM (ρ : Operand → V) (len : Nat) : Option Operand → Int → Prop
  | none, hi => hi = (len : Int)
  | some x, hi => As (ρ x) (.int .i64 hi)
end

theorem En.int {k : IntKind} : En (D.int k) 1 := ⟨fun _ => rfl, fun x y hy => by simp only [D.cells, List.mem_singleton] at hy; subst hy; rfl⟩
theorem En.i : En D.i 1 := En.int
theorem En.str : En D.str 1 := ⟨fun _ => rfl, fun x y hy => by simp only [D.cells, List.mem_singleton] at hy; subst hy; rfl⟩
theorem En.bool : En D.bool 1 := ⟨fun _ => rfl, fun x y hy => by simp only [D.cells, List.mem_singleton] at hy; subst hy; rfl⟩
theorem En.sl {α : Type} {f : α → D} : En (fun l : List α => D.sl (l.map f)) 1 := ⟨fun _ => rfl, fun x y hy => by simp only [D.cells, List.mem_singleton] at hy; subst hy; rfl⟩

end Go.Proofs.Ytkfffaoopcnaoaa.Ab
