/- Lists that may have room behind their last element: capacity, a piece into the spare room, copies within a list, zeros that are appended to a piece without room. Conditions: none. -/
import Derived.Test.YtjinohfopjlgkaaAb24
import Derived.Lib.Overlaps
import Derived.Lib.AppendZerosOnto
namespace Go.Proofs.Ytjinohfopjlgkaa.Ab
open Go

/-- As OpV, where the value and the heap behind it may depend on the run, and with what is known since the function was entered. -/
def OpVX (F : FC) {α : Type} (o : Op) (ty : TypeId) (ρ : Operand → V) (H : List HE) (v : α → V) (H' : α → List HE) : Prop :=
  ∀ g w r pos after guard dst, WOK g w H → Evo F.g0 F.w0 g w → (∀ x, x ∈ o.operands → Rep g w (ρ x) (r x)) →
    OpRuns F.P ⟨dst, o, ty, pos, after, guard⟩ r w fun rv w' => ∃ u g', WOK g' w' (H' u) ∧ Evo g w g' w' ∧ Rep g' w' (v u) rv
theorem AL.sX {F : FC} {K : St → Prop} {ops : Array Oper} {dst : Option Nat} {o : Op} {ty : TypeId} {pos : String} {after : Array Edge} {rest : List Oper} {α : Type} {v : α → V} {E : Nat → V} {H : List HE} {H' : α → List HE}
    (hd : dlt dst F.n = true) (h : OpVX F o ty (Ab.ρ E) H v H') (k : ∀ u, AL F ops K rest ⟨updO E dst (v u), H' u⟩) : AL F ops K (⟨dst, o, ty, pos, after, none⟩ :: rest) ⟨E, H⟩ := by
  have hd := dlt_lt hd
  rintro a w ⟨h1, h2, g, h3, h4, h5⟩
  simp only [wpL, Region.wanted, if_true]
  refine OpRuns.wp (h g w a.eval pos after none dst h3 h4 (fun x _ => Rep.eval h5 x)) ?_
  rintro rv w' ⟨u, g', hw', he, hr⟩
  exact k u _ _ (Sim.put h1 h2 h4 h5 hd hw' he hr)

section
variable {F : FC} {ρ : Operand → V} {H : List HE} {ty : TypeId}
theorem capOf {g : G} {w : World} {id c s : Nat} {a : Option Addr} {l : List D} {e : TypeId} (hg : F.g0.τ id = some (0, a, c)) (he : Evo F.g0 F.w0 g w) (hw : WOK g w H) (hH : H[id]? = some (.lst l e s)) : g.τ id = some (0, a, c) := by
  obtain ⟨m', a', c', h1, h2⟩ := he.τ id 0 a c hg
  obtain ⟨ad, cap, k1, _, _, k4⟩ := hw.lst id l e s hH
  clear k4
  rw [h1] at k1; injection k1 with k1; injection k1 with k0 k1
  rcases h2 with h2 | ⟨h2, h3, h4⟩
  · omega
  · rw [h1, h2, h3, h4]

theorem op_cap {x : Operand} {t e id len s c bytes : Nat} {a : Option Addr} {l : List D} (hg : F.g0.τ id = some (0, a, c)) (hx : Is (ρ x) (.hs id 0 len s)) (hH : H[id]? = some (.lst l e s)) (ht : SlT F.P t e s bytes) :
    OpVX F (α := Unit) (.call ⟨.builtin .cap, #[x], #[t]⟩) ty ρ H (fun _ => .d (.int .i64 (c : Int))) (fun _ => H) := by
  intro g w r pos after guard dst hw he h
  have hτ := capOf hg he hw hH
  have h1 := hx.rep (h x (by simp [Op.operands, Call.operands]))
  generalize hrx : r x = vx at h1
  cases h1 with
  | @hs _ _ _ _ m cap' n0 c0 a' a0 p1 p2 =>
    rw [hτ] at p1; injection p1 with p1; injection p1 with p1 p3; injection p3 with p3 p4
    obtain ⟨_, _, q3, _⟩ := hs0 (p2 p1.symm)
    subst p4; subst q3
    unfold OpRuns
    simp [execOp, resolve, invoke, builtin, Builtin.cap_, run_underlying ht.u, hrx, goInt]
    exact ⟨g, hw, .refl _ _, .d (.int _ _)⟩

end

section
variable {P : Program} {ρ : Operand → V} {H : List HE} {ty : TypeId}
end

theorem cong2 {α β γ : Type} (f : α → β → γ) {a a' : α} {b b' : β} (h : a = a') (h' : b = b') : f a b = f a' b' := by rw [h, h']
theorem app1 {α : Type} {b : Nat} {l : List α} {x : α} (h : (l.length + 1) * b ≤ 140737488355328) (hb : l.length + 1 ≤ 4611686018427387904) : app b l [x] = some (l ++ [x]) := by
  unfold app; rw [if_pos ⟨h, hb⟩]
/-- slices.Insert of one element. -/
def insL {α : Type} (b : Nat) (l : List α) (i : Int) (v : List α) : Option (List α) :=
  match v with
  | [x] => if 0 ≤ i ∧ i ≤ l.length ∧ (l.length + 1) * b ≤ 140737488355328 ∧ l.length + 1 ≤ 4611686018427387904 then some (l.take i.toNat ++ x :: l.drop i.toNat) else none
  | _ => none
theorem insL_inv {α : Type} {b : Nat} {l v r : List α} {i : Int} (h : insL b l i v = some r) : ∃ (k : Nat) (x : α), i = (k : Int) ∧ v = [x] ∧ k ≤ l.length ∧ (l.length + 1) * b ≤ 140737488355328 ∧ l.length + 1 ≤ 4611686018427387904 ∧ r = l.take k ++ x :: l.drop k := by
  unfold insL at h
  split at h
  · split at h
    · rename_i x hc
      injection h with h
      exact ⟨i.toNat, x, by omega, rfl, by omega, hc.2.2.1, hc.2.2.2, h.symm⟩
    · cases h
  · cases h
theorem slc_tail {α : Type} {l : List α} {i : Nat} {hi : Int} (h : i ≤ l.length) (hh : hi = (l.length : Int)) : slc l (i : Int) hi = some (l.drop i) := by
  subst hh
  unfold slc
  rw [if_pos ⟨by omega, by omega, by omega⟩]
  simp
theorem slc_head {α : Type} {l : List α} {i : Nat} (h : i ≤ l.length) : slc l (0 : Int) (i : Int) = some (l.take i) := by
  unfold slc
  rw [if_pos ⟨by omega, by omega, by omega⟩]
  simp
theorem cpy_grow0 {α : Type} (A B : List α) (x z : α) : cpyL (cpyL (A ++ List.replicate (B.length + 1) z) A.length (B.length + 1) [x]) (A.length + 1) B.length B = A ++ x :: B := by
  have e1 : cpyL (A ++ List.replicate (B.length + 1) z) A.length (B.length + 1) [x] = A ++ x :: List.replicate B.length z := by
    unfold cpyL
    simp [List.take_append, List.drop_append]
  rw [e1]
  unfold cpyL
  have q1 : List.take (A.length + 1) A = A := List.take_of_length_le (by omega)
  have q2 : List.drop (A.length + 1 + B.length) A = [] := List.drop_of_length_le (by omega)
  have q3 : A.length + 1 + B.length - A.length = B.length + 1 := by omega
  simp [List.take_append, List.drop_append, q1, q2, q3]
theorem cpy_grow {α : Type} {l : List α} {i : Nat} {x z : α} (h : i ≤ l.length) : cpyL (cpyL (l.take i ++ List.replicate (l.length + 1 - i) z) i (l.length + 1 - i) [x]) (i + 1) (l.length - i) (l.drop i) = l.take i ++ x :: l.drop i := by
  have h1 : (l.take i).length = i := by simp; omega
  have h2 : (l.drop i).length = l.length - i := by simp
  have := cpy_grow0 (l.take i) (l.drop i) x z
  rw [h1, h2, show l.length - i + 1 = l.length + 1 - i by omega] at this
  exact this
theorem cpy_room {α : Type} {l : List α} {i : Nat} {x : α} (h : i < l.length) : cpyL (l.take (i + 1) ++ l.drop i) i (l.length + 1 - i) [x] = l.take i ++ x :: l.drop i := by
  obtain ⟨A, y, B, rfl, rfl⟩ : ∃ A y B, l = A ++ y :: B ∧ i = A.length := ⟨l.take i, l[i], l.drop (i + 1), by simp, by simp; omega⟩
  unfold cpyL
  have q1 : List.take (A.length + 1) A = A := List.take_of_length_le (by omega)
  simp [List.take_append, List.drop_append, q1]
  have e1 : A.length + (B.length + 1) + 1 - A.length = B.length + 2 := by omega
  simp [e1]

end Go.Proofs.Ytjinohfopjlgkaa.Ab
