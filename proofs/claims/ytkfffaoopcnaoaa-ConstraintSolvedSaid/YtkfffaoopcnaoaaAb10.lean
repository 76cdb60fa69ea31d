/- Small lemmas that the printed walks use. Conditions: none. -/
import Derived.Test.YtkfffaoopcnaoaaAb9
import Derived.IntWalk
namespace Go.Proofs.Ytkfffaoopcnaoaa.Ab
open Go

theorem getD_some {α : Type} {l : List α} {k : Nat} {d : α} (h : k < l.length) : l[k]? = some (l.getD k d) := by simp [List.getD, h]
theorem w64 {x : Int} (h1 : -9223372036854775808 ≤ x) (h2 : x ≤ 9223372036854775807) : IntKind.i64.wrap x = x := IntWalk.i64_in x ⟨h1, h2⟩
section
variable {P : Program} {ρ : Operand → V} {H : List HE} {ty : TypeId}
theorem op_lenN {x : Operand} {t e s bytes n : Nat} {l : List D} (hx : As (ρ x) (.sl l)) (hl : l.length = n) (ht : SlT P t e s bytes) : OpV P (.call ⟨.builtin .len, #[x], #[t]⟩) ty ρ H (.d (.int .i64 (n : Int))) H := hl ▸ op_len hx ht
theorem op_loadA {x : Operand} {t n : Nat} {c : List D} (hx : Is (ρ x) (.vp c 0)) (hn : c.length = n) (ht : Ag P t n) : OpV P (.load t x) ty ρ H (.d (.agg c)) H :=
  op_load_vpA hx (by simp [← hn]) hn ht
end

/- A heap that is known less of. -/
inductive LeC : List V → List V → Prop
  | nil : LeC [] []
  | cons {v u : V} {c d : List V} : Le v u → LeC c d → LeC (v :: c) (u :: d)
inductive LeH : List HE → List HE → Prop
  | nil : LeH [] []
  | same {e : HE} {H H' : List HE} : LeH H H' → LeH (e :: H) (e :: H')
  | kill {e : HE} {H H' : List HE} : LeH H H' → LeH (e :: H) (.dead :: H')
  | row {c d : List V} {H H' : List HE} : LeC c d → LeH H H' → LeH (.row c :: H) (.row d :: H')

theorem LeC.get {c d : List V} (h : LeC c d) : c.length = d.length ∧ ∀ (i : Nat) u, d[i]? = some u → ∃ v, c[i]? = some v ∧ Le v u := by
  induction h with
  | nil => simp
  | cons hv _ ih =>
    refine ⟨by simp [ih.1], fun i u hu => ?_⟩
    cases i with
    | zero => simp only [List.getElem?_cons_zero, Option.some.injEq] at hu; subst hu; exact ⟨_, rfl, hv⟩
    | succ i => exact ih.2 i u (by simpa using hu)

theorem LeH.get {H H' : List HE} (h : LeH H H') : H.length = H'.length ∧ ∀ (i : Nat) e, H'[i]? = some e → ∃ e0, H[i]? = some e0 ∧ (e0 = e ∨ (e = .dead ∧ True) ∨ ∃ c d, e0 = .row c ∧ e = .row d ∧ LeC c d) := by
  induction h with
  | nil => simp
  | same _ ih =>
    refine ⟨by simp [ih.1], fun i e he => ?_⟩
    cases i with
    | zero => exact ⟨_, rfl, .inl (by simpa using he)⟩
    | succ i => exact ih.2 i e (by simpa using he)
  | kill _ ih =>
    refine ⟨by simp [ih.1], fun i e he => ?_⟩
    cases i with
    | zero => exact ⟨_, rfl, .inr (.inl ⟨by simpa using he.symm, trivial⟩)⟩
    | succ i => exact ih.2 i e (by simpa using he)
  | row hc _ ih =>
    refine ⟨by simp [ih.1], fun i e he => ?_⟩
    cases i with
    | zero => exact ⟨_, rfl, .inr (.inr ⟨_, _, rfl, by simpa using he.symm, hc⟩)⟩
    | succ i => exact ih.2 i e (by simpa using he)

/- Searching. -/
section
variable {P : Program} {ρ : Operand → V} {H : List HE} {ty : TypeId} {α : Type} {f : α → D} {l : List α}
end

/-- A way that cannot be. -/
theorem EndQ.of {P : Program} {rs : List ResultVar} {R : V → List HE → Prop} {e : Exit} {st : St} (h : False) : EndQ P rs R e st := h.elim

/- Literals of arrays with every place given, in order: what they hold is the parts put together. -/
/- Plain data: one cell each. -/
def D.pl : D → Bool
  | .agg _ | .tup _ | .raw _ => false
  | _ => true
/- The rules of single steps over a state that is written as a pair: so the state's text does not double. -/
section
variable {F : FC} {K : St → Prop} {E : Nat → V} {H : List HE} {ops : Array Oper} {dst : Option Nat} {o : Op} {ty : TypeId} {pos : String} {after : Array Edge} {rest : List Oper} {v : V} {j t : Nat} {b p : Bool} {rd wr : List Nat} {ann : List (List Nat × List Nat)}
theorem AL.s {H' : List HE} (hd : dlt dst F.n = true) (h : OpV F.P o ty (ρ E) H v H') (k : AL F ops K rest ⟨updO E dst v, H'⟩) : AL F ops K (⟨dst, o, ty, pos, after, none⟩ :: rest) ⟨E, H⟩ := AL.step hd h k
theorem AL.sT (hj : (ops[j]?).bind (·.dst) = some t) (htn : Nat.blt t F.n = true) (hb : E t = .d (.bool b)) (hd : dlt dst F.n = true)
    (h : b = true → OpV F.P o ty (ρ E) H v H) (k : AL F ops K rest ⟨updO E dst (.when b v), H⟩) : AL F ops K (⟨dst, o, ty, pos, after, some (j, true)⟩ :: rest) ⟨E, H⟩ := AL.stepT hj htn hb hd h k
theorem AL.sF (hj : (ops[j]?).bind (·.dst) = some t) (htn : Nat.blt t F.n = true) (hb : E t = .d (.bool b)) (hd : dlt dst F.n = true)
    (h : b = false → OpV F.P o ty (ρ E) H v H) (k : AL F ops K rest ⟨updO E dst (.when (!b) v), H⟩) : AL F ops K (⟨dst, o, ty, pos, after, some (j, false)⟩ :: rest) ⟨E, H⟩ := AL.stepF hj htn hb hd h k
theorem AL.sTT (hj : (ops[j]?).bind (·.dst) = some t) (htn : Nat.blt t F.n = true) (hb : E t = .when p (.d (.bool b))) (hd : dlt dst F.n = true)
    (h : p = true → b = true → OpV F.P o ty (ρ E) H v H) (k : AL F ops K rest ⟨updO E dst (.when (p && b) v), H⟩) : AL F ops K (⟨dst, o, ty, pos, after, some (j, true)⟩ :: rest) ⟨E, H⟩ := AL.stepTT hj htn hb hd h k
theorem AL.sFF (hj : (ops[j]?).bind (·.dst) = some t) (htn : Nat.blt t F.n = true) (hb : E t = .when p (.d (.bool b))) (hd : dlt dst F.n = true)
    (h : p = true → b = false → OpV F.P o ty (ρ E) H v H) (k : AL F ops K rest ⟨updO E dst (.when (p && !b) v), H⟩) : AL F ops K (⟨dst, o, ty, pos, after, some (j, false)⟩ :: rest) ⟨E, H⟩ := AL.stepFF hj htn hb hd h k
theorem AL.sE {R : V → Prop} (hd : dlt dst F.n = true) (h : OpVE F.P o ty (ρ E) H R) (k : ∀ v, R v → AL F ops K rest ⟨updO E dst v, H⟩) : AL F ops K (⟨dst, o, ty, pos, after, none⟩ :: rest) ⟨E, H⟩ := AL.stepE hd h k
theorem AD.s {ws : List (Nat × HE)} (hd : dlt dst F.n = true) (hw : wr = ws.map (·.1)) (h : ∀ H', H'.length = H.length → (∀ id, id ∈ rd ++ ws.map (·.1) → H'[id]? = H[id]?) → OpV F.P o ty (ρ E) H' v (setL H' ws))
    (k : AD F ops K rest ann ⟨updO E dst v, setL H ws⟩) : AD F ops K (⟨dst, o, ty, pos, after, none⟩ :: rest) ((rd, wr) :: ann) ⟨E, H⟩ := AD.step hd hw h k
theorem AD.sT (hj : (ops[j]?).bind (·.dst) = some t) (htn : Nat.blt t F.n = true) (hb : E t = .d (.bool b)) (hd : dlt dst F.n = true)
    (h : b = true → ∀ H', H'.length = H.length → (∀ id, id ∈ rd → H'[id]? = H[id]?) → OpV F.P o ty (ρ E) H' v H') (k : AD F ops K rest ann ⟨updO E dst (.when b v), H⟩) :
    AD F ops K (⟨dst, o, ty, pos, after, some (j, true)⟩ :: rest) ((rd, []) :: ann) ⟨E, H⟩ := AD.stepT hj htn hb hd h k
theorem AD.sF (hj : (ops[j]?).bind (·.dst) = some t) (htn : Nat.blt t F.n = true) (hb : E t = .d (.bool b)) (hd : dlt dst F.n = true)
    (h : b = false → ∀ H', H'.length = H.length → (∀ id, id ∈ rd → H'[id]? = H[id]?) → OpV F.P o ty (ρ E) H' v H') (k : AD F ops K rest ann ⟨updO E dst (.when (!b) v), H⟩) :
    AD F ops K (⟨dst, o, ty, pos, after, some (j, false)⟩ :: rest) ((rd, []) :: ann) ⟨E, H⟩ := AD.stepF hj htn hb hd h k
theorem AD.sTT (hj : (ops[j]?).bind (·.dst) = some t) (htn : Nat.blt t F.n = true) (hb : E t = .when p (.d (.bool b))) (hd : dlt dst F.n = true)
    (h : p = true → b = true → ∀ H', H'.length = H.length → (∀ id, id ∈ rd → H'[id]? = H[id]?) → OpV F.P o ty (ρ E) H' v H') (k : AD F ops K rest ann ⟨updO E dst (.when (p && b) v), H⟩) :
    AD F ops K (⟨dst, o, ty, pos, after, some (j, true)⟩ :: rest) ((rd, []) :: ann) ⟨E, H⟩ := AD.stepTT hj htn hb hd h k
theorem AD.sFF (hj : (ops[j]?).bind (·.dst) = some t) (htn : Nat.blt t F.n = true) (hb : E t = .when p (.d (.bool b))) (hd : dlt dst F.n = true)
    (h : p = true → b = false → ∀ H', H'.length = H.length → (∀ id, id ∈ rd → H'[id]? = H[id]?) → OpV F.P o ty (ρ E) H' v H') (k : AD F ops K rest ann ⟨updO E dst (.when (p && !b) v), H⟩) :
    AD F ops K (⟨dst, o, ty, pos, after, some (j, false)⟩ :: rest) ((rd, []) :: ann) ⟨E, H⟩ := AD.stepFF hj htn hb hd h k
end
section
variable {P : Program} {ρ : Operand → V} {H : List HE} {ty : TypeId}
theorem op_storeD {x y : Operand} {t id off : Nat} {c : List V} {z : D} (hx : Is (ρ x) (.ptr id off)) (hy : Is (ρ y) (.d z)) (hH : H[id]? = some (.row c)) (hv : V.cs (.d z) = [.d z]) (h1 : V.one (.d z) = true)
    (hsz : ∃ i, P.info? t = some i ∧ i.size = 1) (hle : off + 1 ≤ c.length) : OpV P (.store t x y) ty ρ H .any (H.set id (.row (splice c off [.d z]))) := op_store hx hy hH hv (by simp [h1]) hsz rfl hle
end
end Go.Proofs.Ytkfffaoopcnaoaa.Ab
