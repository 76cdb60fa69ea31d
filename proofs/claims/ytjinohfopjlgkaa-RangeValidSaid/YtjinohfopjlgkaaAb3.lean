/- What each operation comes to over abstract states, proved against the model, one lemma an operation. Conditions: none. -/
import Derived.Test.YtjinohfopjlgkaaAb2
import Derived.Laws.Cells
import Derived.Laws.Tables
import Derived.Laws.AppendOwn
import Derived.Laws.IdiomCopy
import Derived.ChangeKeysEq
namespace Go.Proofs.Ytjinohfopjlgkaa.Ab
open Go

def notAgg : TypeDesc → Bool
  | .struct _ | .array _ _ => false
  | _ => true

/-- Facts on types. -/
structure Sc (P : Program) (t : TypeId) : Prop where
  u : ∃ d, P.underlying t = some d ∧ notAgg d = true
  i : ∃ i, P.info? t = some i ∧ i.size = 1
structure Ag (P : Program) (t : TypeId) (n : Nat) : Prop where
  u : ∃ d, P.underlying t = some d ∧ notAgg d = false
  i : ∃ i, P.info? t = some i ∧ i.size = n
structure SlT (P : Program) (t e : TypeId) (s bytes : Nat) : Prop where
  u : P.underlying t = some (.slice e)
  i : ∃ i z, P.info? e = some i ∧ i.size = s ∧ i.bytes = bytes ∧ i.zero = some z ∧ z.cells.size = s
structure Fd (P : Program) (t k off : Nat) : Prop where
  u : ∃ fs f, P.underlying t = some (.struct fs) ∧ fs[k]? = some f ∧ f.offset = off ∧ ∃ i, P.info? f.type = some i ∧ i.size ≠ 0
structure Zr (P : Program) (t : TypeId) (cs : List Value) : Prop where
  z : ∃ i z, P.info? t = some i ∧ i.zero = some z ∧ z.cells.toList = cs ∧ i.size = cs.length

section
variable {P : Program} {ρ : Operand → V} {H : List HE} {ty : TypeId}

theorem run_sizeOf' {t : TypeId} {i : TypeInfo} (h : P.info? t = some i) (w : World) : (sizeOf t).run P w = .ok i.size w := by simp [sizeOf, typeInfo, h]
theorem run_zeroValue' {t : TypeId} {i : TypeInfo} {z : Value} (h : P.info? t = some i) (hz : i.zero = some z) (w : World) : (zeroValue t).run P w = .ok z w := by simp [zeroValue, typeInfo, h, hz]
theorem run_isAgg' {t : TypeId} {d : TypeDesc} (h : P.underlying t = some d) (w : World) : (isAgg t).run P w = .ok (!notAgg d) w := by
  simp only [isAgg, Sem.run_bind, run_underlying h, Result.andThen_ok]
  cases d <;> simp [notAgg]

theorem Addr.add_none (b o k : Nat) : (⟨b, o, none⟩ : Addr).add k = ⟨b, o + k, none⟩ := by
  unfold Addr.add; split <;> simp_all

theorem run_loadVar_one {t : TypeId} (h : Sc P t) {w : World} {b o : Nat} {v : Value} (hc : w.cell? ⟨b, o, none⟩ = some v) : (loadVar t ⟨b, o, none⟩).run P w = .ok v w := by
  obtain ⟨d, hu, hd⟩ := h.u
  simp [loadVar, run_isAgg' hu, hd, hc]

theorem run_loadVar_agg {t n : Nat} (h : Ag P t n) {w : World} {b o : Nat} {f : Nat → Value} (hc : ∀ k, k < n → w.cell? ⟨b, o + k, none⟩ = some (f k)) :
    (loadVar t ⟨b, o, none⟩).run P w = .ok (.agg ((List.range n).map f).toArray) w := by
  obtain ⟨d, hu, hd⟩ := h.u
  obtain ⟨i, hi, hs⟩ := h.i
  have := run_loadCells (P := P) w ⟨b, o, none⟩ n f (fun j hj => by rw [Addr.add_none]; exact hc j hj)
  simp [loadVar, run_isAgg' hu, hd, run_sizeOf' hi, hs, this]

/-- How an operand is read as data. -/
def V.asD1 : V → Option D
  | .d x => some x
  | .ex l => some (.sl l)
  | .tk _ l => some (.sl l)
  | .nil => some (.sl [])
  | _ => none

def optAll {α : Type} : List (Option α) → Option (List α)
  | [] => some []
  | some x :: r => (optAll r).map (x :: ·)
  | none :: _ => none

def V.asD2 : V → Option D
  | .agg cs => (optAll (cs.map V.asD1)).map .agg
  | v => v.asD1

def V.asD : V → Option D
  | .tup vs => (optAll (vs.map V.asD2)).map .tup
  | v => v.asD2

theorem optAll_get {α : Type} : ∀ {l : List (Option α)} {r : List α}, optAll l = some r → l.length = r.length ∧ ∀ (i : Nat) x, r[i]? = some x → l[i]? = some (some x)
  | [], r, h => by simp only [optAll, Option.some.injEq] at h; subst h; simp
  | none :: _, r, h => by simp [optAll] at h
  | some y :: t, r, h => by
    simp only [optAll, Option.map_eq_some_iff] at h
    obtain ⟨r', h1, rfl⟩ := h
    obtain ⟨h2, h3⟩ := optAll_get h1
    refine ⟨by simp [h2], fun i x hx => ?_⟩
    cases i with
    | zero => simpa using hx
    | succ i => simpa using h3 i x (by simpa using hx)

theorem Rep.asD1 {g : G} {w : World} {v : V} {r : Value} {x : D} (h : Rep g w v r) (hx : v.asD1 = some x) : RepD g.Pr w x r := by
  cases h with
  | nil =>
    simp only [V.asD1, Option.some.injEq] at hx
    subst hx
    exact .sl [] none 0 0 (fun _ => undef) (by simp) (by simp) (by simp) (by simp [D.flat])
  | _ => simp only [V.asD1, Option.some.injEq, reduceCtorEq] at hx <;> subst hx <;> assumption

theorem Rep.asD2 {g : G} {w : World} {v : V} {r : Value} {x : D} (h : Rep g w v r) (hx : v.asD2 = some x) : RepD g.Pr w x r := by
  cases v with
  | agg cs =>
    simp only [V.asD2, Option.map_eq_some_iff] at hx
    obtain ⟨l, h1, rfl⟩ := hx
    obtain ⟨h2, h3⟩ := optAll_get h1
    cases h with
    | agg hs hr =>
      refine .agg l _ (by simp at h2; omega) (fun i x v hx hv => ?_)
      have := h3 i x hx
      simp only [List.getElem?_map, Option.map_eq_some_iff] at this
      obtain ⟨y, hy, hyx⟩ := this
      exact (hr i y v hy hv).asD1 hyx
  | _ => exact Rep.asD1 h hx

theorem Rep.asD {g : G} {w : World} {v : V} {r : Value} {x : D} (h : Rep g w v r) (hx : v.asD = some x) : RepD g.Pr w x r := by
  cases v with
  | tup cs =>
    simp only [V.asD, Option.map_eq_some_iff] at hx
    obtain ⟨l, h1, rfl⟩ := hx
    obtain ⟨h2, h3⟩ := optAll_get h1
    cases h with
    | tup hs hr =>
      refine .tup l _ (by simp at h2; omega) (fun i x v hx hv => ?_)
      have := h3 i x hx
      simp only [List.getElem?_map, Option.map_eq_some_iff] at this
      obtain ⟨y, hy, hyx⟩ := this
      exact (hr i y v hy hv).asD2 hyx
  | _ => exact Rep.asD2 h hx

/-- An operand is this value, or is it where its guard has let it be. -/
inductive Is : V → V → Prop
  | r {v : V} : Is v v
  | w {p : Bool} {v : V} : p = true → Is (.when p v) v
  | n {p : Bool} {v : V} : p = false → Is (.when (!p) v) v
inductive As : V → D → Prop
  | r {v : V} {x : D} : v.asD = some x → As v x
  | w {p : Bool} {v : V} {x : D} : p = true → v.asD = some x → As (.when p v) x
  | n {p : Bool} {v : V} {x : D} : p = false → v.asD = some x → As (.when (!p) v) x

theorem Is.e {v u : V} (h : v = u) : Is v u := h ▸ .r
theorem Is.we {v u : V} {p : Bool} (hp : p = true) (h : v = .when p u) : Is v u := h ▸ .w hp
theorem As.we {v u : V} {p : Bool} {x : D} (hp : p = true) (h : v = .when p u) (hx : u.asD = some x) : As v x := h ▸ .w hp hx
theorem nt {b : Bool} (h : b = false) : (!b) = true := by rw [h]; rfl
theorem an {p b : Bool} (h1 : p = true) (h2 : b = true) : (p && b) = true := by rw [h1, h2]; rfl

theorem Is.rep {g : G} {w : World} {v u : V} {r : Value} (h : Is v u) (hr : Rep g w v r) : Rep g w u r := by
  cases h with
  | r => exact hr
  | w hp => cases hr with | «when» h1 h2 => exact h1 hp
  | n hp => cases hr with | «when» h1 h2 => exact h1 (by simp [hp])

theorem As.rep {g : G} {w : World} {v : V} {x : D} {r : Value} (h : As v x) (hr : Rep g w v r) : RepD g.Pr w x r := by
  cases h with
  | r h => exact hr.asD h
  | w hp h => cases hr with | «when» h1 h2 => exact (h1 hp).asD h
  | n hp h => cases hr with | «when» h1 h2 => exact (h1 (by simp [hp])).asD h

theorem OpV.of_val {o : Op} {v : V} (h : ∀ g w r, WOK g w H → (∀ x, x ∈ o.operands → Rep g w (ρ x) (r x)) →
    ∃ rv, (∀ pos after guard dst, (execOp r ⟨dst, o, ty, pos, after, guard⟩).run P w = .ok (.value rv) w) ∧ Rep g w v rv) : OpV P o ty ρ H v H := by
  intro g w r pos after guard dst hw hx
  obtain ⟨rv, h1, h2⟩ := h g w r hw hx
  unfold OpRuns
  rw [h1]
  exact ⟨g, hw, .refl _ _, h2⟩

/- The plain ones. -/
theorem op_move {x : Operand} {v : V} (h : Is (ρ x) v) : OpV P (.move x) ty ρ H v H :=
  OpV.of_val fun g w r hw hx => ⟨r x, fun _ _ _ _ => rfl, h.rep (hx x (by simp [Op.operands]))⟩
theorem op_assign {x : Operand} {v : V} (h : Is (ρ x) v) : OpV P (.assign x) ty ρ H v H :=
  OpV.of_val fun g w r hw hx => ⟨r x, fun _ _ _ _ => rfl, h.rep (hx x (by simp [Op.operands]))⟩
theorem op_moveD {x : Operand} {y : D} (h : Is (ρ x) (.d y)) : OpV P (.move x) ty ρ H (.d y) H := op_move h
theorem op_assignD {x : Operand} {y : D} (h : Is (ρ x) (.d y)) : OpV P (.assign x) ty ρ H (.d y) H := op_assign h
theorem op_moveE {x : Operand} {l : List D} (h : Is (ρ x) (.ex l)) : OpV P (.move x) ty ρ H (.ex l) H := op_move h
theorem op_assignE {x : Operand} {l : List D} (h : Is (ρ x) (.ex l)) : OpV P (.assign x) ty ρ H (.ex l) H := op_assign h
theorem op_moveT {x : Operand} {id : Nat} {l : List D} (h : Is (ρ x) (.tk id l)) : OpV P (.move x) ty ρ H (.tk id l) H := op_move h
theorem op_assignT {x : Operand} {id : Nat} {l : List D} (h : Is (ρ x) (.tk id l)) : OpV P (.assign x) ty ρ H (.tk id l) H := op_assign h
theorem op_moveF {x : Operand} {f : Go.Fn} {caps : List V} (h : Is (ρ x) (.fn f caps)) : OpV P (.move x) ty ρ H (.fn f caps) H := op_move h
theorem op_moveU {x : Operand} {l : List V} (h : Is (ρ x) (.tup l)) : OpV P (.move x) ty ρ H (.tup l) H := op_move h
theorem op_moveH {x : Operand} {id off len s : Nat} (h : Is (ρ x) (.hs id off len s)) : OpV P (.move x) ty ρ H (.hs id off len s) H := op_move h
theorem op_assignH {x : Operand} {id off len s : Nat} (h : Is (ρ x) (.hs id off len s)) : OpV P (.assign x) ty ρ H (.hs id off len s) H := op_assign h
theorem Rep.nilEx {g : G} {w : World} {r : Value} (h : Rep g w .nil r) : Rep g w (.ex []) r := by
  cases h; exact .ex (.sl [] none 0 0 (fun _ => undef) (by simp) (by simp) (by simp) (by simp [D.flat]))
theorem op_assignN {x : Operand} (h : Is (ρ x) .nil) : OpV P (.assign x) ty ρ H (.ex []) H :=
  OpV.of_val fun _ _ r _ hx => ⟨r x, fun _ _ _ _ => rfl, (h.rep (hx x (by simp [Op.operands]))).nilEx⟩
theorem As.bool {g : G} {w : World} {v : V} {b : Bool} {r : Value} (h : As v (.bool b)) (hr : Rep g w v r) : r = .bool b := by
  cases h.rep hr; rfl
theorem As.int {g : G} {w : World} {v : V} {k : IntKind} {n : Int} {r : Value} (h : As v (.int k n)) (hr : Rep g w v r) : r = .int k n := by
  cases h.rep hr; rfl
theorem As.str {g : G} {w : World} {v : V} {s : List UInt8} {r : Value} (h : As v (.str s)) (hr : Rep g w v r) : r = .string ⟨s.toArray⟩ := by
  cases h.rep hr; rfl

theorem op_and {c a b : Operand} {p q : Bool} (hc : As (ρ c) (.bool p)) (ha : p = true → As (ρ a) (.bool q)) (hb : ρ b = .d (.bool false)) :
    OpV P (.pick c a b) ty ρ H (.d (.bool (p && q))) H :=
  OpV.of_val fun g w r hw hx => by
    have h1 := hc.bool (hx c (by simp [Op.operands]))
    have h2 := hx a (by simp [Op.operands])
    have h3 : r b = .bool false := (As.r (x := .bool false) (by rw [hb]; rfl)).bool (hx b (by simp [Op.operands]))
    cases p with
    | true =>
      have h4 := (ha rfl).bool h2
      exact ⟨.bool q, fun _ _ _ _ => by simp [execOp, h1, h4, asBool], by simpa using Rep.d (RepD.bool q)⟩
    | false => exact ⟨.bool false, fun _ _ _ _ => by simp [execOp, h1, h3, asBool], by simpa using Rep.d (RepD.bool false)⟩

theorem op_or {c a b : Operand} {p q : Bool} (hc : As (ρ c) (.bool p)) (ha : ρ a = .d (.bool true)) (hb : p = false → As (ρ b) (.bool q)) :
    OpV P (.pick c a b) ty ρ H (.d (.bool (p || q))) H :=
  OpV.of_val fun g w r hw hx => by
    have h1 := hc.bool (hx c (by simp [Op.operands]))
    have h2 := hx b (by simp [Op.operands])
    have h3 : r a = .bool true := (As.r (x := .bool true) (by rw [ha]; rfl)).bool (hx a (by simp [Op.operands]))
    cases p with
    | false =>
      have h4 := (hb rfl).bool h2
      exact ⟨.bool q, fun _ _ _ _ => by simp [execOp, h1, h4, asBool], by simpa using Rep.d (RepD.bool q)⟩
    | true => exact ⟨.bool true, fun _ _ _ _ => by simp [execOp, h1, h3, asBool], by simpa using Rep.d (RepD.bool true)⟩

theorem op_not {x : Operand} {t : TypeId} {b : Bool} (h : As (ρ x) (.bool b)) : OpV P (.unOp .not t x) ty ρ H (.d (.bool (!b))) H :=
  OpV.of_val fun g w r hw hx => ⟨.bool (!b), fun _ _ _ _ => by simp [execOp, h.bool (hx x (by simp [Op.operands])), Op.unary], .d (.bool _)⟩

/- Integers. -/
section ints
variable {x y : Operand} {t u : TypeId} {k : IntKind} {a b : Int}
theorem op_addw (hx : As (ρ x) (.int k a)) (hy : As (ρ y) (.int k b)) : OpV P (.binOp .add t x y u) ty ρ H (.d (.int k (k.wrap (a + b)))) H :=
  OpV.of_val fun g w r hw h => ⟨.int k (k.wrap (a + b)), fun _ _ _ _ => by simp [execOp, hx.int (h x (by simp [Op.operands])), hy.int (h y (by simp [Op.operands])), eqGuard, binOp, Op.intArith], .d (.int _ _)⟩
theorem op_subw (hx : As (ρ x) (.int k a)) (hy : As (ρ y) (.int k b)) : OpV P (.binOp .sub t x y u) ty ρ H (.d (.int k (k.wrap (a - b)))) H :=
  OpV.of_val fun g w r hw h => ⟨.int k (k.wrap (a - b)), fun _ _ _ _ => by simp [execOp, hx.int (h x (by simp [Op.operands])), hy.int (h y (by simp [Op.operands])), eqGuard, binOp, Op.intArith], .d (.int _ _)⟩
theorem op_lss (hx : As (ρ x) (.int k a)) (hy : As (ρ y) (.int k b)) : OpV P (.binOp .lss t x y u) ty ρ H (.d (.bool (decide (a < b)))) H :=
  OpV.of_val fun g w r hw h => ⟨.bool (decide (a < b)), fun _ _ _ _ => by simp [execOp, hx.int (h x (by simp [Op.operands])), hy.int (h y (by simp [Op.operands])), eqGuard, binOp, Op.intCmp], .d (.bool _)⟩
theorem op_leq (hx : As (ρ x) (.int k a)) (hy : As (ρ y) (.int k b)) : OpV P (.binOp .leq t x y u) ty ρ H (.d (.bool (decide (a ≤ b)))) H :=
  OpV.of_val fun g w r hw h => ⟨.bool (decide (a ≤ b)), fun _ _ _ _ => by simp [execOp, hx.int (h x (by simp [Op.operands])), hy.int (h y (by simp [Op.operands])), eqGuard, binOp, Op.intCmp], .d (.bool _)⟩
theorem op_gtr (hx : As (ρ x) (.int k a)) (hy : As (ρ y) (.int k b)) : OpV P (.binOp .gtr t x y u) ty ρ H (.d (.bool (decide (b < a)))) H :=
  OpV.of_val fun g w r hw h => ⟨.bool (decide (b < a)), fun _ _ _ _ => by simp [execOp, hx.int (h x (by simp [Op.operands])), hy.int (h y (by simp [Op.operands])), eqGuard, binOp, Op.intCmp], .d (.bool _)⟩
theorem op_geq (hx : As (ρ x) (.int k a)) (hy : As (ρ y) (.int k b)) : OpV P (.binOp .geq t x y u) ty ρ H (.d (.bool (decide (b ≤ a)))) H :=
  OpV.of_val fun g w r hw h => ⟨.bool (decide (b ≤ a)), fun _ _ _ _ => by simp [execOp, hx.int (h x (by simp [Op.operands])), hy.int (h y (by simp [Op.operands])), eqGuard, binOp, Op.intCmp], .d (.bool _)⟩
theorem beq_dec (a b : Int) : (a == b) = decide (a = b) := by by_cases h : a = b <;> simp [h]
theorem op_eql (hx : As (ρ x) (.int k a)) (hy : As (ρ y) (.int k b)) : OpV P (.binOp .eql t x y u) ty ρ H (.d (.bool (decide (a = b)))) H :=
  OpV.of_val fun g w r hw h => ⟨.bool (decide (a = b)), fun _ _ _ _ => by simp [execOp, hx.int (h x (by simp [Op.operands])), hy.int (h y (by simp [Op.operands])), eqGuard, binOp, Op.intCmp, beq_dec], .d (.bool _)⟩
theorem op_neq (hx : As (ρ x) (.int k a)) (hy : As (ρ y) (.int k b)) : OpV P (.binOp .neq t x y u) ty ρ H (.d (.bool (!decide (a = b)))) H :=
  OpV.of_val fun g w r hw h => ⟨.bool (!decide (a = b)), fun _ _ _ _ => by simp [execOp, hx.int (h x (by simp [Op.operands])), hy.int (h y (by simp [Op.operands])), eqGuard, binOp, Op.intCmp, bne, beq_dec], .d (.bool _)⟩
theorem op_conv_int {dk : IntKind} (hx : As (ρ x) (.int k a)) (hs : ∃ d, P.underlying t = some d) (hd : P.underlying u = some (.int dk)) :
    OpV P (.convert t u x) ty ρ H (.d (.int dk (dk.wrap a))) H :=
  OpV.of_val fun g w r hw h => by
    obtain ⟨d, hs⟩ := hs
    refine ⟨.int dk (dk.wrap a), fun _ _ _ _ => ?_, .d (.int _ _)⟩
    simp [execOp, hx.int (h x (by simp [Op.operands])), convert, run_underlying hs, run_underlying hd, Conv.intToInt]
theorem op_min (hx : As (ρ x) (.int k a)) (hy : As (ρ y) (.int k b)) {ts : Array TypeId} : OpV P (.call ⟨.builtin .min, #[x, y], ts⟩) ty ρ H (.d (.int k (min a b))) H :=
  OpV.of_val fun g w r hw h => ⟨.int k (min a b), fun _ _ _ _ => by
    simp [execOp, resolve, invoke, builtin, Builtin.min_, Builtin.min2, hx.int (h x (by simp [Op.operands, Call.operands])), hy.int (h y (by simp [Op.operands, Call.operands]))]
    split <;> omega, .d (.int _ _)⟩
theorem op_max (hx : As (ρ x) (.int k a)) (hy : As (ρ y) (.int k b)) {ts : Array TypeId} : OpV P (.call ⟨.builtin .max, #[x, y], ts⟩) ty ρ H (.d (.int k (max a b))) H :=
  OpV.of_val fun g w r hw h => ⟨.int k (max a b), fun _ _ _ _ => by
    simp [execOp, resolve, invoke, builtin, Builtin.max_, Builtin.max2, hx.int (h x (by simp [Op.operands, Call.operands])), hy.int (h y (by simp [Op.operands, Call.operands]))]
    split <;> omega, .d (.int _ _)⟩
end ints

end
end Go.Proofs.Ytjinohfopjlgkaa.Ab
