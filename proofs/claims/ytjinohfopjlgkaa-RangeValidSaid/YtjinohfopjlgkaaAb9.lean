/- Loops that make memory; pieces of slices and texts; comparing with nil; a text as bytes. Conditions: none. -/
import Derived.Test.YtjinohfopjlgkaaAb8
import Derived.Lib.ConvBytes
namespace Go.Proofs.Ytjinohfopjlgkaa.Ab
open Go

theorem WOK.g0 {g : G} {w : World} {n : Nat} {H : List HE} (h : WOK g w H) (hn : H.length ≤ n) : ∀ id, n ≤ id → g.σ id = none ∧ g.τ id = none := fun id hid => ⟨(h.free id (.inr (by omega))).1, (h.free id (.inr (by omega))).2.1⟩



section
variable {P : Program} {ρ : Operand → V} {H : List HE} {ty : TypeId}

/- A value that is one of several. -/
def OpVE (P : Program) (o : Op) (ty : TypeId) (ρ : Operand → V) (H : List HE) (R : V → Prop) : Prop :=
  ∀ g w r pos after guard dst, WOK g w H → (∀ x, x ∈ o.operands → Rep g w (ρ x) (r x)) →
    OpRuns P ⟨dst, o, ty, pos, after, guard⟩ r w fun rv w' => ∃ g' v, R v ∧ WOK g' w' H ∧ Evo g w g' w' ∧ Rep g' w' v rv

theorem AL.stepE {F : FC} {K : St → Prop} {st : St} {ops : Array Oper} {dst : Option Nat} {o : Op} {ty : TypeId} {pos : String} {after : Array Edge} {rest : List Oper} {R : V → Prop}
    (hd : dlt dst F.n = true) (h : OpVE F.P o ty (Ab.ρ st.env) st.H R) (k : ∀ v, R v → AL F ops K rest ⟨updO st.env dst v, st.H⟩) : AL F ops K (⟨dst, o, ty, pos, after, none⟩ :: rest) st := by
  have hd := dlt_lt hd
  rintro a w ⟨h1, h2, g, h3, h4, h5⟩
  simp only [wpL, Region.wanted, if_true]
  refine OpRuns.wp (h g w a.eval pos after none dst h3 (fun x _ => Rep.eval h5 x)) ?_
  rintro rv w' ⟨g', v, hR, hw', he, hr⟩
  exact k v hR _ _ (Sim.put h1 h2 h4 h5 hd hw' he hr)

theorem equalIn_bool {t : TypeId} (ht : P.underlying t = some .bool) (a b : Bool) (w : World) (d : Nat) : (Op.equalIn (d + 1) t (.bool a) (.bool b)).run P w = .ok (a == b) w := by simp [Op.equalIn, run_underlying ht]
theorem equalIn_nil {t e s bytes : Nat} (ht : SlT P t e s bytes) (a : Option Addr) (n c : Nat) (w : World) (d : Nat) : (Op.equalIn (d + 1) t (.slice a n c) (.slice none 0 0)).run P w = .ok a.isNone w := by
  cases a <;> simp [Op.equalIn, run_underlying ht.u]
theorem run_eq_of {t : TypeId} {x y : Value} {b : Bool} {w : World} (h : ∀ d, (Op.equalIn (d + 1) t x y).run P w = .ok b w) : (Op.equal t x y).run P w = .ok b w := h 9999
theorem run_eq_bool {t : TypeId} (ht : P.underlying t = some .bool) (a b : Bool) (w : World) : (binOp .eql t (.bool a) (.bool b)).run P w = .ok (.bool (a == b)) w := by
  show (Op.equal t (.bool a) (.bool b) >>= fun x => pure (Value.bool x)).run P w = _
  rw [Sem.run_bind, run_eq_of (equalIn_bool ht a b w)]; rfl
theorem run_eq_nil {t e s bytes : Nat} (ht : SlT P t e s bytes) (a : Option Addr) (n c : Nat) (w : World) : (binOp .eql t (.slice a n c) (.slice none 0 0)).run P w = .ok (.bool a.isNone) w := by
  show (Op.equal t (.slice a n c) (.slice none 0 0) >>= fun x => pure (Value.bool x)).run P w = _
  rw [Sem.run_bind, run_eq_of (equalIn_nil ht a n c w)]; rfl

/-- 's == nil': an empty slice may be nil, or not. -/
theorem op_nilS {x y : Operand} {t e s bytes : Nat} {u : TypeId} {l : List D} (hx : As (ρ x) (.sl l)) (hy : ρ y = .nil) (ht : SlT P t e s bytes) :
    OpVE P (.binOp .eql t x y u) ty ρ H (fun v => ∃ b, v = .d (.bool b) ∧ (b = true → l = [])) := by
  intro g w r pos after guard dst hw h
  have h1 := hx.rep (h x (by simp [Op.operands]))
  have h2 := h y (by simp [Op.operands])
  rw [hy] at h2
  generalize hr : r x = vx at h1
  generalize hry : r y = vy at h2
  cases h2
  cases h1 with
  | sl _ a cap s' f hs' hcap hrow hrep =>
    unfold OpRuns
    cases a with
    | none =>
      have : (execOp r ⟨dst, .binOp .eql t x y u, ty, pos, after, guard⟩).run P w = .ok (.value (.bool true)) w := by
        simp [execOp, hr, hry, eqGuard, run_eq_nil ht]
      rw [this]
      refine ⟨g, _, ⟨true, rfl, fun _ => ?_⟩, hw, .refl _ _, .d (.bool true)⟩
      by_cases hl : l = []
      · exact hl
      · obtain ⟨b, o, e1, _⟩ := hrow hl; cases e1
    | some ad =>
      have : (execOp r ⟨dst, .binOp .eql t x y u, ty, pos, after, guard⟩).run P w = .ok (.value (.bool false)) w := by
        simp [execOp, hr, hry, eqGuard, run_eq_nil ht]
      rw [this]
      exact ⟨g, _, ⟨false, rfl, fun h => by cases h⟩, hw, .refl _ _, .d (.bool false)⟩

theorem op_eqlB {x y : Operand} {t u : TypeId} {a b : Bool} (hx : As (ρ x) (.bool a)) (hy : As (ρ y) (.bool b)) (ht : P.underlying t = some .bool) : OpV P (.binOp .eql t x y u) ty ρ H (.d (.bool (a == b))) H :=
  OpV.of_val fun _ _ _ _ h => ⟨.bool (a == b), fun _ _ _ _ => by simp [execOp, hx.bool (h x (by simp [Op.operands])), hy.bool (h y (by simp [Op.operands])), eqGuard, run_eq_bool ht], .d (.bool _)⟩
/- A piece of a slice: x[lo:hi]. -/
def loV (ρ : Operand → V) : Option Operand → Nat → Prop
  | none, lo => lo = 0
  | some x, lo => ∃ n, As (ρ x) (.int .i64 n) ∧ n = (lo : Int)
def hiV (ρ : Operand → V) (len : Nat) : Option Operand → Nat → Prop
  | none, hi => hi = len
  | some x, hi => ∃ n, As (ρ x) (.int .i64 n) ∧ n = (hi : Int)

theorem RepD.piece {Pr : Nat → Nat → Prop} {w : World} {l : List D} {a : Option Addr} {cap s lo hi : Nat} (h : RepD Pr w (.sl l) (.slice a l.length cap)) (hs : ∀ x ∈ l, x.cells.length = s) (h1 : lo ≤ hi) (h2 : hi ≤ l.length) :
    RepD Pr w (.sl ((l.take hi).drop lo)) (.slice (if cap = lo then a else a.map (·.add (lo * s))) (hi - lo) (cap - lo)) := by
  generalize hv : Value.slice a l.length cap = v at h
  cases h with
  | sl _ a' cap' s' f hs' hcap hrow hrep =>
    injection hv with e1 e2 e3
    subst e1; subst e3
    have hlen : ((l.take hi).drop lo).length = hi - lo := by simp; omega
    have hmem : ∀ x ∈ (l.take hi).drop lo, x ∈ l := fun x hx => List.mem_of_mem_take (List.mem_of_mem_drop hx)
    have key := RepD.sl (Pr := Pr) (w := w) ((l.take hi).drop lo) (if cap = lo then a else a.map (·.add (lo * s))) (cap - lo) s (fun k => f (lo * s + k)) (fun x hx => hs x (hmem x hx)) (by omega)
      (fun hne => by
        have hlt : lo < hi := by
          rcases Nat.lt_or_ge lo hi with h | h
          · exact h
          · exfalso; apply hne; apply List.eq_nil_of_length_eq_zero; omega
        have hl : l ≠ [] := fun e => by subst e; simp at h2; omega
        obtain ⟨b, o, rfl, hk⟩ := hrow hl
        have hss : s' = s := by
          obtain ⟨x0, hx0⟩ := List.exists_mem_of_ne_nil l hl
          rw [← hs' x0 hx0, hs x0 hx0]
        subst hss
        rw [if_neg (by omega)]
        refine ⟨b, o + lo * s', by simp [Addr.add_none], fun k hkl => ?_⟩
        have hlt2 : lo * s' + k < l.length * s' := by
          have e1 : (hi - lo) * s' = hi * s' - lo * s' := Nat.sub_mul _ _ _
          have e2 : hi * s' ≤ l.length * s' := Nat.mul_le_mul_right _ h2
          have e3 : lo * s' ≤ hi * s' := Nat.mul_le_mul_right _ h1
          rw [hlen, e1] at hkl; omega
        have := hk (lo * s' + k) hlt2
        rwa [← Nat.add_assoc] at this)
      (fun k x hx => by
        refine hrep (lo * s + k) x ?_
        have hk : k < (hi - lo) * s := by
          have := (List.getElem?_eq_some_iff.1 hx).1
          rw [flat_length (fun x hx => hs x (hmem x hx)), hlen] at this; exact this
        have hs0 : 0 < s := by
          rcases Nat.eq_zero_or_pos s with h | h
          · subst h; simp at hk
          · exact h
        have e0 : k = k / s * s + k % s := by rw [Nat.mul_comm]; exact (Nat.div_add_mod k s).symm
        have hq : k / s < hi - lo := Nat.div_lt_of_lt_mul (by rw [Nat.mul_comm]; exact hk)
        have hr : k % s < s := Nat.mod_lt _ hs0
        have hg : ((l.take hi).drop lo)[k / s]? = some l[lo + k / s] := by
          rw [List.getElem?_drop, List.getElem?_take, if_pos (by omega), List.getElem?_eq_getElem]
        rw [e0, flat_get (fun x hx => hs x (hmem x hx)) hg hr] at hx
        have e4 : lo * s + k = (lo + k / s) * s + k % s := by rw [Nat.add_mul]; omega
        rw [e4, flat_get hs (List.getElem?_eq_getElem (by omega)) hr]
        exact hx)
    rwa [hlen] at key

theorem op_slice {x : Operand} {t e s bytes lo hi : Nat} {a b : Option Operand} {l : List D} (hx : As (ρ x) (.sl l)) (ht : SlT P t e s bytes) (ha : loV ρ a lo) (hb : hiV ρ l.length b hi) (h1 : lo ≤ hi) (h2 : hi ≤ l.length)
    (hs : ∀ x ∈ l, x.cells.length = s) : OpV P (.slice t x a b none) ty ρ H (.d (.sl ((l.take hi).drop lo))) H :=
  OpV.of_val fun g w r _ h => by
    have hd := hx.rep (h x (by cases a <;> cases b <;> simp [Op.operands]))
    obtain ⟨ad, cap, hr, hcap⟩ := slice_form hd
    rw [hr] at hd
    obtain ⟨ie, z, hie, hsz, _⟩ := ht.i
    refine ⟨_, fun _ _ _ _ => ?_, .d (hd.piece hs h1 h2)⟩
    have hlo : ∀ y, Instr.sliceBound (.int .i64 (lo : Int)) y .sliceB = if lo ≤ y then pure lo else boundsPanic .i64 lo y .sliceB := fun y => by
      simp only [Instr.sliceBound, asIntOf]
      by_cases h : lo ≤ y
      · simp [h]
      · simp [h]
    have hhi : ∀ y, Instr.sliceBound (.int .i64 (hi : Int)) y .sliceAcap = if hi ≤ y then pure hi else boundsPanic .i64 hi y .sliceAcap := fun y => by
      simp only [Instr.sliceBound, asIntOf]
      by_cases h : hi ≤ y
      · simp [h]
      · simp [h]
    have hcaphi : hi ≤ cap := by omega
    cases a with
    | none =>
      have h0 : lo = 0 := ha
      subst h0
      cases b with
      | none =>
        have h0 : hi = l.length := hb
        subst h0
        simp [execOp, Instr.sliceAt, Instr.slice, Instr.sliceBounds, run_underlying ht.u, hr, run_sizeOf' hie, hsz]
      | some y =>
        obtain ⟨n, hn1, rfl⟩ := hb
        have := hn1.int (h y (by simp [Op.operands]))
        simp [execOp, Instr.sliceAt, Instr.slice, Instr.sliceBounds, run_underlying ht.u, hr, this, hhi, hcaphi, run_sizeOf' hie, hsz]
    | some z =>
      obtain ⟨n, hn1, rfl⟩ := ha
      have hz := hn1.int (h z (by simp [Op.operands]))
      cases b with
      | none =>
        have h0 : hi = l.length := hb
        subst h0
        simp [execOp, Instr.sliceAt, Instr.slice, Instr.sliceBounds, run_underlying ht.u, hr, hz, hlo, h1, run_sizeOf' hie, hsz]
      | some y =>
        obtain ⟨n, hn1, rfl⟩ := hb
        have := hn1.int (h y (by simp [Op.operands]))
        simp [execOp, Instr.sliceAt, Instr.slice, Instr.sliceBounds, run_underlying ht.u, hr, hz, this, hhi, hcaphi, hlo, h1, run_sizeOf' hie, hsz]

theorem flat_one : ∀ {l : List D}, (∀ x ∈ l, x.cells = [x]) → D.flat l = l
  | [], _ => rfl
  | a :: l, h => by
    have := flat_one (l := l) (fun x hx => h x (by simp [hx]))
    simp only [D.flat, List.flatMap_cons, h a (by simp)] at this ⊢
    rw [this]; rfl

end
end Go.Proofs.Ytjinohfopjlgkaa.Ab
