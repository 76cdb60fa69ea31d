/- The rules of the walk over abstract states: statements, branches, loops, the operations of a region in their order, entering a function. Conditions: none. -/
import Derived.Test.YtjinohfopjlgkaaAb1
namespace Go.Proofs.Ytjinohfopjlgkaa.Ab
open Go

structure St where
  env : Nat → V
  H : List HE

structure FC where
  P : Program
  n : Nat
  g0 : G
  w0 : World

def Sim (F : FC) (st : St) (a : Act) (w : World) : Prop :=
  a.defers = [] ∧ a.tmps.size = F.n ∧ ∃ g, WOK g w st.H ∧ Evo F.g0 F.w0 g w ∧ ∀ i, Rep g w (st.env i) (a.tmps.getD i undef)

def upd (E : Nat → V) (d : Nat) (v : V) : Nat → V := fun i => cond (Nat.beq i d) v (E i)
def updO (E : Nat → V) : Option Nat → V → Nat → V
  | some d, v => upd E d v
  | none, _ => E

theorem upd_same (E : Nat → V) (d : Nat) (v : V) : upd E d v d = v := by simp [upd]
theorem upd_ne (E : Nat → V) {d i : Nat} (v : V) (h : i ≠ d) : upd E d v i = E i := by
  have : Nat.beq i d = false := by rw [← Bool.not_eq_true, Nat.beq_eq]; exact h
  simp [upd, this]

def absC : Value → D
  | .bool b => .bool b
  | .int k n => .int k n
  | .string s => .str s.data.toList
  | .slice none 0 0 => .sl []
  | v => .raw v

def absD : Value → D
  | .agg cs => .agg (cs.toList.map absC)
  | v => absC v

def absV : Value → V
  | .slice none 0 0 => .ex []
  | v => .d (absD v)

def absO : Value → V
  | .slice none 0 0 => .nil
  | v => .d (absD v)

def ρ (E : Nat → V) : Operand → V
  | .tmp t => E t
  | .const v => absO v
  | .func f => .fn (.func f) []
  | .global _ => .any

theorem RepD.absC (Pr : Nat → Nat → Prop) (w : World) (v : Value) : RepD Pr w (absC v) v := by
  unfold Ab.absC
  split
  · exact .bool _
  · exact .int _ _
  · rename_i s; exact .str s.data.toList
  · exact .sl [] none 0 0 (fun _ => undef) (by simp) (by simp) (by simp) (by simp [D.flat])
  · exact .raw _

theorem RepD.absD (Pr : Nat → Nat → Prop) (w : World) (v : Value) : RepD Pr w (absD v) v := by
  unfold Ab.absD
  split
  · rename_i cs
    refine .agg _ cs (by simp) (fun i x v hx hv => ?_)
    simp only [List.getElem?_map, Array.getElem?_toList, hv, Option.map_some, Option.some.injEq] at hx
    rw [← hx]; exact RepD.absC Pr w v
  · exact RepD.absC Pr w _

theorem Rep.absV (g : G) (w : World) (v : Value) : Rep g w (absV v) v := by
  unfold Ab.absV
  split
  · exact .ex (.sl [] none 0 0 (fun _ => undef) (by simp) (by simp) (by simp) (by simp [D.flat]))
  · exact .d (RepD.absD _ _ _)

theorem Rep.absO (g : G) (w : World) (v : Value) : Rep g w (absO v) v := by
  unfold Ab.absO
  split
  · exact .nil
  · exact .d (RepD.absD _ _ _)

theorem Rep.eval {g : G} {w : World} {E : Nat → V} {a : Act} (h : ∀ i, Rep g w (E i) (a.tmps.getD i undef)) (x : Operand) : Rep g w (ρ E x) (a.eval x) := by
  cases x with
  | tmp t => exact h t
  | const v => exact Rep.absO g w v
  | func f => exact .fn (by simp) (by simp)
  | global _ => exact .any

/-- A statement, from an abstract state on. -/
def AW (F : FC) (c : Code) (Q : Exit → St → Prop) (st : St) : Prop :=
  ∀ a w, Sim F st a w → c.wp F.P (fun e a' w' => ∃ st', Sim F st' a' w' ∧ Q e st') a w

def thenQ (K : St → Prop) (Q : Exit → St → Prop) : Exit → St → Prop
  | .normal, s => K s
  | e, s => Q e s

def blockQ (id : Nat) (Q : Exit → St → Prop) : Exit → St → Prop
  | .exit id', s => cond (Nat.beq id' id) (Q .normal s) (Q (.exit id') s)
  | e, s => Q e s

section
variable {F : FC} {Q : Exit → St → Prop} {st : St}

theorem AW.mono {c : Code} {Q' : Exit → St → Prop} (h : AW F c Q st) (hq : ∀ e s, Q e s → Q' e s) : AW F c Q' st :=
  fun a w hs => wp_mono (h a w hs) fun _ _ _ ⟨st', h1, h2⟩ => ⟨st', h1, hq _ _ h2⟩

theorem AW.skip (h : Q .normal st) : AW F .skip Q st := fun _ _ hs => wp_skip ⟨st, hs, h⟩
theorem AW.label {l : Nat} (h : Q .normal st) : AW F (.label l) Q st := fun _ _ hs => wp_label ⟨st, hs, h⟩
theorem AW.exit {id : Nat} (h : Q (.exit id) st) : AW F (.exit id) Q st := fun _ _ hs => wp_exit ⟨st, hs, h⟩
theorem AW.ret (h : Q .ret st) : AW F .ret Q st := fun _ _ hs => wp_ret ⟨st, hs, h⟩

theorem AW.seq {x y : Code} (h : AW F x (thenQ (AW F y Q) Q) st) : AW F (.seq x y) Q st := by
  intro a w hs
  refine wp_seq (wp_mono (h a w hs) ?_)
  rintro e a' w' ⟨st', h1, h2⟩
  cases e with
  | normal => exact h2 a' w' h1
  | exit id => exact ⟨st', h1, h2⟩
  | goto l => exact ⟨st', h1, h2⟩
  | ret => exact ⟨st', h1, h2⟩
  | panic c => exact ⟨st', h1, h2⟩
  | outgrown => exact ⟨st', h1, h2⟩

theorem AW.block {id : Nat} {c : Code} (h : AW F c (blockQ id Q) st) : AW F (.block id c) Q st := by
  intro a w hs
  refine wp_block (wp_mono (h a w hs) ?_)
  rintro e a' w' ⟨st', h1, h2⟩
  cases e with
  | exit id' =>
    by_cases hid : id' = id
    · subst hid
      simp only [blockQ, Nat.beq_refl, cond_true] at h2
      simp only [Exit.inBlock, if_true]
      exact ⟨st', h1, h2⟩
    · have hb : Nat.beq id' id = false := by rw [← Bool.not_eq_true, Nat.beq_eq]; exact hid
      simp only [blockQ, hb, cond_false] at h2
      simp only [Exit.inBlock, if_neg hid]
      exact ⟨st', h1, h2⟩
  | normal => exact ⟨st', h1, h2⟩
  | goto l => exact ⟨st', h1, h2⟩
  | ret => exact ⟨st', h1, h2⟩
  | panic c => exact ⟨st', h1, h2⟩
  | outgrown => exact ⟨st', h1, h2⟩

theorem AW.cond {c : Operand} {x y : Code} {b : Bool} (hc : ρ st.env c = .d (.bool b)) (ht : b = true → AW F x Q st) (hf : b = false → AW F y Q st) :
    AW F (.cond c x y) Q st := by
  intro a w hs
  obtain ⟨h1, h2, g, h3, h4, h5⟩ := hs
  have he := Rep.eval h5 c
  rw [hc] at he
  cases he with
  | d hd =>
    generalize hv : a.eval c = v at hd
    cases hd with
    | bool b => exact wp_cond_split hv (fun hb => ht hb a w ⟨h1, h2, g, h3, h4, h5⟩) (fun hb => hf hb a w ⟨h1, h2, g, h3, h4, h5⟩)

/-- A loop: at its head the state is 'S x' for some x; a measure falls. -/
theorem AW.loop {α : Type} {c : Code} (I : α → Prop) (S : α → St) (μ : α → Nat) (x₀ : α) (h₀ : I x₀)
    (enter : ∀ a w, Sim F st a w → Sim F (S x₀) a w)
    (round : ∀ x, I x → AW F c (thenQ (fun s => ∃ x', I x' ∧ μ x' < μ x ∧ ∀ a w, Sim F s a w → Sim F (S x') a w) Q) (S x)) : AW F (.loop c) Q st := by
  intro a w hs b k cs
  have key : ∀ n x, μ x = n → I x → ∀ a w, Sim F (S x) a w →
      ∃ e a' w', (∃ st', Sim F st' a' w' ∧ Q e st') ∧ Arrives F.P (lone (b.at a (.code c :: .inLoop c :: k)) cs w) b k cs e a' w' := by
    intro n
    induction n using Nat.strongRecOn with
    | _ n ih =>
      intro x hn hx a w hsim
      obtain ⟨e, a₁, w₁, ⟨st', h1, h2⟩, harr⟩ := round x hx a w hsim b (.inLoop c :: k) cs
      cases e with
      | normal =>
        obtain ⟨x', hx', hlt, hsim'⟩ := h2
        obtain ⟨e₂, a₂, w₂, hq₂, harr₂⟩ := ih (μ x') (hn ▸ hlt) x' rfl hx' a₁ w₁ (hsim' a₁ w₁ h1)
        exact ⟨e₂, a₂, w₂, hq₂, .of_steps (Steps.trans harr (.one step_inLoop)) harr₂⟩
      | exit id => exact ⟨_, a₁, w₁, ⟨st', h1, h2⟩, .pass (x := .inLoop c) rfl (fun _ _ => .inl (by simp)) harr⟩
      | goto l => exact ⟨_, a₁, w₁, ⟨st', h1, h2⟩, .pass (x := .inLoop c) rfl (fun _ _ => .inl (by simp)) harr⟩
      | ret => exact ⟨_, a₁, w₁, ⟨st', h1, h2⟩, .pass (x := .inLoop c) rfl (fun _ _ => .inl (by simp)) harr⟩
      | panic ch => exact ⟨_, a₁, w₁, ⟨st', h1, h2⟩, .pass (x := .inLoop c) rfl (fun _ _ => .inl (by simp)) harr⟩
      | outgrown => exact ⟨_, a₁, w₁, ⟨st', h1, h2⟩, .pass (x := .inLoop c) rfl (fun _ _ => .inl (by simp)) harr⟩
  obtain ⟨e, a', w', hq, harr⟩ := key _ x₀ rfl h₀ a w (enter a w hs)
  exact ⟨e, a', w', hq, .of_steps (.one step_loop) harr⟩

/-- The operations of a region, one after the other. -/
def wpL (P : Program) (ops : Array Oper) (Q : Exit → Act → World → Prop) : List Oper → Act → World → Prop
  | [], a, w => Q .normal a w
  | o :: rest, a, w => if Region.wanted o (yielded ops a.tmps) then o.wp P a w (wpL P ops Q rest) Q else wpL P ops Q rest (a.put o.dst undef) w

theorem wpOps_of_wpL {P : Program} {ops : Array Oper} {Q : Exit → Act → World → Prop} : ∀ (os : List Oper) (k : Nat), (∀ j : Nat, os[j]? = ops[k + j]?) → ∀ a w,
    wpL P ops Q os a w → wpOps P ops Q (List.range' k os.length) a w
  | [], _, _, _, _, h => h
  | o :: rest, k, hj, a, w, h => by
    have h0 : ops[k]? = some o := by have := hj 0; simpa using this.symm
    have ih := wpOps_of_wpL (P := P) (ops := ops) (Q := Q) rest (k + 1) (fun j => by have := hj (j + 1); rw [List.getElem?_cons_succ] at this; rw [this]; congr 1; omega)
    simp only [List.length_cons, List.range'_succ, wpOps, h0]
    simp only [wpL] at h
    split
    · rename_i hw
      simp only [hw, if_true] at h
      exact .inl (Oper.wp_mono (fun a w => ih a w) h)
    · rename_i hw
      simp only [hw] at h
      exact ih _ _ h

/-- What an operation comes to when it is run. -/
def OpRuns (P : Program) (o : Oper) (r : Operand → Value) (w : World) (K : Value → World → Prop) : Prop :=
  match (execOp r o).run P w with
  | .ok (.value v) w' => K v w'
  | .ok .skip w' => K undef w'
  | .ok (.enter f args) w' => Calls P f args w' fun e w'' => ∃ v, e = .returned v ∧ K v w''
  | _ => False

theorem OpRuns.wp {P : Program} {o : Oper} {a : Act} {w : World} {K : Value → World → Prop} {next : Act → World → Prop} {Q : Exit → Act → World → Prop}
    (h : OpRuns P o a.eval w K) (hk : ∀ v w', K v w' → next (a.put o.dst v) w') : o.wp P a w next Q := by
  unfold OpRuns at h
  unfold Oper.wp
  generalize (execOp a.eval o).run P w = r at *
  cases r with
  | ok n w' =>
    cases n <;> simp only [Oper.upon] at h ⊢ <;> try exact h.elim
    case value v => exact hk _ _ h
    case skip => exact hk _ _ h
    case enter f args => exact h.mono fun e w'' ⟨v, he, hK⟩ => by subst he; exact hk _ _ hK
  | halt x w' => simp only at h

theorem Oper.wp_mono2 {P : Program} {o : Oper} {a : Act} {w : World} {K K' : Act → World → Prop} {Q Q' : Exit → Act → World → Prop} (h : ∀ a w, K a w → K' a w) (hq : ∀ c a w, Q c a w → c = .normal → Q' c a w)
    (hQ : ∀ c a w, Q c a w → c = .normal) (hh : o.wp P a w K Q) : o.wp P a w K' Q' := by
  unfold Oper.wp at *
  generalize (execOp a.eval o).run P w = r at *
  cases r with
  | ok n w' =>
    cases n <;> simp only [Oper.upon] at hh ⊢ <;>
      first
        | exact h _ _ hh
        | exact Calls.mono hh (fun e w'' he => by
            cases e with
            | returned v => exact h _ _ he
            | panicked c => have := hQ _ _ _ he; cases this
            | outgrown => obtain ⟨a0, w0, h0⟩ := he; have := hQ _ _ _ h0; cases this)
        | exact Rows.mono hh (fun _ _ he => h _ _ he)
  | halt x w' =>
    cases x <;> simp only [Oper.upon] at hh ⊢ <;> first
      | exact hh
      | (have := hQ _ _ _ hh; cases this)

/-- An operation over abstract states: its value, and the heap behind it. -/
def OpV (P : Program) (o : Op) (ty : TypeId) (ρ : Operand → V) (H : List HE) (v : V) (H' : List HE) : Prop :=
  ∀ g w r pos after guard dst, WOK g w H → (∀ x, x ∈ o.operands → Rep g w (ρ x) (r x)) →
    OpRuns P ⟨dst, o, ty, pos, after, guard⟩ r w fun rv w' => ∃ g', WOK g' w' H' ∧ Evo g w g' w' ∧ Rep g' w' v rv

/-- The operations that are left of a region. -/
def AL (F : FC) (ops : Array Oper) (K : St → Prop) (os : List Oper) (st : St) : Prop :=
  ∀ a w, Sim F st a w → wpL F.P ops (fun e a' w' => e = .normal ∧ ∃ st', Sim F st' a' w' ∧ K st') os a w

variable {K : St → Prop}

theorem Sim.put {a : Act} {w w' : World} {g g' : G} {dst : Option Nat} {v : V} {rv : Value} {H' : List HE} (h1 : a.defers = []) (h2 : a.tmps.size = F.n)
    (h4 : Evo F.g0 F.w0 g w) (h5 : ∀ i, Rep g w (st.env i) (a.tmps.getD i undef)) (hd : ∀ d, dst = some d → d < F.n) (hw : WOK g' w' H') (he : Evo g w g' w') (hr : Rep g' w' v rv) :
    Sim F ⟨updO st.env dst v, H'⟩ (a.put dst rv) w' := by
  cases dst with
  | none => exact ⟨h1, h2, g', hw, h4.trans he, fun i => (h5 i).mono he⟩
  | some d =>
    have hlt : d < a.tmps.size := by rw [h2]; exact hd d rfl
    refine ⟨h1, by simpa [Act.put] using h2, g', hw, h4.trans he, fun i => ?_⟩
    by_cases hi : i = d
    · subst hi
      simp only [updO, upd_same, Act.put]
      simp [Array.getD, hlt, hr]
    · simp only [updO, upd_ne _ _ hi, Act.put]
      have : (a.tmps.setIfInBounds d rv).getD i undef = a.tmps.getD i undef := by
        simp [Array.getD_eq_getD_getElem?, Array.getElem?_setIfInBounds_ne (Ne.symm hi)]
      rw [this]; exact (h5 i).mono he

def dlt : Option Nat → Nat → Bool
  | none, _ => true
  | some d, n => Nat.blt d n

theorem dlt_lt {dst : Option Nat} {n : Nat} (h : dlt dst n = true) : ∀ d, dst = some d → d < n := by
  rintro d rfl
  simpa [dlt, Nat.blt_eq] using h

theorem AL.nil {ops : Array Oper} (h : K st) : AL F ops K [] st := fun _ _ hs => ⟨rfl, st, hs, h⟩

theorem AL.step {ops : Array Oper} {dst : Option Nat} {o : Op} {ty : TypeId} {pos : String} {after : Array Edge} {rest : List Oper} {v : V} {H' : List HE}
    (hd : dlt dst F.n = true) (h : OpV F.P o ty (ρ st.env) st.H v H') (k : AL F ops K rest ⟨updO st.env dst v, H'⟩) : AL F ops K (⟨dst, o, ty, pos, after, none⟩ :: rest) st := by
  have hd := dlt_lt hd
  rintro a w ⟨h1, h2, g, h3, h4, h5⟩
  simp only [wpL, Region.wanted, if_true]
  refine OpRuns.wp (h g w a.eval pos after none dst h3 (fun x _ => Rep.eval h5 x)) ?_
  rintro rv w' ⟨g', hw', he, hr⟩
  exact k _ _ (Sim.put h1 h2 h4 h5 hd hw' he hr)

theorem yielded_some {g : G} {w : World} {E : Nat → V} {ops : Array Oper} {tmps : Array Value} {j t : Nat} (h5 : ∀ i, Rep g w (E i) (tmps.getD i undef)) (hj : (ops[j]?).bind (·.dst) = some t) (ht : t < tmps.size) :
    (∀ b, E t = .d (.bool b) → yielded ops tmps j = some b) ∧
    (∀ p b, E t = .when p (.d (.bool b)) → yielded ops tmps j = if p = true then some b else none) := by
  have hg : tmps[t]? = some (tmps.getD t undef) := by simp [Array.getD, ht]
  have h := h5 t
  refine ⟨fun b hb => ?_, fun p b hb => ?_⟩
  · rw [hb] at h
    cases h with
    | d hd =>
      generalize hv : tmps.getD t undef = v at *
      cases hd
      simp [yielded, hj, hg]
  · rw [hb] at h
    cases h with
    | «when» h1 h2 =>
      cases p with
      | true =>
        cases h1 rfl with
        | d hd =>
          generalize hv : tmps.getD t undef = v at *
          cases hd
          simp [yielded, hj, hg]
      | false =>
        simp only [h2 rfl] at hg
        simp [yielded, hj, hg, undef]

theorem AL.stepG {ops : Array Oper} {dst : Option Nat} {o : Op} {ty : TypeId} {pos : String} {after : Array Edge} {rest : List Oper} {v : V} {j t : Nat} {want b q : Bool}
    (hj : (ops[j]?).bind (·.dst) = some t) (htn : Nat.blt t F.n = true) (hb : st.env t = .d (.bool b)) (hq : q = (b == want)) (hd : dlt dst F.n = true)
    (h : b = want → OpV F.P o ty (ρ st.env) st.H v st.H) (k : AL F ops K rest ⟨updO st.env dst (.when q v), st.H⟩) :
    AL F ops K (⟨dst, o, ty, pos, after, some (j, want)⟩ :: rest) st := by
  have hd := dlt_lt hd
  have htn : t < F.n := by simpa [Nat.blt_eq] using htn
  subst hq
  rintro a w ⟨h1, h2, g, h3, h4, h5⟩
  have hy := (yielded_some (ops := ops) h5 hj (by rw [h2]; exact htn)).1 b hb
  simp only [wpL, Region.wanted, hy]
  by_cases hbw : b = want
  · subst hbw
    simp only [beq_self_eq_true, if_true]
    refine OpRuns.wp (h rfl g w a.eval pos after _ dst h3 (fun x _ => Rep.eval h5 x)) ?_
    rintro rv w' ⟨g', hw', he, hr⟩
    exact k _ _ (Sim.put h1 h2 h4 h5 hd hw' he (.when (fun _ => hr) (by simp)))
  · have hf : (some b == some want) = false := by simpa using hbw
    have hf2 : (b == want) = false := by simpa using hbw
    simp only [hf, Bool.false_eq_true, if_false]
    exact k _ _ (Sim.put h1 h2 h4 h5 hd h3 (.refl _ _) (.when (fun h => by rw [hf2] at h; cases h) (fun _ => rfl)))

theorem AL.stepGG {ops : Array Oper} {dst : Option Nat} {o : Op} {ty : TypeId} {pos : String} {after : Array Edge} {rest : List Oper} {v : V} {j t : Nat} {want b p q : Bool}
    (hj : (ops[j]?).bind (·.dst) = some t) (htn : Nat.blt t F.n = true) (hb : st.env t = .when p (.d (.bool b))) (hq : q = (p && (b == want))) (hd : dlt dst F.n = true)
    (h : p = true → b = want → OpV F.P o ty (ρ st.env) st.H v st.H) (k : AL F ops K rest ⟨updO st.env dst (.when q v), st.H⟩) :
    AL F ops K (⟨dst, o, ty, pos, after, some (j, want)⟩ :: rest) st := by
  have hd := dlt_lt hd
  have htn : t < F.n := by simpa [Nat.blt_eq] using htn
  subst hq
  rintro a w ⟨h1, h2, g, h3, h4, h5⟩
  have hy := (yielded_some (ops := ops) h5 hj (by rw [h2]; exact htn)).2 p b hb
  simp only [wpL, Region.wanted, hy]
  by_cases hbw : p = true ∧ b = want
  · obtain ⟨rfl, rfl⟩ := hbw
    simp only [beq_self_eq_true, if_true]
    refine OpRuns.wp (h rfl rfl g w a.eval pos after _ dst h3 (fun x _ => Rep.eval h5 x)) ?_
    rintro rv w' ⟨g', hw', he, hr⟩
    exact k _ _ (Sim.put h1 h2 h4 h5 hd hw' he (.when (fun _ => hr) (by simp)))
  · have hf : ((if p = true then some b else none) == some want) = false := by
      cases p <;> simp_all
    have hf2 : (p && (b == want)) = false := by
      cases p <;> simp_all
    simp only [hf, Bool.false_eq_true, if_false]
    exact k _ _ (Sim.put h1 h2 h4 h5 hd h3 (.refl _ _) (.when (fun h => by rw [hf2] at h; cases h) (fun _ => rfl)))

theorem beqT (b : Bool) : b = (b == true) := by cases b <;> rfl
theorem beqF (b : Bool) : (!b) = (b == false) := by cases b <;> rfl

section
variable {ops : Array Oper} {dst : Option Nat} {o : Op} {ty : TypeId} {pos : String} {after : Array Edge} {rest : List Oper} {v : V} {j t : Nat} {b p : Bool}
theorem AL.stepT (hj : (ops[j]?).bind (·.dst) = some t) (htn : Nat.blt t F.n = true) (hb : st.env t = .d (.bool b)) (hd : dlt dst F.n = true)
    (h : b = true → OpV F.P o ty (ρ st.env) st.H v st.H) (k : AL F ops K rest ⟨updO st.env dst (.when b v), st.H⟩) : AL F ops K (⟨dst, o, ty, pos, after, some (j, true)⟩ :: rest) st := AL.stepG hj htn hb (beqT b) hd h k
theorem AL.stepF (hj : (ops[j]?).bind (·.dst) = some t) (htn : Nat.blt t F.n = true) (hb : st.env t = .d (.bool b)) (hd : dlt dst F.n = true)
    (h : b = false → OpV F.P o ty (ρ st.env) st.H v st.H) (k : AL F ops K rest ⟨updO st.env dst (.when (!b) v), st.H⟩) : AL F ops K (⟨dst, o, ty, pos, after, some (j, false)⟩ :: rest) st := AL.stepG hj htn hb (beqF b) hd h k
theorem AL.stepTT (hj : (ops[j]?).bind (·.dst) = some t) (htn : Nat.blt t F.n = true) (hb : st.env t = .when p (.d (.bool b))) (hd : dlt dst F.n = true)
    (h : p = true → b = true → OpV F.P o ty (ρ st.env) st.H v st.H) (k : AL F ops K rest ⟨updO st.env dst (.when (p && b) v), st.H⟩) : AL F ops K (⟨dst, o, ty, pos, after, some (j, true)⟩ :: rest) st := AL.stepGG hj htn hb (by rw [← beqT]) hd h k
theorem AL.stepFF (hj : (ops[j]?).bind (·.dst) = some t) (htn : Nat.blt t F.n = true) (hb : st.env t = .when p (.d (.bool b))) (hd : dlt dst F.n = true)
    (h : p = true → b = false → OpV F.P o ty (ρ st.env) st.H v st.H) (k : AL F ops K rest ⟨updO st.env dst (.when (p && !b) v), st.H⟩) : AL F ops K (⟨dst, o, ty, pos, after, some (j, false)⟩ :: rest) st := AL.stepGG hj htn hb (by rw [← beqF]) hd h k
end

theorem AL.run {ops : Array Oper} {id : Nat} (h : AL F ops K ops.toList st) {Q : Exit → St → Prop} (hK : ∀ s, K s → Q .normal s) : AW F (.region id ops false) Q st := by
  intro a w hs
  refine wp_region ?_
  have := wpOps_of_wpL (P := F.P) (ops := ops) (Q := fun e a' w' => ∃ st', Sim F st' a' w' ∧ Q e st') ops.toList 0 (by simp) a w ?_
  · rwa [List.range_eq_range', ← Array.length_toList]
  · have h0 := h a w hs
    have mono : ∀ (os : List Oper) a w, wpL F.P ops (fun e a' w' => e = .normal ∧ ∃ st', Sim F st' a' w' ∧ K st') os a w → wpL F.P ops (fun e a' w' => ∃ st', Sim F st' a' w' ∧ Q e st') os a w := by
      intro os
      induction os with
      | nil => rintro a w ⟨_, st', h1, h2⟩; exact ⟨st', h1, hK _ h2⟩
      | cons o os ih =>
        intro a w h
        simp only [wpL] at h ⊢
        split
        · rename_i hw
          simp only [hw, if_true] at h
          exact Oper.wp_mono2 (fun a w => ih a w) (fun c a w hq _ => (by obtain ⟨rfl, st', h1, h2⟩ := hq; exact ⟨st', h1, hK _ h2⟩)) (fun c a w hq => hq.1) h
        · rename_i hw
          simp only [hw] at h
          exact ih _ _ h
    exact mono _ a w h0

theorem AW.region {id : Nat} {ops : Array Oper} (h : AL F ops (Q .normal) ops.toList st) : AW F (.region id ops false) Q st := AL.run h fun _ h => h
theorem AW.seqR {id : Nat} {ops : Array Oper} {y : Code} (h : AL F ops (AW F y Q) ops.toList st) : AW F (.seq (.region id ops false) y) Q st :=
  AW.seq (AL.run h fun _ h => h)

theorem nq {K : St → Prop} {s : St} (h : K s) : thenQ K Q .normal s := h
theorem tq_exit {K : St → Prop} {s : St} {id : Nat} (h : Q (.exit id) s) : thenQ K Q (.exit id) s := h
theorem tq_ret {K : St → Prop} {s : St} (h : Q .ret s) : thenQ K Q .ret s := h
theorem bq_n {id : Nat} {s : St} (h : Q .normal s) : blockQ id Q .normal s := h
theorem bq_ret {id : Nat} {s : St} (h : Q .ret s) : blockQ id Q .ret s := h
theorem bq_hit {id : Nat} {s : St} (h : Q .normal s) : blockQ id Q (.exit id) s := by simpa [blockQ] using h
end

end Go.Proofs.Ytjinohfopjlgkaa.Ab
