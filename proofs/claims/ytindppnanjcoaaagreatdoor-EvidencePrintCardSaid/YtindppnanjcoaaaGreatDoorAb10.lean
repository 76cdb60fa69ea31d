/- A region whose order Go leaves open: walked once, in the order of the text, where a check on its edges shows that the order does not matter. Loops that make memory; pieces of slices and texts; comparing with nil; a text as bytes. Small lemmas that the printed walks use. Conditions: none. -/
import Derived.Test.YtindppnanjcoaaaGreatDoorAb7
import Derived.Lib.ConvBytes
import Derived.IntWalk
section
namespace Go.Proofs.YtindppnanjcoaaaGreatDoor.Ab
open Go

def setL (H : List HE) : List (Nat × HE) → List HE
  | [] => H
  | (i, e) :: r => setL (H.set i e) r

theorem setL_length : ∀ (ws : List (Nat × HE)) (H : List HE), (setL H ws).length = H.length
  | [], _ => rfl
  | (i, e) :: r, H => by simp [setL, setL_length r]

theorem setL_get_ne : ∀ (ws : List (Nat × HE)) (H : List HE) (i : Nat), i ∉ ws.map (·.1) → (setL H ws)[i]? = H[i]?
  | [], _, _, _ => rfl
  | (j, e) :: r, H, i, h => by
    simp only [List.map_cons, List.mem_cons, not_or] at h
    simp only [setL]
    rw [setL_get_ne r _ i h.2, List.getElem?_set_ne (fun hc => h.1 hc.symm)]

theorem setL_congr : ∀ (ws : List (Nat × HE)) (H H' : List HE) (i : Nat), H.length = H'.length → i ∈ ws.map (·.1) → (setL H ws)[i]? = (setL H' ws)[i]?
  | [], _, _, _, _, h => by simp at h
  | (j, e) :: r, H, H', i, hl, h => by
    simp only [setL]
    by_cases hr : i ∈ r.map (·.1)
    · exact setL_congr r _ _ i (by simp [hl]) hr
    · rw [setL_get_ne r _ i hr, setL_get_ne r _ i hr]
      have hi : i = j := by simpa [hr] using h
      subst hi
      by_cases hlt : i < H.length
      · rw [List.getElem?_set_self hlt, List.getElem?_set_self (by omega)]
      · rw [List.getElem?_eq_none (by simp; omega), List.getElem?_eq_none (by simp; omega)]

/-- One operation, whatever the rest of the heap is. -/
def StepOK (F : FC) (ops : Array Oper) (o : Oper) (rd : List Nat) (st : St) (v : V) (ws : List (Nat × HE)) : Prop :=
  (∀ d, o.dst = some d → d < F.n) ∧
  match o.guard with
  | none => ∀ H', H'.length = st.H.length → (∀ id, id ∈ rd ++ ws.map (·.1) → H'[id]? = st.H[id]?) → OpV F.P o.op o.type (ρ st.env) H' v (setL H' ws)
  | some (j, want) => ws = [] ∧ ∃ t, (ops[j]?).bind (·.dst) = some t ∧ t < F.n ∧
      ((∃ b q u, st.env t = .d (.bool b) ∧ q = (b == want) ∧ v = .when q u ∧ (b = want → ∀ H', H'.length = st.H.length → (∀ id, id ∈ rd → H'[id]? = st.H[id]?) → OpV F.P o.op o.type (ρ st.env) H' u H')) ∨
       (∃ p b q u, st.env t = .when p (.d (.bool b)) ∧ q = (p && (b == want)) ∧ v = .when q u ∧ (p = true → b = want → ∀ H', H'.length = st.H.length → (∀ id, id ∈ rd → H'[id]? = st.H[id]?) → OpV F.P o.op o.type (ρ st.env) H' u H')))

def AD (F : FC) (ops : Array Oper) (Q : St → Prop) : List Oper → List (List Nat × List Nat) → St → Prop
  | [], _, st => Q st
  | o :: os, ann, st => ∃ v ws, (ann.headD ([], [])).2 = ws.map (·.1) ∧ StepOK F ops o (ann.headD ([], [])).1 st v ws ∧ AD F ops Q os ann.tail ⟨updO st.env o.dst v, setL st.H ws⟩

section
variable {F : FC} {Q : St → Prop} {st : St} {ops : Array Oper}

theorem AD.nil {ann : List (List Nat × List Nat)} (h : Q st) : AD F ops Q [] ann st := h

theorem AD.step {dst : Option Nat} {o : Op} {ty : TypeId} {pos : String} {after : Array Edge} {rest : List Oper} {v : V} {rd wr : List Nat} {ws : List (Nat × HE)} {ann : List (List Nat × List Nat)}
    (hd : dlt dst F.n = true) (hw : wr = ws.map (·.1)) (h : ∀ H', H'.length = st.H.length → (∀ id, id ∈ rd ++ ws.map (·.1) → H'[id]? = st.H[id]?) → OpV F.P o ty (ρ st.env) H' v (setL H' ws))
    (k : AD F ops Q rest ann ⟨updO st.env dst v, setL st.H ws⟩) : AD F ops Q (⟨dst, o, ty, pos, after, none⟩ :: rest) ((rd, wr) :: ann) st :=
  ⟨v, ws, hw, ⟨dlt_lt hd, h⟩, k⟩

theorem AD.stepG {dst : Option Nat} {o : Op} {ty : TypeId} {pos : String} {after : Array Edge} {rest : List Oper} {v : V} {rd : List Nat} {ann : List (List Nat × List Nat)} {j t : Nat} {want b q : Bool}
    (hj : (ops[j]?).bind (·.dst) = some t) (htn : Nat.blt t F.n = true) (hb : st.env t = .d (.bool b)) (hq : q = (b == want)) (hd : dlt dst F.n = true)
    (h : b = want → ∀ H', H'.length = st.H.length → (∀ id, id ∈ rd → H'[id]? = st.H[id]?) → OpV F.P o ty (ρ st.env) H' v H')
    (k : AD F ops Q rest ann ⟨updO st.env dst (.when q v), st.H⟩) : AD F ops Q (⟨dst, o, ty, pos, after, some (j, want)⟩ :: rest) ((rd, []) :: ann) st :=
  ⟨.when q v, [], rfl, ⟨dlt_lt hd, rfl, t, hj, by simpa [Nat.blt_eq] using htn, .inl ⟨b, q, v, hb, hq, rfl, h⟩⟩, k⟩

section
variable {dst : Option Nat} {o : Op} {ty : TypeId} {pos : String} {after : Array Edge} {rest : List Oper} {v : V} {rd : List Nat} {ann : List (List Nat × List Nat)} {j t : Nat} {b p : Bool}
theorem AD.stepT (hj : (ops[j]?).bind (·.dst) = some t) (htn : Nat.blt t F.n = true) (hb : st.env t = .d (.bool b)) (hd : dlt dst F.n = true)
    (h : b = true → ∀ H', H'.length = st.H.length → (∀ id, id ∈ rd → H'[id]? = st.H[id]?) → OpV F.P o ty (ρ st.env) H' v H') (k : AD F ops Q rest ann ⟨updO st.env dst (.when b v), st.H⟩) :
    AD F ops Q (⟨dst, o, ty, pos, after, some (j, true)⟩ :: rest) ((rd, []) :: ann) st := AD.stepG hj htn hb (beqT b) hd h k
theorem AD.stepF (hj : (ops[j]?).bind (·.dst) = some t) (htn : Nat.blt t F.n = true) (hb : st.env t = .d (.bool b)) (hd : dlt dst F.n = true)
    (h : b = false → ∀ H', H'.length = st.H.length → (∀ id, id ∈ rd → H'[id]? = st.H[id]?) → OpV F.P o ty (ρ st.env) H' v H') (k : AD F ops Q rest ann ⟨updO st.env dst (.when (!b) v), st.H⟩) :
    AD F ops Q (⟨dst, o, ty, pos, after, some (j, false)⟩ :: rest) ((rd, []) :: ann) st := AD.stepG hj htn hb (beqF b) hd h k
end

/- The check. -/
def edgeB (ops : Array Oper) (i j : Nat) : Bool := match ops[i]? with | some o => o.after.any fun e => Region.binds .any e && e.on == j | none => false
def edgeT (ops : Array Oper) : Nat → Nat → Nat → Bool
  | 0, i, j => edgeB ops i j
  | k + 1, i, j => edgeB ops i j || match ops[i]? with | some o => o.after.any fun e => Region.binds .any e && edgeT ops k e.on j | none => false
def ordB (ops : Array Oper) (i j : Nat) : Bool := if j < i then edgeT ops 12 i j else edgeT ops 12 j i
def wrS (o : Oper) : List Nat := o.dst.toList
def rdS (ops : Array Oper) (o : Oper) : List Nat := o.looksAt ops
def clash (ops : Array Oper) (oi oj : Oper) (ai aj : List Nat × List Nat) : Bool :=
  (wrS oj).any (fun x => (rdS ops oi).contains x || (wrS oi).contains x) || aj.2.any (fun x => ai.1.contains x || ai.2.contains x)
def okD (ops : Array Oper) (ann : List (List Nat × List Nat)) : Bool :=
  (List.range ops.size).all fun i => match ops[i]? with
    | none => false
    | some oi => (oi.after.all fun e => !Region.binds .any e || e.on < i) && (match oi.op with | .select _ _ => false | _ => true) &&
      (List.range ops.size).all fun j => match ops[j]? with
        | none => false
        | some oj => i == j || !clash ops oi oj (ann.getD i ([], [])) (ann.getD j ([], [])) || ordB ops i j

theorem AD.seq : ∀ (os : List Oper) (ann : List (List Nat × List Nat)) (st : St), AD F ops Q os ann st →
    ∃ (S : Nat → St) (vs : Nat → V) (ws : Nat → List (Nat × HE)), S 0 = st ∧ Q (S os.length) ∧ ∀ (i : Nat) o, os[i]? = some o →
      (ann.getD i ([], [])).2 = (ws i).map (·.1) ∧ StepOK F ops o (ann.getD i ([], [])).1 (S i) (vs i) (ws i) ∧ S (i + 1) = ⟨updO (S i).env o.dst (vs i), setL (S i).H (ws i)⟩
  | [], ann, st, h => ⟨fun _ => st, fun _ => .any, fun _ => [], rfl, h, by simp⟩
  | o :: os, ann, st, h => by
    obtain ⟨v, w, h1, h2, h3⟩ := h
    obtain ⟨S, vs, ws, k1, k2, k3⟩ := AD.seq os ann.tail _ h3
    refine ⟨fun i => match i with | 0 => st | i + 1 => S i, fun i => match i with | 0 => v | i + 1 => vs i, fun i => match i with | 0 => w | i + 1 => ws i, rfl, by simpa using k2, fun i o' ho => ?_⟩
    cases i with
    | zero =>
      simp only [List.getElem?_cons_zero, Option.some.injEq] at ho
      subst ho
      have e : ann.getD 0 ([], []) = ann.headD ([], []) := by cases ann <;> rfl
      exact ⟨by rw [e]; exact h1, by rw [e]; exact h2, by simp [k1]⟩
    | succ i =>
      have e : ann.getD (i + 1) ([], []) = ann.tail.getD i ([], []) := by cases ann <;> simp
      rw [e]
      exact k3 i o' (by simpa using ho)

theorem okD_spec {ann : List (List Nat × List Nat)} (h : okD ops ann = true) {i : Nat} {oi : Oper} (hi : ops[i]? = some oi) :
    (∀ e, e ∈ oi.after → Region.binds .any e = true → e.on < i) ∧ (∀ cs b, oi.op ≠ .select cs b) ∧
    ∀ (j : Nat) oj, ops[j]? = some oj → i ≠ j → ((∃ x, x ∈ wrS oj ∧ (x ∈ rdS ops oi ∨ x ∈ wrS oi)) ∨ (∃ x, x ∈ (ann.getD j ([], [])).2 ∧ (x ∈ (ann.getD i ([], [])).1 ∨ x ∈ (ann.getD i ([], [])).2))) → ordB ops i j = true := by
  have hlt : i < ops.size := (Array.getElem?_eq_some_iff.1 hi).1
  simp only [okD, List.all_eq_true, List.mem_range] at h
  have h1 := h i hlt
  simp only [hi, Bool.and_eq_true] at h1
  obtain ⟨⟨h2, h3⟩, h4⟩ := h1
  refine ⟨fun e he hb => ?_, fun cs b hc => by simp [hc] at h3, fun j oj hj hne hcl => ?_⟩
  · obtain ⟨k, hk, rfl⟩ := Array.mem_iff_getElem.1 he
    have := (Array.all_eq_true.1 h2) k hk
    simpa [hb] using this
  · have hjlt : j < ops.size := (Array.getElem?_eq_some_iff.1 hj).1
    simp only [List.all_eq_true, List.mem_range] at h4
    have h5 := h4 j hjlt
    simp only [hj, Bool.or_eq_true, beq_iff_eq, Bool.not_eq_true'] at h5
    rcases h5 with (h5 | h5) | h5
    · exact absurd h5 hne
    · exfalso
      have : clash ops oi oj (ann.getD i ([], [])) (ann.getD j ([], [])) = true := by
        simp only [clash, Bool.or_eq_true, List.any_eq_true, List.contains_iff_mem]
        rcases hcl with ⟨x, hx1, hx2⟩ | ⟨x, hx1, hx2⟩
        · exact .inl ⟨x, hx1, hx2⟩
        · exact .inr ⟨x, hx1, hx2⟩
      rw [this] at h5; cases h5
    · exact h5

theorem mem_looks_operand {o : Oper} {t : Nat} (h : Operand.tmp t ∈ o.op.operands) : t ∈ o.looksAt ops :=
  List.mem_append_left _ (List.mem_filterMap.2 ⟨.tmp t, by simpa using h, rfl⟩)
theorem mem_looks_guard {o : Oper} {j t : Nat} {want : Bool} (hg : o.guard = some (j, want)) (ht : (ops[j]?).bind (·.dst) = some t) : t ∈ o.looksAt ops := by
  simp [Oper.looksAt, hg, ht]

theorem OpV.congr {P : Program} {o : Op} {ty : TypeId} {ρ₁ ρ₂ : Operand → V} {H H' : List HE} {v : V} (h : OpV P o ty ρ₁ H v H') (he : ∀ x, x ∈ o.operands → ρ₁ x = ρ₂ x) : OpV P o ty ρ₂ H v H' :=
  fun g w r pos after guard dst hw hx => h g w r pos after guard dst hw fun x hxm => he x hxm ▸ hx x hxm

theorem ρ_congr {E E' : Nat → V} {x : Operand} (h : ∀ t, x = .tmp t → E t = E' t) : ρ E x = ρ E' x := by
  cases x with
  | tmp t => exact h t rfl
  | _ => rfl

theorem mem_edge {o : Oper} {i j : Nat} (ho : ops[i]? = some o) (h : edgeB ops i j = true) : ∃ e, e ∈ o.after ∧ Region.binds .any e = true ∧ e.on = j := by
  simp only [edgeB, ho, Array.any_eq_true, Bool.and_eq_true, beq_iff_eq] at h
  obtain ⟨k, hk, h1, h2⟩ := h
  exact ⟨_, Array.getElem_mem hk, h1, h2⟩

theorem updO_ne {E : Nat → V} {d : Option Nat} {v : V} {x : Nat} (h : x ∉ d.toList) : updO E d v x = E x := by
  cases d with
  | none => rfl
  | some d => exact upd_ne _ _ (by simpa using h)

theorem updO_mem {E E' : Nat → V} {d : Option Nat} {v : V} {x : Nat} (h : x ∈ d.toList) : updO E d v x = updO E' d v x := by
  cases d with
  | none => simp at h
  | some d => simp at h; subst h; simp [updO, upd_same]

theorem AW.drawn {Q : Exit → St → Prop} {id : Nat} (ann : List (List Nat × List Nat)) (hm : F.P.follows .mixedOrders = true) (hok : okD ops ann = true) (h : AD F ops (Q .normal) ops.toList ann st) : AW F (.region id ops true) Q st := by
  obtain ⟨S, vs, ws, hS0, hSn, hstep⟩ := AD.seq ops.toList ann st h
  have hstep' : ∀ (i : Nat) o, ops[i]? = some o → (ann.getD i ([], [])).2 = (ws i).map (·.1) ∧ StepOK F ops o (ann.getD i ([], [])).1 (S i) (vs i) (ws i) ∧ S (i + 1) = ⟨updO (S i).env o.dst (vs i), setL (S i).H (ws i)⟩ :=
    fun i o ho => hstep i o (by simpa using ho)
  have hlen : ∀ i, i ≤ ops.size → (S i).H.length = st.H.length := by
    intro i
    induction i with
    | zero => intro _; rw [hS0]
    | succ i ih =>
      intro hi
      obtain ⟨o, ho⟩ : ∃ o, ops[i]? = some o := ⟨ops[i], by simp⟩
      rw [(hstep' i o ho).2.2]; simp only [setL_length]; exact ih (by omega)
  -- a slot, an entry of the heap: unchanged where nobody writes
  have hkeepE : ∀ (x t t' : Nat), t ≤ t' → t' ≤ ops.size → (∀ (j : Nat) o, t ≤ j → j < t' → ops[j]? = some o → x ∉ wrS o) → (S t').env x = (S t).env x := by
    intro x t t' htt
    induction htt with
    | refl => intro _ _; rfl
    | @step m hm ih =>
      intro hle hno
      obtain ⟨o, ho⟩ : ∃ o, ops[m]? = some o := ⟨ops[m], by simp⟩
      rw [(hstep' m o ho).2.2]
      simp only
      rw [updO_ne (hno m o hm (Nat.lt_succ_self m) ho)]
      exact ih (by omega) (fun j o h1 h2 => hno j o h1 (by omega))
  have hkeepH : ∀ (x t t' : Nat), t ≤ t' → t' ≤ ops.size → (∀ (j : Nat) o, t ≤ j → j < t' → ops[j]? = some o → x ∉ (ann.getD j ([], [])).2) → (S t').H[x]? = (S t).H[x]? := by
    intro x t t' htt
    induction htt with
    | refl => intro _ _; rfl
    | @step m hm ih =>
      intro hle hno
      obtain ⟨o, ho⟩ : ∃ o, ops[m]? = some o := ⟨ops[m], by simp⟩
      have h1 := (hstep' m o ho).1
      rw [(hstep' m o ho).2.2]
      simp only
      rw [setL_get_ne _ _ _ (by rw [← h1]; exact hno m o hm (Nat.lt_succ_self m) ho)]
      exact ih (by omega) (fun j o h1 h2 => hno j o h1 (by omega))
  -- the state when the operations of 'listed' have been carried out
  let J : Array Bool → Act → World → Prop := fun listed a w => listed.size = ops.size ∧
    (∀ (j : Nat) o, ops[j]? = some o → listed.getD j true = true → ∀ e, e ∈ o.after → Region.binds .any e = true → listed.getD e.on true = true) ∧
    ∃ cur : St, Sim F cur a w ∧ cur.H.length = st.H.length ∧
      (∀ x, ∃ t, t ≤ ops.size ∧ cur.env x = (S t).env x ∧ ∀ (j : Nat) o, ops[j]? = some o → x ∈ wrS o → (listed.getD j true = true ↔ j < t)) ∧
      (∀ x, ∃ t, t ≤ ops.size ∧ cur.H[x]? = (S t).H[x]? ∧ ∀ (j : Nat) o, ops[j]? = some o → x ∈ (ann.getD j ([], [])).2 → (listed.getD j true = true ↔ j < t))
  have hdone : ∀ listed a w, J listed a w → Region.ready .any ops listed = [] → ∃ st', Sim F st' a w ∧ Q .normal st' := by
    rintro listed a w ⟨hsz, hcl, cur, hsim, hcl2, hE, hH⟩ hr
    have hall : ∀ i, i < ops.size → listed.getD i true = true := by
      intro i
      induction i using Nat.strongRecOn with
      | _ i ih =>
        intro hi
        obtain ⟨o, ho⟩ : ∃ o, ops[i]? = some o := ⟨ops[i], by simp⟩
        cases hl : listed.getD i true with
        | true => rfl
        | false =>
          exfalso
          have : i ∈ Region.ready .any ops listed := by
            simp only [Region.ready, List.mem_filter, List.mem_range]
            refine ⟨hi, ?_⟩
            simp only [hl, Bool.not_false, ho, Option.map_some, Option.getD_some, Bool.true_and, Array.all_eq_true]
            intro k hk
            cases hb : Region.binds .any o.after[k] with
            | false => simp
            | true =>
              have hlt := (okD_spec hok ho).1 _ (Array.getElem_mem hk) hb
              have := ih _ hlt (by omega)
              simp only [Bool.not_true, Bool.false_or]
              have hlt2 : o.after[k].on < listed.size := by omega
              simpa [Array.getD, hlt2] using this
          rw [hr] at this; cases this
    have hEq : cur = S ops.size := by
      have e1 : cur.env = (S ops.size).env := by
        funext x
        obtain ⟨t, ht, hx, hw⟩ := hE x
        rw [hx, hkeepE x t ops.size ht (Nat.le_refl _)]
        intro j o h1 h2 ho hmem
        have := (hw j o ho hmem).1 (hall j h2)
        omega
      have e2 : cur.H = (S ops.size).H := by
        apply List.ext_getElem?
        intro x
        obtain ⟨t, ht, hx, hw⟩ := hH x
        rw [hx, hkeepH x t ops.size ht (Nat.le_refl _)]
        intro j o h1 h2 ho hmem
        have := (hw j o ho hmem).1 (hall j h2)
        omega
      cases cur; cases hs : S ops.size
      simp only [hs] at e1 e2
      subst e1; subst e2; rfl
    rw [hEq] at hsim
    exact ⟨_, hsim, by simpa using hSn⟩
  have hone : ∀ listed a w i, J listed a w → i ∈ Region.ready .any ops listed →
      wpOp F.P ops (fun e a' w' => ∃ st', Sim F st' a' w' ∧ Q e st') i (fun a' w' => J (listed.setIfInBounds i true) a' w') a w := by
    rintro listed a w i ⟨hsz, hcl, cur, hsim, hcl2, hE, hH⟩ hr
    simp only [Region.ready, List.mem_filter, List.mem_range, Bool.and_eq_true, Bool.not_eq_true'] at hr
    obtain ⟨hi, hni, hpre⟩ := hr
    obtain ⟨o, ho⟩ : ∃ o, ops[i]? = some o := ⟨ops[i], by simp⟩
    simp only [ho, Option.map_some, Option.getD_some, Array.all_eq_true] at hpre
    obtain ⟨hlt, hsel, hclash⟩ := okD_spec hok ho
    have hdown : ∀ (k m j : Nat), listed.getD m true = true → edgeT ops k m j = true → listed.getD j true = true := by
      intro k
      induction k with
      | zero =>
        intro m j hm hj
        simp only [edgeT, edgeB] at hj
        cases hom : ops[m]? with
        | none => rw [hom] at hj; cases hj
        | some om =>
          obtain ⟨e, he, hb, rfl⟩ := mem_edge hom (by simpa only [edgeB] using hj)
          exact hcl m om hom hm e he hb
      | succ k ih =>
        intro m j hm hj
        simp only [edgeT, Bool.or_eq_true] at hj
        cases hom : ops[m]? with
        | none =>
          rw [hom] at hj
          rcases hj with hj | hj
          · simp only [edgeB, hom] at hj; cases hj
          · cases hj
        | some om =>
          rcases hj with hj | hj
          · obtain ⟨e, he, hb, rfl⟩ := mem_edge hom hj
            exact hcl m om hom hm e he hb
          · rw [hom] at hj
            simp only [Array.any_eq_true, Bool.and_eq_true] at hj
            obtain ⟨q, hq, hb, hj⟩ := hj
            exact ih _ j (hcl m om hom hm _ (Array.getElem_mem hq) hb) hj
    have hpre1 : ∀ e, e ∈ o.after → Region.binds .any e = true → listed.getD e.on true = true := by
      intro e he hb
      obtain ⟨k, hk, rfl⟩ := Array.mem_iff_getElem.1 he
      have := hpre k hk
      simp only [hb, Bool.not_true, Bool.false_or] at this
      have hon := hlt _ (Array.getElem_mem hk) hb
      have hon2 : o.after[k].on < listed.size := by omega
      simpa [Array.getD, hon2] using this
    have hpred : ∀ j, edgeT ops 12 i j = true → listed.getD j true = true := by
      intro j hj
      simp only [edgeT, Bool.or_eq_true] at hj
      rcases hj with hj | hj
      · obtain ⟨e, he, hb, rfl⟩ := mem_edge ho hj
        exact hpre1 e he hb
      · rw [ho] at hj
        simp only [Array.any_eq_true, Bool.and_eq_true] at hj
        obtain ⟨q, hq, hb, hj⟩ := hj
        exact hdown 11 _ j (hpre1 _ (Array.getElem_mem hq) hb) (by simpa only [edgeT, Bool.or_eq_true] using hj)
    have hsucc : ∀ (j : Nat) oj, ops[j]? = some oj → edgeT ops 12 j i = true → listed.getD j true = false := by
      intro j oj hoj hj
      cases hl : listed.getD j true with
      | false => rfl
      | true =>
        have := hdown 12 j i hl hj
        rw [hni] at this; cases this
    have hordL : ∀ (j : Nat) oj, ops[j]? = some oj → i ≠ j → ordB ops i j = true → (listed.getD j true = true ↔ j < i) := by
      intro j oj hoj hne hord
      unfold ordB at hord
      split at hord
      · rename_i hji; exact ⟨fun _ => hji, fun _ => hpred j hord⟩
      · rename_i hji
        have := hsucc j oj hoj hord
        rw [this]; exact ⟨fun h => (by cases h), fun h => absurd h hji⟩
    -- what it reads stands as in the text's order
    have hreadE : ∀ x, x ∈ rdS ops o → cur.env x = (S i).env x := by
      intro x hx
      obtain ⟨t, ht, hxe, hw⟩ := hE x
      have hb : ∀ (j : Nat) oj, ops[j]? = some oj → x ∈ wrS oj → (j = i ∧ ¬ j < t) ∨ (j ≠ i ∧ (j < t ↔ j < i)) := by
        intro j oj hoj hmem
        by_cases hji : j = i
        · subst hji; exact .inl ⟨rfl, fun h => by have := (hw j oj hoj hmem).2 h; rw [hni] at this; cases this⟩
        · have h1 := hordL j oj hoj (fun h => hji h.symm) (hclash j oj hoj (fun h => hji h.symm) (.inl ⟨x, hmem, .inl hx⟩))
          exact .inr ⟨hji, (hw j oj hoj hmem).symm.trans h1⟩
      rw [hxe]
      by_cases hti : t ≤ i
      · exact (hkeepE x t i hti (by omega) (fun j oj h1 h2 hoj hmem => by rcases hb j oj hoj hmem with ⟨h3, _⟩ | ⟨_, h3⟩ <;> omega)).symm
      · exact hkeepE x i t (by omega) ht (fun j oj h1 h2 hoj hmem => by rcases hb j oj hoj hmem with ⟨_, h3⟩ | ⟨_, h3⟩ <;> omega)
    have hreadH : ∀ x, (x ∈ (ann.getD i ([], [])).1 ∨ x ∈ (ann.getD i ([], [])).2) → cur.H[x]? = (S i).H[x]? := by
      intro x hx
      obtain ⟨t, ht, hxe, hw⟩ := hH x
      have hb : ∀ (j : Nat) oj, ops[j]? = some oj → x ∈ (ann.getD j ([], [])).2 → (j = i ∧ ¬ j < t) ∨ (j ≠ i ∧ (j < t ↔ j < i)) := by
        intro j oj hoj hmem
        by_cases hji : j = i
        · subst hji; exact .inl ⟨rfl, fun h => by have := (hw j oj hoj hmem).2 h; rw [hni] at this; cases this⟩
        · have h1 := hordL j oj hoj (fun h => hji h.symm) (hclash j oj hoj (fun h => hji h.symm) (.inr ⟨x, hmem, hx⟩))
          exact .inr ⟨hji, (hw j oj hoj hmem).symm.trans h1⟩
      rw [hxe]
      by_cases hti : t ≤ i
      · exact (hkeepH x t i hti (by omega) (fun j oj h1 h2 hoj hmem => by rcases hb j oj hoj hmem with ⟨h3, _⟩ | ⟨_, h3⟩ <;> omega)).symm
      · exact hkeepH x i t (by omega) ht (fun j oj h1 h2 hoj hmem => by rcases hb j oj hoj hmem with ⟨_, h3⟩ | ⟨_, h3⟩ <;> omega)
    obtain ⟨hann, ⟨hdn, hok1⟩, hnext⟩ := hstep' i o ho
    -- the state behind it
    have hset : ∀ j, (listed.setIfInBounds i true).getD j true = true ↔ (j = i ∨ listed.getD j true = true) := by
      intro j
      by_cases hji : j = i
      · subst hji
        have : j < listed.size := by omega
        simp [Array.getD, this]
      · simp [Array.getD_eq_getD_getElem?, Array.getElem?_setIfInBounds_ne (fun h => hji h.symm), hji]
    have hafter : ∀ a' w' H2, Sim F ⟨updO cur.env o.dst (vs i), H2⟩ a' w' → H2 = setL cur.H (ws i) → J (listed.setIfInBounds i true) a' w' := by
      intro a' w' H2 hs' hH2
      subst hH2
      refine ⟨by simpa using hsz, ?_, _, hs', by simp [setL_length, hcl2], ?_, ?_⟩
      · intro j oj hoj hl e he hb
        rw [hset] at hl ⊢
        rcases hl with rfl | hl
        · obtain rfl : o = oj := by rw [ho] at hoj; exact Option.some.inj hoj
          obtain ⟨k, hk, rfl⟩ := Array.mem_iff_getElem.1 he
          have := hpre k hk
          simp only [hb, Bool.not_true, Bool.false_or] at this
          have hon := hlt _ (Array.getElem_mem hk) hb
          have hon2 : o.after[k].on < listed.size := by omega
          exact .inr (by simpa [Array.getD, hon2] using this)
        · exact .inr (hcl j oj hoj hl e he hb)
      · intro x
        by_cases hx : x ∈ wrS o
        · refine ⟨i + 1, by omega, ?_, fun j oj hoj hmem => ?_⟩
          · rw [hnext]; exact updO_mem hx
          · rw [hset]
            by_cases hji : j = i
            · subst hji; exact ⟨fun _ => by omega, fun _ => .inl rfl⟩
            · have := hordL j oj hoj (fun h => hji h.symm) (hclash j oj hoj (fun h => hji h.symm) (.inl ⟨x, hmem, .inr hx⟩))
              constructor
              · rintro (h | h)
                · exact absurd h hji
                · have := this.1 h; omega
              · intro h; exact .inr (this.2 (by omega))
        · obtain ⟨t, ht, hxe, hw⟩ := hE x
          refine ⟨t, ht, by rw [← hxe]; exact updO_ne hx, fun j oj hoj hmem => ?_⟩
          rw [hset, ← hw j oj hoj hmem]
          constructor
          · rintro (rfl | h)
            · obtain rfl : o = oj := by rw [ho] at hoj; exact Option.some.inj hoj
              exact absurd hmem hx
            · exact h
          · exact .inr
      · intro x
        by_cases hx : x ∈ (ann.getD i ([], [])).2
        · refine ⟨i + 1, by omega, ?_, fun j oj hoj hmem => ?_⟩
          · rw [hnext]; exact setL_congr _ _ _ _ (by rw [hlen i (by omega), hcl2]) (by rw [← hann]; exact hx)
          · rw [hset]
            by_cases hji : j = i
            · subst hji; exact ⟨fun _ => by omega, fun _ => .inl rfl⟩
            · have := hordL j oj hoj (fun h => hji h.symm) (hclash j oj hoj (fun h => hji h.symm) (.inr ⟨x, hmem, .inr hx⟩))
              constructor
              · rintro (h | h)
                · exact absurd h hji
                · have := this.1 h; omega
              · intro h; exact .inr (this.2 (by omega))
        · obtain ⟨t, ht, hxe, hw⟩ := hH x
          refine ⟨t, ht, by rw [← hxe]; exact setL_get_ne _ _ _ (by rw [← hann]; exact hx), fun j oj hoj hmem => ?_⟩
          rw [hset, ← hw j oj hoj hmem]
          constructor
          · rintro (rfl | h)
            · exact absurd hmem hx
            · exact h
          · exact .inr
    have hρ : ∀ x, x ∈ o.op.operands → ρ (S i).env x = ρ cur.env x := fun x hx => ρ_congr fun t ht => (hreadE t (mem_looks_operand (by rw [← ht]; exact hx))).symm
    have hlen' : cur.H.length = (S i).H.length := by rw [hcl2, hlen i (by omega)]
    unfold wpOp
    simp only [ho]
    obtain ⟨h1, h2, g, h3, h4, h5⟩ := hsim
    obtain ⟨dst, op, ty, pos, after, guard⟩ := o
    cases guard with
    | none =>
      simp only at hok1
      simp only [Region.wanted, if_true]
      have hop := (hok1 cur.H hlen' (fun id hid => hreadH id (by
        rcases List.mem_append.1 hid with h | h
        · exact .inl h
        · exact .inr (by rw [hann]; exact h)))).congr hρ
      refine .inl (OpRuns.wp (hop g w a.eval pos after none dst h3 (fun x _ => Rep.eval h5 x)) ?_)
      rintro rv w' ⟨g', hw', he, hr⟩
      exact hafter _ _ _ (Sim.put h1 h2 h4 h5 hdn hw' he hr) rfl
    | some gw =>
      obtain ⟨j, want⟩ := gw
      simp only at hok1
      obtain ⟨hws, t, hj, htn, hcase⟩ := hok1
      have ht : cur.env t = (S i).env t := hreadE t (mem_looks_guard (want := want) rfl hj)
      have hy := yielded_some (ops := ops) h5 hj (by rw [h2]; exact htn)
      have hH0 : setL cur.H (ws i) = cur.H := by rw [hws]; rfl
      rcases hcase with ⟨b, q, u, hb, hq, hv, hop⟩ | ⟨p, b, q, u, hb, hq, hv, hop⟩
      · have hy1 := hy.1 b (by rw [ht]; exact hb)
        simp only [Region.wanted, hy1]
        by_cases hbw : b = want
        · subst hbw
          simp only [beq_self_eq_true, if_true] at hq ⊢
          have hop' := (hop rfl cur.H hlen' (fun id hid => hreadH id (.inl hid))).congr hρ
          refine .inl (OpRuns.wp (hop' g w a.eval pos after _ dst h3 (fun x _ => Rep.eval h5 x)) ?_)
          rintro rv w' ⟨g', hw', he, hr⟩
          refine hafter _ _ cur.H ?_ hH0.symm
          rw [hv]
          exact Sim.put h1 h2 h4 h5 hdn hw' he (.when (fun _ => hr) (fun hc => by rw [hq] at hc; cases hc))
        · have hf : (some b == some want) = false := by simpa using hbw
          have hf2 : (b == want) = false := by simpa using hbw
          simp only [hf, Bool.false_eq_true, if_false]
          refine hafter _ _ cur.H ?_ hH0.symm
          rw [hv]
          exact Sim.put h1 h2 h4 h5 hdn h3 (.refl _ _) (.when (fun h => by rw [hq, hf2] at h; cases h) (fun _ => rfl))
      · have hy1 := hy.2 p b (by rw [ht]; exact hb)
        simp only [Region.wanted, hy1]
        by_cases hbw : p = true ∧ b = want
        · obtain ⟨rfl, rfl⟩ := hbw
          simp only [beq_self_eq_true, if_true, Bool.and_self] at hq ⊢
          have hop' := (hop rfl rfl cur.H hlen' (fun id hid => hreadH id (.inl hid))).congr hρ
          refine .inl (OpRuns.wp (hop' g w a.eval pos after _ dst h3 (fun x _ => Rep.eval h5 x)) ?_)
          rintro rv w' ⟨g', hw', he, hr⟩
          refine hafter _ _ cur.H ?_ hH0.symm
          rw [hv]
          exact Sim.put h1 h2 h4 h5 hdn hw' he (.when (fun _ => hr) (fun hc => by rw [hq] at hc; cases hc))
        · have hf : ((if p = true then some b else none) == some want) = false := by
            cases p <;> simp_all
          have hf2 : (p && (b == want)) = false := by
            cases p <;> simp_all
          simp only [hf, Bool.false_eq_true, if_false]
          refine hafter _ _ cur.H ?_ hH0.symm
          rw [hv]
          exact Sim.put h1 h2 h4 h5 hdn h3 (.refl _ _) (.when (fun h => by rw [hq, hf2] at h; cases h) (fun _ => rfl))
  have hany : ∀ (fuel : Nat) (listed : Array Bool) (a : Act) (w : World), J listed a w → (List.range ops.size).countP (fun i => !listed.getD i true) ≤ fuel →
      wpAny F.P .any ops (fun e a' w' => ∃ st', Sim F st' a' w' ∧ Q e st') fuel listed a w := by
    intro fuel
    induction fuel with
    | zero =>
      intro listed a w hJ hc
      have hr : Region.ready .any ops listed = [] := by
        have h0 : (List.range ops.size).countP (fun i => !listed.getD i true) = 0 := by omega
        rw [List.countP_eq_zero] at h0
        apply List.filter_eq_nil_iff.2
        intro x hx
        have := h0 x hx
        simp only [Bool.not_eq_true, Bool.not_eq_false'] at this
        simp [this]
      exact ⟨hr, hdone listed a w hJ hr⟩
    | succ fuel ih =>
      intro listed a w hJ hc
      refine ⟨fun hr => hdone listed a w hJ hr, fun i hi => ?_⟩
      refine wpOp_mono (fun a' w' hJ' => ih _ a' w' hJ' ?_) (hone listed a w i hJ hi)
      have hi' := hi
      simp only [Region.ready, List.mem_filter, List.mem_range, Bool.and_eq_true, Bool.not_eq_true'] at hi'
      obtain ⟨hlt, hni, _⟩ := hi'
      have hlt2 : i < listed.size := by have := hJ.1; omega
      have key : ∀ l : List Nat, l.Nodup → i ∈ l → l.countP (fun k => !(listed.setIfInBounds i true).getD k true) + 1 = l.countP (fun k => !listed.getD k true) := by
        intro l
        induction l with
        | nil => intro _ h; cases h
        | cons y l ihl =>
          intro hnd hmem
          rw [List.nodup_cons] at hnd
          by_cases hy : y = i
          · subst hy
            have hsame : l.countP (fun k => !(listed.setIfInBounds y true).getD k true) = l.countP (fun k => !listed.getD k true) := by
              apply List.countP_congr
              intro k hk
              have hne : y ≠ k := fun e => hnd.1 (e ▸ hk)
              simp [Array.getD_eq_getD_getElem?, Array.getElem?_setIfInBounds_ne hne]
            have e1 : (listed.setIfInBounds y true).getD y true = true := by simp [Array.getD, hlt2]
            rw [List.countP_cons, List.countP_cons, hsame, e1, hni]
            simp
          · have hmem' : i ∈ l := by rcases List.mem_cons.1 hmem with h | h; exact absurd h.symm hy; exact h
            have e1 : (listed.setIfInBounds i true).getD y true = listed.getD y true := by simp [Array.getD_eq_getD_getElem?, Array.getElem?_setIfInBounds_ne (Ne.symm hy)]
            have := ihl hnd.2 hmem'
            rw [List.countP_cons, List.countP_cons, e1]; omega
      have := key (List.range ops.size) List.nodup_range (List.mem_range.2 hlt)
      omega
  intro a w hs
  refine wp_region_any hm (hany ops.size _ a _ ⟨by simp, ?_, st, ?_, rfl, ?_, ?_⟩ ?_)
  · intro j o ho hl
    have : j < ops.size := (Array.getElem?_eq_some_iff.1 ho).1
    simp [Array.getD, this] at hl
  · obtain ⟨h1, h2, g, h3, h4, h5⟩ := hs
    let w' : World := { w with drawn := w.drawn + 1 }
    have hev : Evo g w g w' := ⟨⟨rfl, rfl, rfl⟩, Nat.le_refl _, fun _ _ h => ⟨h, rfl⟩, fun _ _ h => .inl h, fun _ h => .inl h, fun _ _ _ => rfl, fun _ _ h => h, fun _ m a cap h => ⟨m, a, cap, h, .inr ⟨rfl, rfl, rfl⟩⟩⟩
    have hw' : WOK g w' st.H := ⟨h3.pr, h3.xs, h3.blk, h3.sep, fun id c hc => by
      obtain ⟨b, arr, et, e1, e2, e3, e4, e5⟩ := h3.row id c hc
      exact ⟨b, arr, et, e1, e2, e3, fun k x v hx hv => (e4 k x v hx hv).mono hev, e5⟩, h3.tok, fun id l e s hc => by
      obtain ⟨a, cap, k1, k2, k3, k4⟩ := h3.lst id l e s hc
      refine ⟨a, cap, k1, k2, k3, fun hlt => ?_⟩
      obtain ⟨b, arr, q1, q0, q2, q3, q4, q5⟩ := k4 hlt
      exact ⟨b, arr, q1, q0, q2, q3, q4, fun k x v hx hv => (q5 k x v hx hv).mono hev.pr⟩, fun id x hc => by
      obtain ⟨b, q1, q2, q3, q4⟩ := h3.ob id x hc
      exact ⟨b, q1, x.st hev.w rfl rfl rfl (fun _ _ => rfl) q2, q3, q4⟩, h3.free, h3.kcE hev⟩
    exact ⟨h1, h2, g, hw', h4.trans hev, fun i => (h5 i).mono hev⟩
  · intro x
    refine ⟨0, Nat.zero_le _, by rw [hS0], fun j o ho _ => ?_⟩
    have : j < ops.size := (Array.getElem?_eq_some_iff.1 ho).1
    simp [Array.getD, this]
  · intro x
    refine ⟨0, Nat.zero_le _, by rw [hS0], fun j o ho _ => ?_⟩
    have : j < ops.size := (Array.getElem?_eq_some_iff.1 ho).1
    simp [Array.getD, this]
  · exact Nat.le_trans List.countP_le_length (by simp)

theorem AW.seqD {Q : Exit → St → Prop} {id : Nat} {y : Code} (ann : List (List Nat × List Nat)) (hm : F.P.follows .mixedOrders = true) (hok : okD ops ann = true) (h : AD F ops (AW F y Q) ops.toList ann st) : AW F (.seq (.region id ops true) y) Q st :=
  AW.seq (AW.drawn (Q := thenQ (AW F y Q) Q) ann hm hok h)

/-- Room for what a region will make. -/
theorem AW.free {Q : Exit → St → Prop} {c : Code} {E : Nat → V} {H : List HE} (h : AW F c Q ⟨E, H ++ [.free]⟩) : AW F c Q ⟨E, H⟩ := by
  rintro a w ⟨h1, h2, g, h3, h4, h5⟩
  exact h a w ⟨h1, h2, g, h3.addFree, h4, h5⟩

end

section
variable {P : Program} {ρ : Operand → V} {H : List HE} {ty : TypeId}
theorem op_allocR {t id : Nat} {zs : List Value} (hz : Zr P t zs) (hH : H[id]? = some .free) : OpV P (.alloc t) ty ρ H (.ptr id 0) (H.set id (.row (zs.map absV))) := by
  intro g w r pos after guard dst hw h
  obtain ⟨i, z, hi, hz1, hz2, hz3⟩ := hz.z
  obtain ⟨g', h1, h2, h3⟩ := WOK.new (id := id) (c := zs.map absV) (arr := z.cells) (et := t) hw hH (by simp [← hz2]) (fun k x v hx hv => by
    simp only [List.getElem?_map, Option.map_eq_some_iff] at hx
    obtain ⟨y, hy, rfl⟩ := hx
    rw [← hz2, Array.getElem?_toList, hv] at hy
    obtain rfl := Option.some.inj hy
    exact Rep.absV _ _ _)
  unfold OpRuns
  simp only [execOp, Instr.alloc, Sem.run_bind, run_zeroValue' hi hz1, Result.andThen_ok, newVar, newRow, run_newObj, Sem.run_pure]
  exact ⟨g', h1, h2, .ptr h3⟩
end
end Go.Proofs.YtindppnanjcoaaaGreatDoor.Ab
end
section
namespace Go.Proofs.YtindppnanjcoaaaGreatDoor.Ab
open Go

theorem WOK.g0 {g : G} {w : World} {n : Nat} {H : List HE} (h : WOK g w H) (hn : H.length ≤ n) : ∀ id, n ≤ id → g.σ id = none ∧ g.τ id = none := fun id hid => ⟨(h.free id (.inr (by omega))).1, (h.free id (.inr (by omega))).2.1⟩



section
variable {P : Program} {ρ : Operand → V} {H : List HE} {ty : TypeId}

/- A value that is one of several. -/
theorem run_eq_of {t : TypeId} {x y : Value} {b : Bool} {w : World} (h : ∀ d, (Op.equalIn (d + 1) t x y).run P w = .ok b w) : (Op.equal t x y).run P w = .ok b w := h 9999
/- A piece of a slice: x[lo:hi]. -/
theorem RepD.piece {Pr : Nat → Nat → Prop} {w : World} {l : List D} {a : Option Addr} {cap s lo hi : Nat} (h : RepD Pr w (.sl l) (.slice a l.length cap)) (hs : ∀ x ∈ l, x.cells.length = s) (h1 : lo ≤ hi) (h2 : hi ≤ l.length) :
    RepD Pr w (.sl ((l.take hi).drop lo)) (.slice (if cap = lo then a else a.map (·.add (lo * s))) (hi - lo) (cap - lo)) := by
  generalize hv : Value.slice a l.length cap = v at h
  cases h with
  | sl _ a' cap' s' f hs' hcap hrow hrep =>
    injection hv with e1 e2 e3
    subst e1; subst e3
    have hlen : ((l.take hi).drop lo).length = hi - lo := by simp; omega
    have hmem : ∀ x ∈ (l.take hi).drop lo, x ∈ l := fun x hx => List.mem_of_mem_take (List.mem_of_mem_drop hx)
    have key := RepD.sl (Pr := Pr) (w := w) ((l.take hi).drop lo) (if cap = lo then a else a.map (·.add (lo * s))) (cap - lo) s (fun k => f (lo * s + k)) (fun x hx => hs x (hmem x hx)) (by omega)
      (fun hne => by
        have hlt : lo < hi := by
          rcases Nat.lt_or_ge lo hi with h | h
          · exact h
          · exfalso; apply hne; apply List.eq_nil_of_length_eq_zero; omega
        have hl : l ≠ [] := fun e => by subst e; simp at h2; omega
        obtain ⟨b, o, rfl, hk⟩ := hrow hl
        have hss : s' = s := by
          obtain ⟨x0, hx0⟩ := List.exists_mem_of_ne_nil l hl
          rw [← hs' x0 hx0, hs x0 hx0]
        subst hss
        rw [if_neg (by omega)]
        refine ⟨b, o + lo * s', by simp [Addr.add_none], fun k hkl => ?_⟩
        have hlt2 : lo * s' + k < l.length * s' := by
          have e1 : (hi - lo) * s' = hi * s' - lo * s' := Nat.sub_mul _ _ _
          have e2 : hi * s' ≤ l.length * s' := Nat.mul_le_mul_right _ h2
          have e3 : lo * s' ≤ hi * s' := Nat.mul_le_mul_right _ h1
          rw [hlen, e1] at hkl; omega
        have := hk (lo * s' + k) hlt2
        rwa [← Nat.add_assoc] at this)
      (fun k x hx => by
        refine hrep (lo * s + k) x ?_
        have hk : k < (hi - lo) * s := by
          have := (List.getElem?_eq_some_iff.1 hx).1
          rw [flat_length (fun x hx => hs x (hmem x hx)), hlen] at this; exact this
        have hs0 : 0 < s := by
          rcases Nat.eq_zero_or_pos s with h | h
          · subst h; simp at hk
          · exact h
        have e0 : k = k / s * s + k % s := by rw [Nat.mul_comm]; exact (Nat.div_add_mod k s).symm
        have hq : k / s < hi - lo := Nat.div_lt_of_lt_mul (by rw [Nat.mul_comm]; exact hk)
        have hr : k % s < s := Nat.mod_lt _ hs0
        have hg : ((l.take hi).drop lo)[k / s]? = some l[lo + k / s] := by
          rw [List.getElem?_drop, List.getElem?_take, if_pos (by omega), List.getElem?_eq_getElem]
        rw [e0, flat_get (fun x hx => hs x (hmem x hx)) hg hr] at hx
        have e4 : lo * s + k = (lo + k / s) * s + k % s := by rw [Nat.add_mul]; omega
        rw [e4, flat_get hs (List.getElem?_eq_getElem (by omega)) hr]
        exact hx)
    rwa [hlen] at key

theorem flat_one : ∀ {l : List D}, (∀ x ∈ l, x.cells = [x]) → D.flat l = l
  | [], _ => rfl
  | a :: l, h => by
    have := flat_one (l := l) (fun x hx => h x (by simp [hx]))
    simp only [D.flat, List.flatMap_cons, h a (by simp)] at this ⊢
    rw [this]; rfl

end
end Go.Proofs.YtindppnanjcoaaaGreatDoor.Ab
end
section
namespace Go.Proofs.YtindppnanjcoaaaGreatDoor.Ab
open Go

theorem getD_some {α : Type} {l : List α} {k : Nat} {d : α} (h : k < l.length) : l[k]? = some (l.getD k d) := by simp [List.getD, h]
theorem w64 {x : Int} (h1 : -9223372036854775808 ≤ x) (h2 : x ≤ 9223372036854775807) : IntKind.i64.wrap x = x := IntWalk.i64_in x ⟨h1, h2⟩
section
variable {P : Program} {ρ : Operand → V} {H : List HE} {ty : TypeId}
theorem op_lenN {x : Operand} {t e s bytes n : Nat} {l : List D} (hx : As (ρ x) (.sl l)) (hl : l.length = n) (ht : SlT P t e s bytes) : OpV P (.call ⟨.builtin .len, #[x], #[t]⟩) ty ρ H (.d (.int .i64 (n : Int))) H := hl ▸ op_len hx ht
theorem op_loadA {x : Operand} {t n : Nat} {c : List D} (hx : Is (ρ x) (.vp c 0)) (hn : c.length = n) (ht : Ag P t n) : OpV P (.load t x) ty ρ H (.d (.agg c)) H :=
  op_load_vpA hx (by simp [← hn]) hn ht
end

/- A heap that is known less of. -/
inductive LeC : List V → List V → Prop
  | nil : LeC [] []
  | cons {v u : V} {c d : List V} : Le v u → LeC c d → LeC (v :: c) (u :: d)
inductive LeH : List HE → List HE → Prop
  | nil : LeH [] []
  | same {e : HE} {H H' : List HE} : LeH H H' → LeH (e :: H) (e :: H')
  | kill {e : HE} {H H' : List HE} : LeH H H' → LeH (e :: H) (.dead :: H')
  | row {c d : List V} {H H' : List HE} : LeC c d → LeH H H' → LeH (.row c :: H) (.row d :: H')

theorem LeC.get {c d : List V} (h : LeC c d) : c.length = d.length ∧ ∀ (i : Nat) u, d[i]? = some u → ∃ v, c[i]? = some v ∧ Le v u := by
  induction h with
  | nil => simp
  | cons hv _ ih =>
    refine ⟨by simp [ih.1], fun i u hu => ?_⟩
    cases i with
    | zero => simp only [List.getElem?_cons_zero, Option.some.injEq] at hu; subst hu; exact ⟨_, rfl, hv⟩
    | succ i => exact ih.2 i u (by simpa using hu)

theorem LeH.get {H H' : List HE} (h : LeH H H') : H.length = H'.length ∧ ∀ (i : Nat) e, H'[i]? = some e → ∃ e0, H[i]? = some e0 ∧ (e0 = e ∨ (e = .dead ∧ True) ∨ ∃ c d, e0 = .row c ∧ e = .row d ∧ LeC c d) := by
  induction h with
  | nil => simp
  | same _ ih =>
    refine ⟨by simp [ih.1], fun i e he => ?_⟩
    cases i with
    | zero => exact ⟨_, rfl, .inl (by simpa using he)⟩
    | succ i => exact ih.2 i e (by simpa using he)
  | kill _ ih =>
    refine ⟨by simp [ih.1], fun i e he => ?_⟩
    cases i with
    | zero => exact ⟨_, rfl, .inr (.inl ⟨by simpa using he.symm, trivial⟩)⟩
    | succ i => exact ih.2 i e (by simpa using he)
  | row hc _ ih =>
    refine ⟨by simp [ih.1], fun i e he => ?_⟩
    cases i with
    | zero => exact ⟨_, rfl, .inr (.inr ⟨_, _, rfl, by simpa using he.symm, hc⟩)⟩
    | succ i => exact ih.2 i e (by simpa using he)

/- Searching. -/
section
variable {P : Program} {ρ : Operand → V} {H : List HE} {ty : TypeId} {α : Type} {f : α → D} {l : List α}
end

/-- A way that cannot be. -/
theorem EndQ.of {P : Program} {rs : List ResultVar} {R : V → List HE → Prop} {e : Exit} {st : St} (h : False) : EndQ P rs R e st := h.elim

/- Literals of arrays with every place given, in order: what they hold is the parts put together. -/
def catV : List (Nat × List V) → List V
  | [] => []
  | (_, c) :: r => c ++ catV r
def inRow (s : Nat) : Nat → List (Nat × List V) → Bool
  | _, [] => true
  | off, (o, c) :: r => o == off && (c.length == s && inRow s (off + s) r)
theorem fillV_cat {s : Nat} : ∀ {q : List (Nat × List V)} {pre rest : List V}, inRow s pre.length q = true → rest.length = q.length * s → fillV (pre ++ rest) q = pre ++ catV q
  | [], pre, rest, _, hr => by
    have : rest = [] := List.eq_nil_of_length_eq_zero (by simpa using hr)
    simp [fillV, catV, this]
  | (off, c) :: r, pre, rest, hq, hr => by
    simp only [inRow, Bool.and_eq_true, beq_iff_eq] at hq
    obtain ⟨h1, h2, h3⟩ := hq
    simp only [List.length_cons, Nat.succ_mul] at hr
    have hsp : splice (pre ++ rest) off c = (pre ++ c) ++ rest.drop s := by
      simp only [splice_eq, h1, h2]
      rw [List.take_left', List.drop_append]
      · simp
      · rfl
    have := fillV_cat (s := s) (q := r) (pre := pre ++ c) (rest := rest.drop s) (by rw [List.length_append, h2]; exact h3) (by rw [List.length_drop]; omega)
    rw [fillV, hsp, this, catV, List.append_assoc]
theorem op_buildArrF {P : Program} {ρ : Operand → V} {H : List HE} {ty t n e s : Nat} {zs : List Value} {ps : Array (Nat × Operand)} {q : List (Nat × List V)} (hb : Ba P t zs n e s)
    (hp : Parts ρ ((List.range n).map fun i => (i * s, s)) zs.length ps.toList q) (ho : inRow s 0 q = true) (hl : zs.length = q.length * s) :
    OpV P (.build t ps) ty ρ H (.agg (catV q)) H := by
  have := op_buildArr (ty := ty) (H := H) hb hp
  have e := fillV_cat (s := s) (q := q) (pre := []) (rest := zs.map absV) ho (by simpa using hl)
  rw [List.nil_append, List.nil_append] at e
  rw [e] at this
  exact this

/- Plain data: one cell each. -/
def D.pl : D → Bool
  | .agg _ | .tup _ | .raw _ => false
  | _ => true
/- The rules of single steps over a state that is written as a pair: so the state's text does not double. -/
section
variable {F : FC} {K : St → Prop} {E : Nat → V} {H : List HE} {ops : Array Oper} {dst : Option Nat} {o : Op} {ty : TypeId} {pos : String} {after : Array Edge} {rest : List Oper} {v : V} {j t : Nat} {b p : Bool} {rd wr : List Nat} {ann : List (List Nat × List Nat)}
theorem AL.s {H' : List HE} (hd : dlt dst F.n = true) (h : OpV F.P o ty (ρ E) H v H') (k : AL F ops K rest ⟨updO E dst v, H'⟩) : AL F ops K (⟨dst, o, ty, pos, after, none⟩ :: rest) ⟨E, H⟩ := AL.step hd h k
theorem AL.sT (hj : (ops[j]?).bind (·.dst) = some t) (htn : Nat.blt t F.n = true) (hb : E t = .d (.bool b)) (hd : dlt dst F.n = true)
    (h : b = true → OpV F.P o ty (ρ E) H v H) (k : AL F ops K rest ⟨updO E dst (.when b v), H⟩) : AL F ops K (⟨dst, o, ty, pos, after, some (j, true)⟩ :: rest) ⟨E, H⟩ := AL.stepT hj htn hb hd h k
theorem AL.sF (hj : (ops[j]?).bind (·.dst) = some t) (htn : Nat.blt t F.n = true) (hb : E t = .d (.bool b)) (hd : dlt dst F.n = true)
    (h : b = false → OpV F.P o ty (ρ E) H v H) (k : AL F ops K rest ⟨updO E dst (.when (!b) v), H⟩) : AL F ops K (⟨dst, o, ty, pos, after, some (j, false)⟩ :: rest) ⟨E, H⟩ := AL.stepF hj htn hb hd h k
theorem AD.s {ws : List (Nat × HE)} (hd : dlt dst F.n = true) (hw : wr = ws.map (·.1)) (h : ∀ H', H'.length = H.length → (∀ id, id ∈ rd ++ ws.map (·.1) → H'[id]? = H[id]?) → OpV F.P o ty (ρ E) H' v (setL H' ws))
    (k : AD F ops K rest ann ⟨updO E dst v, setL H ws⟩) : AD F ops K (⟨dst, o, ty, pos, after, none⟩ :: rest) ((rd, wr) :: ann) ⟨E, H⟩ := AD.step hd hw h k
theorem AD.sT (hj : (ops[j]?).bind (·.dst) = some t) (htn : Nat.blt t F.n = true) (hb : E t = .d (.bool b)) (hd : dlt dst F.n = true)
    (h : b = true → ∀ H', H'.length = H.length → (∀ id, id ∈ rd → H'[id]? = H[id]?) → OpV F.P o ty (ρ E) H' v H') (k : AD F ops K rest ann ⟨updO E dst (.when b v), H⟩) :
    AD F ops K (⟨dst, o, ty, pos, after, some (j, true)⟩ :: rest) ((rd, []) :: ann) ⟨E, H⟩ := AD.stepT hj htn hb hd h k
theorem AD.sF (hj : (ops[j]?).bind (·.dst) = some t) (htn : Nat.blt t F.n = true) (hb : E t = .d (.bool b)) (hd : dlt dst F.n = true)
    (h : b = false → ∀ H', H'.length = H.length → (∀ id, id ∈ rd → H'[id]? = H[id]?) → OpV F.P o ty (ρ E) H' v H') (k : AD F ops K rest ann ⟨updO E dst (.when (!b) v), H⟩) :
    AD F ops K (⟨dst, o, ty, pos, after, some (j, false)⟩ :: rest) ((rd, []) :: ann) ⟨E, H⟩ := AD.stepF hj htn hb hd h k
end
section
variable {P : Program} {ρ : Operand → V} {H : List HE} {ty : TypeId}
theorem op_storeA {x y : Operand} {t n id off : Nat} {c cs : List V} (hx : Is (ρ x) (.ptr id off)) (hy : Is (ρ y) (.agg cs)) (hH : H[id]? = some (.row c)) (h1 : cs.all V.one = true)
    (hsz : ∃ i, P.info? t = some i ∧ i.size = n) (hn : cs.length = n) (hle : off + n ≤ c.length) : OpV P (.store t x y) ty ρ H .any (H.set id (.row (splice c off cs))) := op_store hx hy hH rfl h1 hsz hn hle
end
end Go.Proofs.YtindppnanjcoaaaGreatDoor.Ab
end
