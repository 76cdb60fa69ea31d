/- Small lemmas that the printed walks use. Conditions: none. -/
import Derived.Test.YtgcmhhcopeiomaaAb9
import Derived.IntWalk
namespace Go.Proofs.Ytgcmhhcopeiomaa.Ab
open Go

theorem getMap {α β : Type} {f : α → β} {l : List α} {k : Nat} (h : k < l.length) : (l.map f)[k]? = some (f l[k]) := by simp [h]
theorem getD_some {α : Type} {l : List α} {k : Nat} {d : α} (h : k < l.length) : l[k]? = some (l.getD k d) := by simp [List.getD, h]
theorem getMapD {α β : Type} {f : α → β} {l : List α} {k : Nat} {d : α} (h : k < l.length) : (l.map f)[k]? = some (f (l.getD k d)) := by simp [List.getD, h]
theorem w64 {x : Int} (h1 : -9223372036854775808 ≤ x) (h2 : x ≤ 9223372036854775807) : IntKind.i64.wrap x = x := IntWalk.i64_in x ⟨h1, h2⟩
theorem quo64 {a b : Int} (ha : 0 ≤ a) (hb : 0 < b) (h2 : a ≤ 9223372036854775807) : IntKind.i64.wrap (a.tdiv b) = a / b := by
  have h0 : a.tdiv b = a / b := Int.tdiv_eq_ediv_of_nonneg ha
  have h3 : a / b ≤ a := Int.ediv_le_self b ha
  have h4 : 0 ≤ a / b := Int.ediv_nonneg ha (by omega)
  rw [h0]; exact w64 (by omega) (by omega)
theorem rem64 {a b : Int} (ha : 0 ≤ a) : a.tmod b = a % b := Int.tmod_eq_emod_of_nonneg ha

section
variable {P : Program} {ρ : Operand → V} {H : List HE} {ty : TypeId}
theorem op_lenN {x : Operand} {t e s bytes n : Nat} {l : List D} (hx : As (ρ x) (.sl l)) (hl : l.length = n) (ht : SlT P t e s bytes) : OpV P (.call ⟨.builtin .len, #[x], #[t]⟩) ty ρ H (.d (.int .i64 (n : Int))) H := hl ▸ op_len hx ht
theorem op_loadA {x : Operand} {t n : Nat} {c : List D} (hx : Is (ρ x) (.vp c 0)) (hn : c.length = n) (ht : Ag P t n) : OpV P (.load t x) ty ρ H (.d (.agg c)) H :=
  op_load_vpA hx (by simp [← hn]) hn ht
end

/- A heap that is known less of. -/
inductive LeC : List V → List V → Prop
  | nil : LeC [] []
  | cons {v u : V} {c d : List V} : Le v u → LeC c d → LeC (v :: c) (u :: d)
inductive LeH : List HE → List HE → Prop
  | nil : LeH [] []
  | same {e : HE} {H H' : List HE} : LeH H H' → LeH (e :: H) (e :: H')
  | kill {e : HE} {H H' : List HE} : LeH H H' → LeH (e :: H) (.dead :: H')
  | row {c d : List V} {H H' : List HE} : LeC c d → LeH H H' → LeH (.row c :: H) (.row d :: H')

theorem LeC.get {c d : List V} (h : LeC c d) : c.length = d.length ∧ ∀ (i : Nat) u, d[i]? = some u → ∃ v, c[i]? = some v ∧ Le v u := by
  induction h with
  | nil => simp
  | cons hv _ ih =>
    refine ⟨by simp [ih.1], fun i u hu => ?_⟩
    cases i with
    | zero => simp only [List.getElem?_cons_zero, Option.some.injEq] at hu; subst hu; exact ⟨_, rfl, hv⟩
    | succ i => exact ih.2 i u (by simpa using hu)

theorem LeH.get {H H' : List HE} (h : LeH H H') : H.length = H'.length ∧ ∀ (i : Nat) e, H'[i]? = some e → ∃ e0, H[i]? = some e0 ∧ (e0 = e ∨ (e = .dead ∧ True) ∨ ∃ c d, e0 = .row c ∧ e = .row d ∧ LeC c d) := by
  induction h with
  | nil => simp
  | same _ ih =>
    refine ⟨by simp [ih.1], fun i e he => ?_⟩
    cases i with
    | zero => exact ⟨_, rfl, .inl (by simpa using he)⟩
    | succ i => exact ih.2 i e (by simpa using he)
  | kill _ ih =>
    refine ⟨by simp [ih.1], fun i e he => ?_⟩
    cases i with
    | zero => exact ⟨_, rfl, .inr (.inl ⟨by simpa using he.symm, trivial⟩)⟩
    | succ i => exact ih.2 i e (by simpa using he)
  | row hc _ ih =>
    refine ⟨by simp [ih.1], fun i e he => ?_⟩
    cases i with
    | zero => exact ⟨_, rfl, .inr (.inr ⟨_, _, rfl, by simpa using he.symm, hc⟩)⟩
    | succ i => exact ih.2 i e (by simpa using he)

theorem WOK.relax {g : G} {w : World} {H H' : List HE} (hw : WOK g w H) (h : LeH H H') (hf : ∀ (i : Nat), H'[i]? = some .free → H[i]? = some .free) : WOK g w H' := by
  obtain ⟨hl, hg⟩ := h.get
  have hblk : ∀ (i : Nat) e b, H'[i]? = some e → g.blk i e b → ∃ e0, H[i]? = some e0 ∧ g.blk i e0 b := by
    intro i e b he hb
    obtain ⟨e0, h0, h1⟩ := hg i e he
    rcases h1 with rfl | ⟨rfl, _⟩ | ⟨c, d, rfl, rfl, _⟩
    · exact ⟨e0, h0, hb⟩
    · simp [G.blk] at hb
    · exact ⟨_, h0, hb⟩
  refine ⟨hw.pr, hw.xs, ?_, ?_, ?_, ?_, ?_, ?_, ?_, hw.kc⟩
  · intro i e b he hb
    obtain ⟨e0, h0, h1⟩ := hblk i e b he hb
    exact hw.blk i e0 b h0 h1
  · intro i i' e e' b he he' hb hb'
    obtain ⟨e0, h0, h1⟩ := hblk i e b he hb
    obtain ⟨e1, h2, h3⟩ := hblk i' e' b he' hb'
    exact hw.sep i i' e0 e1 b h0 h2 h1 h3
  · intro i d hd
    obtain ⟨e0, h0, h1⟩ := hg i _ hd
    rcases h1 with rfl | ⟨h1, _⟩ | ⟨c, d', rfl, h1, hc⟩
    · exact hw.row i d h0
    · cases h1
    · injection h1 with h1
      subst h1
      obtain ⟨b, arr, et, e1, e2, e3, e4, e5⟩ := hw.row i c h0
      obtain ⟨k1, k2⟩ := hc.get
      refine ⟨b, arr, et, e1, e2, by omega, fun k x v hx hv => ?_, e5⟩
      obtain ⟨y, hy, hle⟩ := k2 k x hx
      exact hle.rep (e4 k y v hy hv)
  · intro i n e s hd
    obtain ⟨e0, h0, h1⟩ := hg i _ hd
    rcases h1 with rfl | ⟨h1, _⟩ | ⟨c, d', _, h1, _⟩
    · exact hw.tok i n e s h0
    · cases h1
    · cases h1
  · intro i l e s hd
    obtain ⟨e0, h0, h1⟩ := hg i _ hd
    rcases h1 with rfl | ⟨h1, _⟩ | ⟨c, d', _, h1, _⟩
    · exact hw.lst i l e s h0
    · cases h1
    · cases h1
  · intro i x hd
    obtain ⟨e0, h0, h1⟩ := hg i _ hd
    rcases h1 with rfl | ⟨h1, _⟩ | ⟨c, d', _, h1, _⟩
    · exact hw.ob i x h0
    · cases h1
    · cases h1
  · intro i hi
    refine hw.free i ?_
    rcases hi with hi | hi
    · exact .inl (hf i hi)
    · exact .inr (by omega)

theorem AW.relax {F : FC} {Q : Exit → St → Prop} {c : Code} {E : Nat → V} {H : List HE} (H' : List HE) (h : LeH H H') (hf : ∀ (i : Nat), H'[i]? = some .free → H[i]? = some .free) (k : AW F c Q ⟨E, H'⟩) : AW F c Q ⟨E, H⟩ := by
  rintro a w ⟨h1, h2, g, h3, h4, h5⟩
  exact k a w ⟨h1, h2, g, h3.relax h hf, h4, h5⟩

def noFree : List HE → Bool
  | [] => true
  | .free :: _ => false
  | _ :: r => noFree r
theorem noFree_spec : ∀ {H : List HE}, noFree H = true → ∀ (i : Nat), H[i]? ≠ some .free
  | [], _, i => by simp
  | e :: r, h, 0 => by cases e <;> simp_all [noFree]
  | e :: r, h, i + 1 => by
    have : noFree r = true := by cases e <;> simp_all [noFree]
    simpa using noFree_spec this i

/- Searching. -/
def idxOf {α : Type} (p : α → Bool) (l : List α) : Int := match l.findIdx? p with | some i => (i : Int) | none => -1
theorem idxOf_some {α : Type} {p : α → Bool} {l : List α} {k : Nat} (hk : k < l.length) (h : p l[k] = true) (hb : ∀ (j : Nat) (h : j < l.length), j < k → p l[j] = false) : idxOf p l = (k : Int) := by
  have : l.findIdx? p = some k := by
    rw [List.findIdx?_eq_some_iff_getElem]
    exact ⟨hk, h, fun j hj => by simpa using hb j (by omega) hj⟩
  simp [idxOf, this]
theorem idxOf_none {α : Type} {p : α → Bool} {l : List α} (hb : ∀ (j : Nat) (h : j < l.length), p l[j] = false) : idxOf p l = -1 := by
  have : l.findIdx? p = none := by
    rw [List.findIdx?_eq_none_iff]
    intro x hx
    obtain ⟨j, hj, rfl⟩ := List.getElem_of_mem hx
    exact hb j hj
  simp [idxOf, this]
theorem idxOf_any {α : Type} (p : α → Bool) (l : List α) : decide (0 ≤ idxOf p l) = l.any p := by
  unfold idxOf
  cases h : l.findIdx? p with
  | none =>
    rw [List.findIdx?_eq_none_iff] at h
    have : l.any p = false := by rw [List.any_eq_false]; intro x hx; simp [h x hx]
    rw [this]; rfl
  | some i =>
    rw [List.findIdx?_eq_some_iff_getElem] at h
    obtain ⟨hi, hp, _⟩ := h
    have : l.any p = true := List.any_eq_true.2 ⟨l[i], List.getElem_mem hi, hp⟩
    rw [this]; simp

section
variable {P : Program} {ρ : Operand → V} {H : List HE} {ty : TypeId} {α : Type} {f : α → D} {l : List α}
theorem op_sliceTo {x b : Operand} {t e s bytes hi : Nat} {n : Int} (hx : As (ρ x) (.sl (l.map f))) (ht : SlT P t e s bytes) (hb : As (ρ b) (.int .i64 n)) (hn : n = (hi : Int)) (h2 : hi ≤ l.length) (hs : ∀ x, (f x).cells.length = s) :
    OpV P (.slice t x none (some b) none) ty ρ H (.d (.sl ((l.take hi).map f))) H := by
  have := op_slice (ty := ty) (H := H) (lo := 0) (hi := hi) (a := none) (b := some b) hx ht rfl ⟨n, hb, hn⟩ (Nat.zero_le _) (by simpa using h2) (fun y hy => by
    simp only [List.mem_map] at hy; obtain ⟨z, _, rfl⟩ := hy; exact hs z)
  simpa [List.map_take] using this
theorem op_sliceFrom {x a : Operand} {t e s bytes lo : Nat} {n : Int} (hx : As (ρ x) (.sl (l.map f))) (ht : SlT P t e s bytes) (ha : As (ρ a) (.int .i64 n)) (hn : n = (lo : Int)) (h2 : lo ≤ l.length) (hs : ∀ x, (f x).cells.length = s) :
    OpV P (.slice t x (some a) none none) ty ρ H (.d (.sl ((l.drop lo).map f))) H := by
  have := op_slice (ty := ty) (H := H) (lo := lo) (hi := l.length) (a := some a) (b := none) hx ht ⟨n, ha, hn⟩ (by simp [hiV]) h2 (by simp) (fun y hy => by
    simp only [List.mem_map] at hy; obtain ⟨z, _, rfl⟩ := hy; exact hs z)
  have e : (List.take l.length (l.map f)).drop lo = (l.drop lo).map f := by
    rw [List.take_of_length_le (by simp), List.map_drop]
  rwa [e] at this
end

/-- A way that cannot be. -/
theorem EndQ.of {P : Program} {rs : List ResultVar} {R : V → List HE → Prop} {e : Exit} {st : St} (h : False) : EndQ P rs R e st := h.elim

/- Literals of arrays with every place given, in order: what they hold is the parts put together. -/
def catV : List (Nat × List V) → List V
  | [] => []
  | (_, c) :: r => c ++ catV r
def inRow (s : Nat) : Nat → List (Nat × List V) → Bool
  | _, [] => true
  | off, (o, c) :: r => o == off && (c.length == s && inRow s (off + s) r)
theorem fillV_cat {s : Nat} : ∀ {q : List (Nat × List V)} {pre rest : List V}, inRow s pre.length q = true → rest.length = q.length * s → fillV (pre ++ rest) q = pre ++ catV q
  | [], pre, rest, _, hr => by
    have : rest = [] := List.eq_nil_of_length_eq_zero (by simpa using hr)
    simp [fillV, catV, this]
  | (off, c) :: r, pre, rest, hq, hr => by
    simp only [inRow, Bool.and_eq_true, beq_iff_eq] at hq
    obtain ⟨h1, h2, h3⟩ := hq
    simp only [List.length_cons, Nat.succ_mul] at hr
    have hsp : splice (pre ++ rest) off c = (pre ++ c) ++ rest.drop s := by
      simp only [splice_eq, h1, h2]
      rw [List.take_left', List.drop_append]
      · simp
      · rfl
    have := fillV_cat (s := s) (q := r) (pre := pre ++ c) (rest := rest.drop s) (by rw [List.length_append, h2]; exact h3) (by rw [List.length_drop]; omega)
    rw [fillV, hsp, this, catV, List.append_assoc]
theorem op_buildArrF {P : Program} {ρ : Operand → V} {H : List HE} {ty t n e s : Nat} {zs : List Value} {ps : Array (Nat × Operand)} {q : List (Nat × List V)} (hb : Ba P t zs n e s)
    (hp : Parts ρ ((List.range n).map fun i => (i * s, s)) zs.length ps.toList q) (ho : inRow s 0 q = true) (hl : zs.length = q.length * s) :
    OpV P (.build t ps) ty ρ H (.agg (catV q)) H := by
  have := op_buildArr (ty := ty) (H := H) hb hp
  have e := fillV_cat (s := s) (q := q) (pre := []) (rest := zs.map absV) ho (by simpa using hl)
  rw [List.nil_append, List.nil_append] at e
  rw [e] at this
  exact this

/- Plain data: one cell each. -/
def D.pl : D → Bool
  | .agg _ | .tup _ | .raw _ => false
  | _ => true
theorem asz_pl {l : List D} (h : l.all D.pl = true) : ∀ x ∈ l, x.cells.length = 1 := by
  rw [List.all_eq_true] at h; intro x hx; have := h x hx; cases x <;> simp_all [D.pl, D.cells]
theorem aone_pl {l : List D} (h : l.all D.pl = true) : ∀ x ∈ l, ∀ y ∈ x.cells, y.one = true := by
  rw [List.all_eq_true] at h; intro x hx; have := h x hx; cases x <;> simp_all [D.pl, D.cells, D.one]
/- The rules of single steps over a state that is written as a pair: so the state's text does not double. -/
section
variable {F : FC} {K : St → Prop} {E : Nat → V} {H : List HE} {ops : Array Oper} {dst : Option Nat} {o : Op} {ty : TypeId} {pos : String} {after : Array Edge} {rest : List Oper} {v : V} {j t : Nat} {b p : Bool} {rd wr : List Nat} {ann : List (List Nat × List Nat)}
theorem AL.s {H' : List HE} (hd : dlt dst F.n = true) (h : OpV F.P o ty (ρ E) H v H') (k : AL F ops K rest ⟨updO E dst v, H'⟩) : AL F ops K (⟨dst, o, ty, pos, after, none⟩ :: rest) ⟨E, H⟩ := AL.step hd h k
theorem AL.sT (hj : (ops[j]?).bind (·.dst) = some t) (htn : Nat.blt t F.n = true) (hb : E t = .d (.bool b)) (hd : dlt dst F.n = true)
    (h : b = true → OpV F.P o ty (ρ E) H v H) (k : AL F ops K rest ⟨updO E dst (.when b v), H⟩) : AL F ops K (⟨dst, o, ty, pos, after, some (j, true)⟩ :: rest) ⟨E, H⟩ := AL.stepT hj htn hb hd h k
theorem AL.sF (hj : (ops[j]?).bind (·.dst) = some t) (htn : Nat.blt t F.n = true) (hb : E t = .d (.bool b)) (hd : dlt dst F.n = true)
    (h : b = false → OpV F.P o ty (ρ E) H v H) (k : AL F ops K rest ⟨updO E dst (.when (!b) v), H⟩) : AL F ops K (⟨dst, o, ty, pos, after, some (j, false)⟩ :: rest) ⟨E, H⟩ := AL.stepF hj htn hb hd h k
theorem AL.sTT (hj : (ops[j]?).bind (·.dst) = some t) (htn : Nat.blt t F.n = true) (hb : E t = .when p (.d (.bool b))) (hd : dlt dst F.n = true)
    (h : p = true → b = true → OpV F.P o ty (ρ E) H v H) (k : AL F ops K rest ⟨updO E dst (.when (p && b) v), H⟩) : AL F ops K (⟨dst, o, ty, pos, after, some (j, true)⟩ :: rest) ⟨E, H⟩ := AL.stepTT hj htn hb hd h k
theorem AL.sFF (hj : (ops[j]?).bind (·.dst) = some t) (htn : Nat.blt t F.n = true) (hb : E t = .when p (.d (.bool b))) (hd : dlt dst F.n = true)
    (h : p = true → b = false → OpV F.P o ty (ρ E) H v H) (k : AL F ops K rest ⟨updO E dst (.when (p && !b) v), H⟩) : AL F ops K (⟨dst, o, ty, pos, after, some (j, false)⟩ :: rest) ⟨E, H⟩ := AL.stepFF hj htn hb hd h k
theorem AL.sE {R : V → Prop} (hd : dlt dst F.n = true) (h : OpVE F.P o ty (ρ E) H R) (k : ∀ v, R v → AL F ops K rest ⟨updO E dst v, H⟩) : AL F ops K (⟨dst, o, ty, pos, after, none⟩ :: rest) ⟨E, H⟩ := AL.stepE hd h k
theorem AD.s {ws : List (Nat × HE)} (hd : dlt dst F.n = true) (hw : wr = ws.map (·.1)) (h : ∀ H', H'.length = H.length → (∀ id, id ∈ rd ++ ws.map (·.1) → H'[id]? = H[id]?) → OpV F.P o ty (ρ E) H' v (setL H' ws))
    (k : AD F ops K rest ann ⟨updO E dst v, setL H ws⟩) : AD F ops K (⟨dst, o, ty, pos, after, none⟩ :: rest) ((rd, wr) :: ann) ⟨E, H⟩ := AD.step hd hw h k
theorem AD.sT (hj : (ops[j]?).bind (·.dst) = some t) (htn : Nat.blt t F.n = true) (hb : E t = .d (.bool b)) (hd : dlt dst F.n = true)
    (h : b = true → ∀ H', H'.length = H.length → (∀ id, id ∈ rd → H'[id]? = H[id]?) → OpV F.P o ty (ρ E) H' v H') (k : AD F ops K rest ann ⟨updO E dst (.when b v), H⟩) :
    AD F ops K (⟨dst, o, ty, pos, after, some (j, true)⟩ :: rest) ((rd, []) :: ann) ⟨E, H⟩ := AD.stepT hj htn hb hd h k
theorem AD.sF (hj : (ops[j]?).bind (·.dst) = some t) (htn : Nat.blt t F.n = true) (hb : E t = .d (.bool b)) (hd : dlt dst F.n = true)
    (h : b = false → ∀ H', H'.length = H.length → (∀ id, id ∈ rd → H'[id]? = H[id]?) → OpV F.P o ty (ρ E) H' v H') (k : AD F ops K rest ann ⟨updO E dst (.when (!b) v), H⟩) :
    AD F ops K (⟨dst, o, ty, pos, after, some (j, false)⟩ :: rest) ((rd, []) :: ann) ⟨E, H⟩ := AD.stepF hj htn hb hd h k
theorem AD.sTT (hj : (ops[j]?).bind (·.dst) = some t) (htn : Nat.blt t F.n = true) (hb : E t = .when p (.d (.bool b))) (hd : dlt dst F.n = true)
    (h : p = true → b = true → ∀ H', H'.length = H.length → (∀ id, id ∈ rd → H'[id]? = H[id]?) → OpV F.P o ty (ρ E) H' v H') (k : AD F ops K rest ann ⟨updO E dst (.when (p && b) v), H⟩) :
    AD F ops K (⟨dst, o, ty, pos, after, some (j, true)⟩ :: rest) ((rd, []) :: ann) ⟨E, H⟩ := AD.stepTT hj htn hb hd h k
theorem AD.sFF (hj : (ops[j]?).bind (·.dst) = some t) (htn : Nat.blt t F.n = true) (hb : E t = .when p (.d (.bool b))) (hd : dlt dst F.n = true)
    (h : p = true → b = false → ∀ H', H'.length = H.length → (∀ id, id ∈ rd → H'[id]? = H[id]?) → OpV F.P o ty (ρ E) H' v H') (k : AD F ops K rest ann ⟨updO E dst (.when (p && !b) v), H⟩) :
    AD F ops K (⟨dst, o, ty, pos, after, some (j, false)⟩ :: rest) ((rd, []) :: ann) ⟨E, H⟩ := AD.stepFF hj htn hb hd h k
end
section
variable {P : Program} {ρ : Operand → V} {H : List HE} {ty : TypeId}
theorem op_storeD {x y : Operand} {t id off : Nat} {c : List V} {z : D} (hx : Is (ρ x) (.ptr id off)) (hy : Is (ρ y) (.d z)) (hH : H[id]? = some (.row c)) (hv : V.cs (.d z) = [.d z]) (h1 : V.one (.d z) = true)
    (hsz : ∃ i, P.info? t = some i ∧ i.size = 1) (hle : off + 1 ≤ c.length) : OpV P (.store t x y) ty ρ H .any (H.set id (.row (splice c off [.d z]))) := op_store hx hy hH hv (by simp [h1]) hsz rfl hle
theorem op_storeA {x y : Operand} {t n id off : Nat} {c cs : List V} (hx : Is (ρ x) (.ptr id off)) (hy : Is (ρ y) (.agg cs)) (hH : H[id]? = some (.row c)) (h1 : cs.all V.one = true)
    (hsz : ∃ i, P.info? t = some i ∧ i.size = n) (hn : cs.length = n) (hle : off + n ≤ c.length) : OpV P (.store t x y) ty ρ H .any (H.set id (.row (splice c off cs))) := op_store hx hy hH rfl h1 hsz hn hle
end
end Go.Proofs.Ytgcmhhcopeiomaa.Ab
