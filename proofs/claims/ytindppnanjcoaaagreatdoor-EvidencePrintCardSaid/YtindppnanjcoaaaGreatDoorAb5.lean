/- Operations on texts, slices and rows of memory over abstract states. Calls, closures, literals of structs and slices, growing lists; entering and leaving a function. Conditions: none. -/
import Derived.Test.YtindppnanjcoaaaGreatDoorAb3
section
namespace Go.Proofs.YtindppnanjcoaaaGreatDoor.Ab
open Go

theorem ba_size (s : List UInt8) : (⟨s.toArray⟩ : ByteArray).size = s.length := by simp [ByteArray.size]
section
variable {P : Program} {ρ : Operand → V} {H : List HE} {ty : TypeId}

/- Texts. -/
section strs
variable {x y : Operand} {t u : TypeId} {s s' : List UInt8}
theorem beqL_dec (a b : List UInt8) : (a == b) = decide (a = b) := by by_cases h : a = b <;> simp [h]
theorem op_neqS (hx : As (ρ x) (.str s)) (hy : As (ρ y) (.str s')) : OpV P (.binOp .neq t x y u) ty ρ H (.d (.bool (!decide (s = s')))) H :=
  OpV.of_val fun _ _ _ _ h => ⟨.bool (!decide (s = s')), fun _ _ _ _ => by simp [execOp, hx.str (h x (by simp [Op.operands])), hy.str (h y (by simp [Op.operands])), eqGuard, binOp, Op.stringOp, beqL_dec], .d (.bool _)⟩
theorem op_addS (hx : As (ρ x) (.str s)) (hy : As (ρ y) (.str s')) (hl : s.length + s'.length ≤ 9223372036854775807) : OpV P (.binOp .add t x y u) ty ρ H (.d (.str (s ++ s'))) H :=
  OpV.of_val fun _ _ _ _ h => ⟨.string ⟨(s ++ s').toArray⟩, fun _ _ _ _ => by
    have e : ¬ (((s.length + s'.length : Nat) : Int) > IntKind.i64.max) := by simp [IntKind.max, IntKind.signed, IntKind.bits]; omega
    have e2 : (⟨s.toArray⟩ : ByteArray) ++ ⟨s'.toArray⟩ = ⟨(s ++ s').toArray⟩ := by
      apply ByteArray.ext; simp
    simp [execOp, hx.str (h x (by simp [Op.operands])), hy.str (h y (by simp [Op.operands])), eqGuard, binOp, Op.stringOp, ba_size, e2]
    omega, .d (.str _)⟩
end strs

/- Slices that are read. -/
theorem flat_get : ∀ {l : List D} {s : Nat}, (∀ x ∈ l, x.cells.length = s) → ∀ {k j : Nat} {e : D}, l[k]? = some e → j < s → (D.flat l)[k * s + j]? = e.cells[j]?
  | [], _, _, k, _, _, h, _ => by simp at h
  | a :: l, s, hs, 0, j, e, h, hj => by
    simp only [List.getElem?_cons_zero, Option.some.injEq] at h
    subst h
    have ha := hs a (by simp)
    simp only [D.flat, List.flatMap_cons, Nat.zero_mul, Nat.zero_add]
    rw [List.getElem?_append_left (by omega)]
  | a :: l, s, hs, k + 1, j, e, h, hj => by
    have ha := hs a (by simp)
    have ih := flat_get (l := l) (s := s) (fun x hx => hs x (by simp [hx])) (k := k) (j := j) (e := e) (by simpa using h) hj
    simp only [D.flat, List.flatMap_cons] at ih ⊢
    rw [List.getElem?_append_right (by rw [ha, Nat.add_mul]; omega), ha, ← ih]
    congr 1
    rw [Nat.add_mul]; omega

theorem flat_length : ∀ {l : List D} {s : Nat}, (∀ x ∈ l, x.cells.length = s) → (D.flat l).length = l.length * s
  | [], _, _ => by simp [D.flat]
  | a :: l, s, hs => by
    have ih := flat_length (l := l) (s := s) (fun x hx => hs x (by simp [hx]))
    have ha := hs a (by simp)
    simp only [D.flat, List.flatMap_cons, List.length_append, List.length_cons] at ih ⊢
    rw [ih, ha, Nat.add_mul]; omega

theorem op_len {x : Operand} {t e s bytes : Nat} {l : List D} (hx : As (ρ x) (.sl l)) (ht : SlT P t e s bytes) : OpV P (.call ⟨.builtin .len, #[x], #[t]⟩) ty ρ H (.d (.int .i64 l.length)) H :=
  OpV.of_val fun _ _ r _ h => ⟨.int .i64 l.length, fun _ _ _ _ => by
    have := hx.rep (h x (by simp [Op.operands, Call.operands]))
    generalize hr : r x = v at this
    cases this
    simp [execOp, resolve, invoke, builtin, Builtin.len_, run_underlying ht.u, hr, goInt], .d (.int _ _)⟩

theorem op_indexAddr {x y : Operand} {t e s bytes : Nat} {l : List D} {k : IntKind} {n : Int} {i : Nat} {el : D} (hx : As (ρ x) (.sl l)) (hy : As (ρ y) (.int k n)) (hn : n = (i : Int))
    (hc : l[i]? = some el) (ht : SlT P t e s bytes) (hs : el.cells.length = s) : OpV P (.indexAddr t x y) ty ρ H (.vp el.cells 0) H :=
  OpV.of_val fun g w r _ h => by
    subst hn
    have h1 := hx.rep (h x (by simp [Op.operands]))
    have h2 := hy.int (h y (by simp [Op.operands]))
    have hi : i < l.length := (List.getElem?_eq_some_iff.1 hc).1
    have hmem : el ∈ l := List.mem_of_getElem? hc
    generalize hr : r x = v at h1
    obtain ⟨ie, z, hie, hsz, _⟩ := ht.i
    cases h1 with
    | sl l a cap s' f hs' hcap hrow hrep =>
      have hss : s' = s := by rw [← hs' el hmem, hs]
      subst hss
      obtain ⟨b, o, rfl, hk⟩ := hrow (by intro h0; rw [h0] at hi; simp at hi)
      refine ⟨.pointer (some ⟨b, o + i * s', none⟩), fun _ _ _ _ => ?_, ?_⟩
      · simp [execOp, Instr.indexAt, asIntOf, hr, h2, run_underlying ht.u, hi, run_sizeOf' hie, hsz, Addr.add_none]
      · have := Rep.vp (g := g) (w := w) (c := el.cells) (off := 0) (b := b) (o := o + i * s') (f := fun j => f (i * s' + j))
          (fun j hj => by
            have hlt : i * s' + j < l.length * s' := by
              have : (i + 1) * s' ≤ l.length * s' := Nat.mul_le_mul_right _ hi
              rw [Nat.add_mul] at this; omega
            have := hk (i * s' + j) hlt
            rwa [← Nat.add_assoc] at this)
          (fun j x hx => hrep (i * s' + j) x (by
            have hj : j < s' := by rw [← hs]; exact (List.getElem?_eq_some_iff.1 hx).1
            rw [flat_get hs' hc hj]; exact hx))
        simpa using this

theorem op_load_vp1 {x : Operand} {t off : Nat} {c : List D} {y : D} (hx : Is (ρ x) (.vp c off)) (hc : c[off]? = some y) (ht : Sc P t) : OpV P (.load t x) ty ρ H (.d y) H :=
  OpV.of_val fun g w r _ h => by
    have h1 := hx.rep (h x (by simp [Op.operands]))
    generalize hr : r x = v at h1
    cases h1 with
    | vp hk hrep =>
      have hlt := (List.getElem?_eq_some_iff.1 hc).1
      exact ⟨_, fun _ _ _ _ => by simp [execOp, Instr.loadAt, Instr.sureAddr, hr, run_loadVar_one ht (hk off hlt).2], .d (hrep _ _ hc)⟩

theorem op_load_vpA {x : Operand} {t n off : Nat} {c cs : List D} (hx : Is (ρ x) (.vp c off)) (hc : (c.drop off).take n = cs) (hn : cs.length = n) (ht : Ag P t n) : OpV P (.load t x) ty ρ H (.d (.agg cs)) H :=
  OpV.of_val fun g w r _ h => by
    have h1 := hx.rep (h x (by simp [Op.operands]))
    generalize hr : r x = v at h1
    have hle : off + n ≤ c.length ∨ n = 0 := by
      subst hc; simp at hn; omega
    cases h1 with
    | @vp _ _ b o f hk hrep =>
      refine ⟨.agg ((List.range n).map fun k => f (off + k)).toArray, fun _ _ _ _ => ?_, .d (.agg _ _ (by simp [hn]) (fun i y v hy hv => ?_))⟩
      · have := run_loadVar_agg (P := P) ht (w := w) (b := b) (o := o + off) (f := fun k => f (off + k)) (fun k hkn => by
          rw [Nat.add_assoc]; exact (hk (off + k) (by omega)).2)
        simp [execOp, Instr.loadAt, Instr.sureAddr, hr, this]
      · have hi : i < n := by rw [← hn]; exact (List.getElem?_eq_some_iff.1 hy).1
        have hv' : v = f (off + i) := by
          simp [hi] at hv; exact hv.symm
        rw [hv']
        refine hrep (off + i) y ?_
        rw [← hc, List.getElem?_take, if_pos hi, List.getElem?_drop] at hy
        exact hy

theorem op_field_vp {x : Operand} {t k off fo : Nat} {c : List D} (hx : Is (ρ x) (.vp c off)) (ht : Fd P t k fo) : OpV P (.fieldAddr t x k) ty ρ H (.vp c (off + fo)) H :=
  OpV.of_val fun g w r _ h => by
    have h1 := hx.rep (h x (by simp [Op.operands]))
    generalize hr : r x = v at h1
    obtain ⟨fs, f, hu, hf, hfo, i, hi, hne⟩ := ht.u
    cases h1 with
    | @vp _ _ b o f hk hrep =>
      refine ⟨.pointer (some ⟨b, o + (off + fo), none⟩), fun _ _ _ _ => ?_, .vp hk hrep⟩
      simp [execOp, Instr.fieldAt, Instr.sureAddr, hr, run_underlying hu, hf, fieldPlace, run_sizeOf' hi, hne, hfo, Addr.add_none, Nat.add_assoc]

theorem op_field_ptr {x : Operand} {t k id off fo : Nat} (hx : Is (ρ x) (.ptr id off)) (ht : Fd P t k fo) : OpV P (.fieldAddr t x k) ty ρ H (.ptr id (off + fo)) H :=
  OpV.of_val fun g w r _ h => by
    have h1 := hx.rep (h x (by simp [Op.operands]))
    generalize hr : r x = v at h1
    obtain ⟨fs, f, hu, hf, hfo, i, hi, hne⟩ := ht.u
    cases h1 with
    | @ptr _ _ b hb =>
      refine ⟨.pointer (some ⟨b, off + fo, none⟩), fun _ _ _ _ => ?_, .ptr hb⟩
      simp [execOp, Instr.fieldAt, Instr.sureAddr, hr, run_underlying hu, hf, fieldPlace, run_sizeOf' hi, hne, hfo, Addr.add_none]

/- Rows of the walk's own. -/
theorem cell_of_cells {w : World} {b o : Nat} {arr : Array Value} {et : TypeId} {fr : Nat × Nat} (h : w.heap[b]? = some (.cells arr et fr)) : w.cell? ⟨b, o, none⟩ = arr[o]? := by
  simp [World.cell?, h]

theorem op_load_ptr1 {x : Operand} {t id off : Nat} {c : List V} {y : V} (hx : Is (ρ x) (.ptr id off)) (hH : H[id]? = some (.row c)) (hc : c[off]? = some y) (ht : Sc P t) : OpV P (.load t x) ty ρ H y H :=
  OpV.of_val fun g w r hw h => by
    have h1 := hx.rep (h x (by simp [Op.operands]))
    generalize hr : r x = v at h1
    cases h1 with
    | @ptr _ _ b hb =>
      obtain ⟨b', arr, et, e1, e2, e3, e4, _⟩ := hw.row id c hH
      obtain rfl : b = b' := by rw [hb] at e1; exact Option.some.inj e1
      have hlt : off < arr.size := Nat.lt_of_lt_of_le (List.getElem?_eq_some_iff.1 hc).1 e3
      have hcell : w.cell? ⟨b, off, none⟩ = some arr[off] := by rw [cell_of_cells e2]; simp [hlt]
      exact ⟨arr[off], fun _ _ _ _ => by simp [execOp, Instr.loadAt, Instr.sureAddr, hr, run_loadVar_one ht hcell], e4 off y _ hc (by simp [hlt])⟩

theorem op_load_ptrA {x : Operand} {t n id off : Nat} {c cs : List V} (hx : Is (ρ x) (.ptr id off)) (hH : H[id]? = some (.row c)) (hc : (c.drop off).take n = cs) (hn : cs.length = n) (ht : Ag P t n) :
    OpV P (.load t x) ty ρ H (.agg cs) H :=
  OpV.of_val fun g w r hw h => by
    have h1 := hx.rep (h x (by simp [Op.operands]))
    generalize hr : r x = v at h1
    have hle : off + n ≤ c.length ∨ n = 0 := by
      subst hc; simp at hn; omega
    cases h1 with
    | @ptr _ _ b hb =>
      obtain ⟨b', arr, et, e1, e2, e3, e4, _⟩ := hw.row id c hH
      obtain rfl : b = b' := by rw [hb] at e1; exact Option.some.inj e1
      have hcell : ∀ k, k < n → w.cell? ⟨b, off + k, none⟩ = some (arr.getD (off + k) undef) := fun k hk => by
        rw [cell_of_cells e2]
        have : off + k < arr.size := by omega
        simp [Array.getD, this]
      refine ⟨.agg ((List.range n).map fun k => arr.getD (off + k) undef).toArray, fun _ _ _ _ => ?_, .agg (by simp [hn]) (fun i y v hy hv => ?_)⟩
      · simp [execOp, Instr.loadAt, Instr.sureAddr, hr, run_loadVar_agg ht hcell]
      · have hi : i < n := by rw [← hn]; exact (List.getElem?_eq_some_iff.1 hy).1
        have hlt : off + i < arr.size := by omega
        have hv' : v = arr[off + i] := by
          simp [hi, Array.getD, hlt] at hv; exact hv.symm
        rw [hv']
        refine e4 (off + i) y _ ?_ (by simp [hlt])
        rw [← hc, List.getElem?_take, if_pos hi, List.getElem?_drop] at hy
        exact hy

/-- Cells that can stand in one cell of memory. -/
def D.one : D → Bool
  | .agg _ | .tup _ => false
  | .raw v => v.oneCell'
  | _ => true
def V.one : V → Bool
  | .d x => x.one
  | .agg _ | .tup _ | .when _ _ | .any => false
  | _ => true
theorem RepD.one {Pr : Nat → Nat → Prop} {w : World} {x : D} {r : Value} (h : RepD Pr w x r) (hx : x.one = true) : r.oneCell' = true := by
  cases h <;> simp_all [D.one, Value.oneCell']
theorem Rep.one {g : G} {w : World} {x : V} {r : Value} (h : Rep g w x r) (hx : x.one = true) : r.oneCell' = true := by
  cases h with
  | d h => exact h.one hx
  | tk h => exact h.one rfl
  | _ => first | rfl | simp [V.one] at hx

def V.cs : V → List V
  | .agg l => l
  | .d (.agg l) => l.map .d
  | v => [v]

theorem Rep.cs {g : G} {w : World} {v : V} {r : Value} {c : List V} (h : Rep g w v r) (hc : v.cs = c) (h1 : c.all V.one = true) :
    r.cells.size = c.length ∧ ∀ (i : Nat) x u, c[i]? = some x → r.cells[i]? = some u → Rep g w x u := by
  subst hc
  have single : v.cs = [v] → r.cells.size = v.cs.length ∧ ∀ (i : Nat) x u, v.cs[i]? = some x → r.cells[i]? = some u → Rep g w x u := by
    intro hv
    rw [hv] at h1 ⊢
    have hone := h.one (by simpa using h1)
    have hr : r.cells = #[r] := by cases r <;> simp_all [Value.cells, Value.oneCell']
    rw [hr]
    refine ⟨by simp, fun i x u hx hu => ?_⟩
    cases i with
    | zero => simp only [List.getElem?_cons_zero, Option.some.injEq] at hx; simp at hu; subst hx; subst hu; exact h
    | succ i => simp at hx
  cases v with
  | agg l =>
    cases h with
    | agg hs hr => exact ⟨by simpa [V.cs, Value.cells] using hs, fun i x u hx hu => hr i x u hx hu⟩
  | d x =>
    cases x with
    | agg l =>
      cases h with
      | d h =>
        cases h with
        | agg _ arr hs hr =>
          refine ⟨by simpa [V.cs, Value.cells] using hs, fun i x u hx hu => ?_⟩
          simp only [V.cs, List.getElem?_map, Option.map_eq_some_iff] at hx
          obtain ⟨y, hy, rfl⟩ := hx
          exact .d (hr i y u hy hu)
    | _ => exact single rfl
  | _ => exact single rfl

theorem WOK.store {g : G} {w w' : World} {id b : Nat} {c c' : List V} {arr arr' : Array Value} {et : TypeId} (hw : WOK g w H) (hH : H[id]? = some (.row c)) (hb : g.σ id = some b)
    (e2 : w.heap[b]? = some (.cells arr et (0, 0))) (hsame : w'.os = w.os ∧ w'.tape = w.tape ∧ w'.output = w.output) (hsz : w'.heap.size = w.heap.size) (hn : w'.heap[b]? = some (.cells arr' et (0, 0))) (ho : ∀ b', b' ≠ b → w'.heap[b']? = w.heap[b']?)
    (hlen : c'.length ≤ arr'.size) (hrep : ∀ (k : Nat) x v, c'[k]? = some x → arr'[k]? = some v → Rep g w x v) : WOK g w' (H.set id (.row c')) ∧ Evo g w g w' := by
  have hidlt : id < H.length := (List.getElem?_eq_some_iff.1 hH).1
  have hX : g.X b := hw.blk id _ b hH (by simpa [G.blk] using hb)
  obtain ⟨b0, arr0, et0, f1, f2, f3, f4, hPr⟩ := hw.row id c hH
  obtain rfl : b = b0 := by rw [hb] at f1; exact Option.some.inj f1
  have hev : Evo g w g w' := {
    same := hsame
    size := by omega
    pr := fun b' o hp => ⟨hp, by
      have hne : b' ≠ b := fun e => by subst e; exact hPr o hp
      simp [World.cell?, ho b' hne]⟩
    prn := fun b o h => .inl h
    x := fun b h => .inl h
    keep := fun b' _ hx => ho b' (fun e => by subst e; exact hx hX)
    σ := fun _ _ h => h
    τ := fun _ m a cap h => ⟨m, a, cap, h, .inr ⟨rfl, rfl, rfl⟩⟩ }
  have hget : ∀ (i : Nat) e, (H.set id (.row c'))[i]? = some e → (i = id ∧ e = .row c') ∨ (i ≠ id ∧ H[i]? = some e) := by
    intro i e he
    by_cases hi : i = id
    · subst hi; rw [List.getElem?_set_self hidlt] at he; exact .inl ⟨rfl, (Option.some.inj he).symm⟩
    · rw [List.getElem?_set_ne (Ne.symm hi)] at he; exact .inr ⟨hi, he⟩
  have hblk : ∀ (i : Nat) e b', (H.set id (.row c'))[i]? = some e → g.blk i e b' → ∃ e', H[i]? = some e' ∧ g.blk i e' b' := by
    intro i e b' he hb'
    rcases hget i e he with ⟨rfl, rfl⟩ | ⟨_, h⟩
    · exact ⟨_, hH, hb'⟩
    · exact ⟨e, h, hb'⟩
  refine ⟨⟨fun b o h => by rw [hsz]; exact hw.pr b o h, fun b h => by rw [hsz]; exact hw.xs b h, ?_, ?_, ?_, ?_, ?_, ?_, ?_, hw.kcE hev⟩, hev⟩
  · intro i e b' he hb'
    obtain ⟨e', h1, h2⟩ := hblk i e b' he hb'
    exact hw.blk i e' b' h1 h2
  · intro i i' e e' b' he he' hb1 hb2
    obtain ⟨e1, h1, h2⟩ := hblk i e b' he hb1
    obtain ⟨e3, h3, h4⟩ := hblk i' e' b' he' hb2
    exact hw.sep i i' e1 e3 b' h1 h3 h2 h4
  · intro i ci hi
    rcases hget i _ hi with ⟨rfl, he⟩ | ⟨hne, h⟩
    · obtain rfl : ci = c' := by injection he
      exact ⟨b, arr', et, hb, hn, hlen, fun k x v hx hv => (hrep k x v hx hv).mono hev, hPr⟩
    · obtain ⟨b1, arr1, et1, g1, g2, g3, g4, g5⟩ := hw.row i ci h
      have hne' : b1 ≠ b := fun e => hne (hw.sep i id _ _ b1 h hH (by simpa [G.blk] using g1) (by rw [e]; simpa [G.blk] using hb))
      exact ⟨b1, arr1, et1, g1, (ho b1 hne').trans g2, g3, fun k x v hx hv => (g4 k x v hx hv).mono hev, g5⟩
  · intro i n e s hi
    rcases hget i _ hi with ⟨_, he⟩ | ⟨hne, h⟩
    · cases he
    · obtain ⟨a, cap, g1, g2, g3, g4⟩ := hw.tok i n e s h
      refine ⟨a, cap, g1, g2, g3, fun hlt => ?_⟩
      obtain ⟨b1, arr1, k1, k2, k3, k4⟩ := g4 hlt
      have hne' : b1 ≠ b := fun e' => hne (hw.sep i id _ _ b1 h hH (by simp [G.blk, g1, hlt, k1]) (by rw [e']; simpa [G.blk] using hb))
      exact ⟨b1, arr1, k1, (ho b1 hne').trans k2, k3, k4⟩
  · intro i l e s hi
    rcases hget i _ hi with ⟨_, he⟩ | ⟨hne, h⟩
    · cases he
    · obtain ⟨a, cap, g1, g2, g3, g4⟩ := hw.lst i l e s h
      refine ⟨a, cap, g1, g2, g3, fun hlt => ?_⟩
      obtain ⟨b1, arr1, k1, k0, k2, k3, k4, k5⟩ := g4 hlt
      have hne' : b1 ≠ b := fun e' => hne (hw.sep i id _ _ b1 h hH (by simp [G.blk, g1, hlt, k1]) (by rw [e']; simpa [G.blk] using hb))
      exact ⟨b1, arr1, k1, k0, (ho b1 hne').trans k2, k3, k4, fun k x v hx hv => (k5 k x v hx hv).mono hev.pr⟩
  · intro i x hi
    rcases hget i _ hi with ⟨_, he⟩ | ⟨hne, h⟩
    · cases he
    · obtain ⟨b1, q1, q2, q3, q4⟩ := hw.ob i x h
      have hne' : b1 ≠ b := fun e => hne (hw.sep i id _ _ b1 h hH (.inl q1) (by rw [e]; simpa [G.blk] using hb))
      have hnu : ∀ b', g.υ i b' → b' ≠ b := fun b' hu e => hne (hw.sep i id _ _ b' h hH (.inr hu) (by rw [e]; simpa [G.blk] using hb))
      exact ⟨b1, q1, x.st hev.w rfl rfl (ho b1 hne') (fun b' hu => ho b' (hnu b' hu)) q2, q3, q4⟩
  · intro i hi
    refine hw.free i ?_
    rcases hi with hi | hi
    · rcases hget i _ hi with ⟨_, he⟩ | ⟨_, h⟩
      · cases he
      · exact .inl h
    · exact .inr (by simpa using hi)

def splice : List V → Nat → List V → List V
  | [], _, n => n
  | x :: c, off + 1, n => x :: splice c off n
  | x :: c, 0, [] => x :: c
  | _ :: c, 0, y :: n => y :: splice c 0 n
theorem splice_eq : ∀ (c : List V) (off : Nat) (n : List V), splice c off n = c.take off ++ n ++ c.drop (off + n.length)
  | [], off, n => by simp [splice]
  | x :: c, off + 1, n => by
    rw [splice, splice_eq c off n]
    simp [show off + 1 + n.length = (off + n.length) + 1 by omega]
  | x :: c, 0, [] => by simp [splice]
  | x :: c, 0, y :: n => by
    rw [splice, splice_eq c 0 n]
    simp

theorem op_store {x y : Operand} {t n id off : Nat} {c cs : List V} {v : V} (hx : Is (ρ x) (.ptr id off)) (hy : Is (ρ y) v) (hH : H[id]? = some (.row c)) (hv : v.cs = cs) (h1 : cs.all V.one = true)
    (hsz : ∃ i, P.info? t = some i ∧ i.size = n) (hn : cs.length = n) (hle : off + n ≤ c.length) : OpV P (.store t x y) ty ρ H .any (H.set id (.row (splice c off cs))) := by
  intro g w r pos after guard dst hw h
  have hp := hx.rep (h x (by simp [Op.operands]))
  have hu := hy.rep (h y (by simp [Op.operands]))
  obtain ⟨hcz, hcr⟩ := hu.cs hv h1
  obtain ⟨i, hi, his⟩ := hsz
  generalize hr : r x = v' at hp
  cases hp with
  | @ptr _ _ b hb =>
    obtain ⟨b', arr, et, e1, e2, e3, e4, _⟩ := hw.row id c hH
    obtain rfl : b = b' := by rw [hb] at e1; exact Option.some.inj e1
    have hone : ∀ u ∈ (r y).cells.toList, u.oneCell' = true := fun u hu' => by
      obtain ⟨j, hj⟩ := List.getElem?_of_mem hu'
      rw [Array.getElem?_toList] at hj
      have hjl : j < cs.length := by rw [← hcz]; exact (Array.getElem?_eq_some_iff.1 hj).1
      exact (hcr j cs[j] u (List.getElem?_eq_getElem hjl) hj).one (List.all_eq_true.1 h1 _ (List.getElem_mem hjl))
    have hrun := run_storeCells_at P b off et (r y).cells.toList 0 arr w e2 (by simp; omega) hone
    have hsize : (r y).cells.size = i.size := by omega
    unfold OpRuns
    simp only [execOp, Instr.storeAt, Instr.sureAddr, hr, Sem.run_bind, Sem.run_pure, Result.andThen_ok, storeVar, run_sizeOf' hi, hsize, ne_eq, not_true_eq_false, if_false, hrun]
    refine ⟨g, ?_⟩
    have key := WOK.store (w' := w.setRow b (arr.toList.take (off + 0) ++ (r y).cells.toList ++ arr.toList.drop (off + 0 + (r y).cells.toList.length)).toArray) (c' := splice c off cs) (arr' := (arr.toList.take (off + 0) ++ (r y).cells.toList ++ arr.toList.drop (off + 0 + (r y).cells.toList.length)).toArray) hw hH hb e2 ⟨rfl, rfl, rfl⟩ (setRow_size w b _) (setRow_heap w b arr _ et _ e2) (fun b' hne => setRow_other w b b' _ hne)
    have hcl : (splice c off cs).length ≤ (arr.toList.take (off + 0) ++ (r y).cells.toList ++ arr.toList.drop (off + 0 + (r y).cells.toList.length)).toArray.size := by simp [splice_eq]; omega
    refine (fun hh => ⟨(key hcl hh).1, (key hcl hh).2, .any⟩) ?_
    · intro k x u hx hu'
      simp only [Nat.add_zero, splice_eq] at hx hu'
      simp only [List.getElem?_toArray] at hu'
      have l1 : (List.take off c).length = off := by simp; omega
      have l2 : (List.take off arr.toList).length = off := by simp; omega
      by_cases hk : k < off
      · rw [List.append_assoc, List.getElem?_append_left (by omega), List.getElem?_take, if_pos hk] at hx hu'
        rw [Array.getElem?_toList] at hu'
        exact e4 k x u hx hu'
      · rw [List.append_assoc, List.getElem?_append_right (by omega)] at hx hu'
        rw [l1] at hx
        rw [l2] at hu'
        by_cases hk2 : k - off < cs.length
        · rw [List.getElem?_append_left hk2] at hx
          rw [List.getElem?_append_left (by simp; omega), Array.getElem?_toList] at hu'
          exact hcr _ x u hx hu'
        · rw [List.getElem?_append_right (by omega), List.getElem?_drop] at hx
          rw [List.getElem?_append_right (by simp; omega), List.getElem?_drop, Array.getElem?_toList] at hu'
          simp only [Array.length_toList, hcz] at hu'
          exact e4 _ x u hx hu'

/-- New memory: an entry that was free. -/
theorem WOK.new {g : G} {w : World} {id : Nat} {c : List V} {arr : Array Value} {et : TypeId} (hw : WOK g w H) (hH : H[id]? = some .free)
    (hlen : c.length ≤ arr.size) (hrep : ∀ (k : Nat) x v, c[k]? = some x → arr[k]? = some v → Rep g w x v) :
    ∃ g', WOK g' { w with heap := w.heap.push (.cells arr et (0, 0)) } (H.set id (.row c)) ∧ Evo g w g' { w with heap := w.heap.push (.cells arr et (0, 0)) } ∧ g'.σ id = some w.heap.size := by
  have hidlt : id < H.length := (List.getElem?_eq_some_iff.1 hH).1
  obtain ⟨hfσ, hfτ, hfυ⟩ := hw.free id (.inl hH)
  let B := w.heap.size
  let w' : World := { w with heap := w.heap.push (.cells arr et (0, 0)) }
  let g' : G := { σ := fun i => if i = id then some B else g.σ i, τ := g.τ, υ := g.υ, X := fun b => g.X b ∨ b = B, Pr := g.Pr }
  have hold : ∀ b, b < B → w'.heap[b]? = w.heap[b]? := fun b hb => by
    simp only [w', Array.getElem?_push]
    rw [if_neg (by omega)]
  have hnew : w'.heap[B]? = some (.cells arr et (0, 0)) := by simp [w', B]
  have hsz : w'.heap.size = B + 1 := by simp [w', B]
  have hσ : ∀ i b, g.σ i = some b → i ≠ id := fun i b h e => by subst e; rw [hfσ] at h; cases h
  have hσ' : ∀ i, i ≠ id → g'.σ i = g.σ i := fun i h => by simp [g', h]
  have hev : Evo g w g' w' := {
    same := ⟨rfl, rfl, rfl⟩
    size := by omega
    pr := fun b o hp => ⟨hp, by have := hw.pr b o hp; simp [World.cell?, hold b this]⟩
    prn := fun b o h => .inl h
    x := fun b h => h.imp (fun h => h) (fun e => by omega)
    keep := fun b hb _ => hold b hb
    σ := fun i b h => by rw [hσ' i (hσ i b h)]; exact h
    τ := fun _ m a cap h => ⟨m, a, cap, h, .inr ⟨rfl, rfl, rfl⟩⟩ }
  have hget : ∀ (i : Nat) e, (H.set id (.row c))[i]? = some e → (i = id ∧ e = .row c) ∨ (i ≠ id ∧ H[i]? = some e) := by
    intro i e he
    by_cases hi : i = id
    · subst hi; rw [List.getElem?_set_self hidlt] at he; exact .inl ⟨rfl, (Option.some.inj he).symm⟩
    · rw [List.getElem?_set_ne (Ne.symm hi)] at he; exact .inr ⟨hi, he⟩
  have hblk : ∀ (i : Nat) e b', (H.set id (.row c))[i]? = some e → g'.blk i e b' → (i = id ∧ b' = B) ∨ (i ≠ id ∧ H[i]? = some e ∧ g.blk i e b' ∧ b' < B) := by
    intro i e b' he hb'
    rcases hget i e he with ⟨rfl, rfl⟩ | ⟨hne, h⟩
    · simp [G.blk, g'] at hb'; exact .inl ⟨rfl, hb'.symm⟩
    · have : g.blk i e b' := by
        cases e <;> simp [G.blk, g', hne] at hb' ⊢ <;> exact hb'
      exact .inr ⟨hne, h, this, hw.xs b' (hw.blk i e b' h this)⟩
  refine ⟨g', ⟨fun b o h => by have := hw.pr b o h; show b < w'.heap.size; omega, ?_, ?_, ?_, ?_, ?_, ?_, ?_, ?_, hw.kcE hev⟩, hev, by simp [g', B]⟩
  · intro b h
    show b < w'.heap.size
    rcases h with h | rfl
    · have := hw.xs b h; omega
    · omega
  · intro i e b' he hb'
    rcases hblk i e b' he hb' with ⟨_, rfl⟩ | ⟨_, h1, h2, _⟩
    · exact .inr rfl
    · exact .inl (hw.blk i e b' h1 h2)
  · intro i i' e e' b' he he' hb1 hb2
    rcases hblk i e b' he hb1 with ⟨r1, r2⟩ | ⟨_, h1, h2, h3⟩ <;> rcases hblk i' e' b' he' hb2 with ⟨s1, s2⟩ | ⟨_, h4, h5, h6⟩
    · omega
    · omega
    · omega
    · exact hw.sep i i' e e' b' h1 h4 h2 h5
  · intro i ci hi
    rcases hget i _ hi with ⟨rfl, he⟩ | ⟨hne, h⟩
    · obtain rfl : ci = c := by injection he
      exact ⟨B, arr, et, by simp [g'], hnew, hlen, fun k x v hx hv => (hrep k x v hx hv).mono hev, fun o hp => by have := hw.pr B o hp; omega⟩
    · obtain ⟨b1, arr1, et1, g1, g2, g3, g4, g5⟩ := hw.row i ci h
      have hlt := hw.xs b1 (hw.blk i _ b1 h (by simpa [G.blk] using g1))
      exact ⟨b1, arr1, et1, by rw [hσ' i hne]; exact g1, (hold b1 hlt).trans g2, g3, fun k x v hx hv => (g4 k x v hx hv).mono hev, g5⟩
  · intro i n e s hi
    rcases hget i _ hi with ⟨_, he⟩ | ⟨hne, h⟩
    · cases he
    · obtain ⟨a, cap, g1, g2, g3, g4⟩ := hw.tok i n e s h
      refine ⟨a, cap, g1, g2, g3, fun hlt => ?_⟩
      obtain ⟨b1, arr1, k1, k2, k3, k4⟩ := g4 hlt
      have hlt' := hw.xs b1 (hw.blk i _ b1 h (by simp [G.blk, g1, hlt, k1]))
      exact ⟨b1, arr1, k1, (hold b1 hlt').trans k2, k3, k4⟩
  · intro i l e s hi
    rcases hget i _ hi with ⟨_, he⟩ | ⟨hne, h⟩
    · cases he
    · obtain ⟨a, cap, g1, g2, g3, g4⟩ := hw.lst i l e s h
      refine ⟨a, cap, g1, g2, g3, fun hlt => ?_⟩
      obtain ⟨b1, arr1, k1, k0, k2, k3, k4, k5⟩ := g4 hlt
      have hlt' := hw.xs b1 (hw.blk i _ b1 h (by simp [G.blk, g1, hlt, k1]))
      exact ⟨b1, arr1, k1, by rw [hσ' i hne]; exact k0, (hold b1 hlt').trans k2, k3, k4, fun k x v hx hv => (k5 k x v hx hv).mono hev.pr⟩
  · intro i x hi
    rcases hget i _ hi with ⟨_, he⟩ | ⟨hne, h⟩
    · cases he
    · obtain ⟨b1, q1, q2, q3, q4⟩ := hw.ob i x h
      have hlt := hw.xs b1 (hw.blk i _ b1 h (.inl q1))
      exact ⟨b1, by rw [hσ' i hne]; exact q1, x.st hev.w rfl rfl (hold b1 hlt) (fun b' hu => hold b' (hw.xs b' (hw.blk i _ b' h (.inr hu)))) q2, q3, q4⟩
  · intro i hi
    have hne : i ≠ id := by
      rintro rfl
      rcases hi with hi | hi
      · rw [List.getElem?_set_self hidlt] at hi; cases hi
      · simp at hi; omega
    rw [hσ' i hne]
    refine hw.free i ?_
    rcases hi with hi | hi
    · rw [List.getElem?_set_ne (Ne.symm hne)] at hi; exact .inl hi
    · exact .inr (by simpa using hi)

theorem WOK.addFree {g : G} {w : World} (hw : WOK g w H) : WOK g w (H ++ [.free]) := by
  have hget : ∀ (i : Nat) e, (H ++ [HE.free])[i]? = some e → H[i]? = some e ∨ (i = H.length ∧ e = .free) := by
    intro i e he
    by_cases hi : i < H.length
    · rw [List.getElem?_append_left hi] at he; exact .inl he
    · rw [List.getElem?_append_right (by omega)] at he
      have : i = H.length := by
        by_cases h0 : i - H.length = 0
        · omega
        · rw [List.getElem?_eq_none (by simp; omega)] at he; cases he
      subst this
      simp at he
      exact .inr ⟨rfl, he.symm⟩
  refine ⟨hw.pr, hw.xs, ?_, ?_, ?_, ?_, ?_, ?_, ?_, hw.kc⟩
  · intro i e b he hb
    rcases hget i e he with h | ⟨_, rfl⟩
    · exact hw.blk i e b h hb
    · simp [G.blk] at hb
  · intro i i' e e' b he he' hb1 hb2
    rcases hget i e he with h | ⟨_, rfl⟩
    · rcases hget i' e' he' with h' | ⟨_, rfl⟩
      · exact hw.sep i i' e e' b h h' hb1 hb2
      · simp [G.blk] at hb2
    · simp [G.blk] at hb1
  · intro i c hi
    rcases hget i _ hi with h | ⟨_, h⟩
    · exact hw.row i c h
    · cases h
  · intro i n e s hi
    rcases hget i _ hi with h | ⟨_, h⟩
    · exact hw.tok i n e s h
    · cases h
  · intro i l e s hi
    rcases hget i _ hi with h | ⟨_, h⟩
    · exact hw.lst i l e s h
    · cases h
  · intro i x hi
    rcases hget i _ hi with h | ⟨_, h⟩
    · exact hw.ob i x h
    · cases h
  · intro i hi
    refine hw.free i ?_
    rcases hi with hi | hi
    · rcases hget i _ hi with h | ⟨rfl, _⟩
      · exact .inl h
      · exact .inr (Nat.le_refl _)
    · exact .inr (by simp at hi; omega)

theorem set_last (H : List HE) (e : HE) : (H ++ [HE.free]).set H.length e = H ++ [e] := by simp

theorem op_alloc {t : Nat} {zs : List Value} {n : Nat} (hz : Zr P t zs) (hn : H.length = n) : OpV P (.alloc t) ty ρ H (.ptr n 0) (H ++ [.row (zs.map absV)]) := by
  subst hn
  intro g w r pos after guard dst hw h
  obtain ⟨i, z, hi, hz1, hz2, hz3⟩ := hz.z
  have := WOK.new (id := H.length) (c := zs.map absV) (arr := z.cells) (et := t) hw.addFree (by simp) (by simp [← hz2]) (fun k x v hx hv => by
    simp only [List.getElem?_map, Option.map_eq_some_iff] at hx
    obtain ⟨y, hy, rfl⟩ := hx
    rw [← hz2, Array.getElem?_toList, hv] at hy
    obtain rfl := Option.some.inj hy
    exact Rep.absV _ _ _)
  obtain ⟨g', h1, h2, h3⟩ := this
  rw [set_last] at h1
  unfold OpRuns
  simp only [execOp, Instr.alloc, Sem.run_bind, run_zeroValue' hi hz1, Result.andThen_ok, newVar, newRow, run_newObj, Sem.run_pure]
  exact ⟨g', h1, h2, .ptr h3⟩

theorem op_box {t : Nat} {x : Operand} {v : V} {c : List V} {n : Nat} (hx : Is (ρ x) v) (hv : v.cs = c) (h1 : c.all V.one = true) (hn : H.length = n) : OpV P (.box t x) ty ρ H (.ptr n 0) (H ++ [.row c]) := by
  subst hn
  intro g w r pos after guard dst hw h
  have hu := hx.rep (h x (by simp [Op.operands]))
  obtain ⟨hcz, hcr⟩ := hu.cs hv h1
  have := WOK.new (id := H.length) (c := c) (arr := (r x).cells) (et := t) hw.addFree (by simp) (by omega) (fun k x v hx hv => hcr k x v hx hv)
  obtain ⟨g', h1, h2, h3⟩ := this
  rw [set_last] at h1
  unfold OpRuns
  simp only [execOp, Instr.box, Sem.run_bind, newVar, newRow, run_newObj, Sem.run_pure, Result.andThen_ok]
  exact ⟨g', h1, h2, .ptr h3⟩

end
end Go.Proofs.YtindppnanjcoaaaGreatDoor.Ab
end
section
namespace Go.Proofs.YtindppnanjcoaaaGreatDoor.Ab
open Go

section
variable {P : Program} {ρ : Operand → V} {H : List HE} {ty : TypeId}

inductive ArgsD (ρ : Operand → V) : List Operand → List D → Prop
  | nil : ArgsD ρ [] []
  | cons {x : Operand} {xs : List Operand} {d : D} {ds : List D} : As (ρ x) d → ArgsD ρ xs ds → ArgsD ρ (x :: xs) (d :: ds)

inductive ArgsV (ρ : Operand → V) : List Operand → List V → Prop
  | nil : ArgsV ρ [] []
  | cons {x : Operand} {xs : List Operand} {v : V} {vs : List V} : Is (ρ x) v → ArgsV ρ xs vs → ArgsV ρ (x :: xs) (v :: vs)

theorem ArgsD.get {xs : List Operand} {ds : List D} (h : ArgsD ρ xs ds) : xs.length = ds.length ∧ ∀ (i : Nat) d, ds[i]? = some d → ∃ x, xs[i]? = some x ∧ As (ρ x) d := by
  induction h with
  | nil => simp
  | cons hx _ ih =>
    refine ⟨by simp [ih.1], fun i d hd => ?_⟩
    cases i with
    | zero => simp only [List.getElem?_cons_zero, Option.some.injEq] at hd; subst hd; exact ⟨_, rfl, hx⟩
    | succ i => exact ih.2 i d (by simpa using hd)

theorem ArgsV.get {xs : List Operand} {ds : List V} (h : ArgsV ρ xs ds) : xs.length = ds.length ∧ ∀ (i : Nat) d, ds[i]? = some d → ∃ x, xs[i]? = some x ∧ Is (ρ x) d := by
  induction h with
  | nil => simp
  | cons hx _ ih =>
    refine ⟨by simp [ih.1], fun i d hd => ?_⟩
    cases i with
    | zero => simp only [List.getElem?_cons_zero, Option.some.injEq] at hd; subst hd; exact ⟨_, rfl, hx⟩
    | succ i => exact ih.2 i d (by simpa using hd)

/-- A call of a function of the program, or of a closure. -/
theorem op_call {fop : Operand} {f : FuncId} {args : Array Operand} {ts : Array TypeId} {vs caps : List V} {v : V} {H' : List HE} (hc : ∀ (a : Array Value) (w : World), (callFunc f a).run P w = .ok (.enter f a) w)
    (hf : Is (ρ fop) (.fn (.func f) caps)) (ha : ArgsV ρ args.toList vs) (h : ACall P f (vs ++ caps) H fun r H2 => r = v ∧ H2 = H') : OpV P (.call ⟨.value fop, args, ts⟩) ty ρ H v H' := by
  intro g w r pos after guard dst hw hx
  obtain ⟨hl, hg⟩ := ha.get
  have hmem : ∀ z, z ∈ args → z ∈ (Op.call ⟨.value fop, args, ts⟩).operands := fun z hz => by
    simp only [Op.operands, Call.operands]; exact Array.mem_append.2 (.inr hz)
  have hfr := hf.rep (hx fop (by simp [Op.operands, Call.operands]))
  generalize hrf : r fop = fv at hfr
  cases hfr with
  | @fn _ _ arr hsz hrep =>
    have hcall := h g w (args.map r ++ arr) hw (by simp at hl ⊢; omega) (fun i x v hx' hv => by
      by_cases hi : i < vs.length
      · rw [List.getElem?_append_left hi] at hx'
        rw [Array.getElem?_append_left (by simp at hl ⊢; omega)] at hv
        obtain ⟨y, hy, his⟩ := hg i x hx'
        simp only [Array.getElem?_map, Option.map_eq_some_iff] at hv
        obtain ⟨z, hz, rfl⟩ := hv
        rw [Array.getElem?_toList] at hy
        obtain rfl : z = y := by rw [hz] at hy; exact Option.some.inj hy
        exact his.rep (hx z (hmem z (Array.mem_of_getElem? hz)))
      · rw [List.getElem?_append_right (by omega)] at hx'
        rw [Array.getElem?_append_right (by simp at hl ⊢; omega)] at hv
        simp only [Array.size_map, Array.length_toList] at hv hl
        rw [hl] at hv
        exact hrep _ x v hx' hv)
    unfold OpRuns
    simp only [execOp, resolve, hrf, Deferred.ofValue, Sem.run_bind, Sem.run_pure, Result.andThen_ok, invoke, Array.empty_append, hc]
    refine hcall.mono ?_
    rintro e w' ⟨rv, res, g', H2, rfl, h1, h2, h3, rfl, rfl⟩
    exact ⟨rv, rfl, g', h1, h2, h3⟩

theorem ArgsD.run {xs : List Operand} {ds : List D} (h : ArgsD ρ xs ds) {g : G} {w : World} {r : Operand → Value} (hx : ∀ x, x ∈ xs → Rep g w (ρ x) (r x)) :
    ∀ (i : Nat) x v, (ds.map V.d)[i]? = some x → (xs.map r)[i]? = some v → Rep g w x v := by
  intro i x v hx' hv
  simp only [List.getElem?_map, Option.map_eq_some_iff] at hx' hv
  obtain ⟨d, hd, rfl⟩ := hx'
  obtain ⟨z, hz, rfl⟩ := hv
  obtain ⟨y, hy, has⟩ := h.get.2 i d hd
  obtain rfl : z = y := by rw [hz] at hy; exact Option.some.inj hy
  exact .d (has.rep (hx z (List.mem_of_getElem? hz)))

/-- A call whose arguments are handed over as data. -/
theorem op_callD {fop : Operand} {f : FuncId} {args : Array Operand} {ts : Array TypeId} {ds : List D} {v : V} {H' : List HE} (hc : ∀ (a : Array Value) (w : World), (callFunc f a).run P w = .ok (.enter f a) w)
    (hf : Is (ρ fop) (.fn (.func f) [])) (ha : ArgsD ρ args.toList ds) (h : ACall P f (ds.map .d) H fun r H2 => r = v ∧ H2 = H') : OpV P (.call ⟨.value fop, args, ts⟩) ty ρ H v H' := by
  intro g w r pos after guard dst hw hx
  have hmem : ∀ z, z ∈ args.toList → z ∈ (Op.call ⟨.value fop, args, ts⟩).operands := fun z hz => by
    simp only [Op.operands, Call.operands]; exact Array.mem_append.2 (.inr (by simpa using hz))
  have hfr := hf.rep (hx fop (by simp [Op.operands, Call.operands]))
  generalize hrf : r fop = fv at hfr
  cases hfr with
  | @fn _ _ arr hsz hrep =>
    have h0 : arr = #[] := by simpa using hsz
    subst h0
    have hcall := h g w (args.map r) hw (by have := ha.get.1; simp at this ⊢; omega) (fun i x v hx' hv =>
      ha.run (fun x hxm => hx x (hmem x hxm)) i x v hx' (by simpa [Array.getElem?_toList] using hv))
    unfold OpRuns
    simp only [execOp, resolve, hrf, Deferred.ofValue, Sem.run_bind, Sem.run_pure, Result.andThen_ok, invoke, Array.empty_append, Array.append_empty, hc]
    refine hcall.mono ?_
    rintro e w' ⟨rv, res, g', H2, rfl, h1, h2, h3, rfl, rfl⟩
    exact ⟨rv, rfl, g', h1, h2, h3⟩

theorem op_fn {fop : Operand} {f : FuncId} {args : Array Operand} {ts : Array TypeId} {ds : List D} {res : D} (hc : ∀ (a : Array Value) (w : World), (callFunc f a).run P w = .ok (.enter f a) w)
    (hf : Is (ρ fop) (.fn (.func f) [])) (ha : ArgsD ρ args.toList ds) (h : Fn P f ds res) : OpV P (.call ⟨.value fop, args, ts⟩) ty ρ H (.d res) H :=
  op_callD hc hf ha (h.at H)

theorem op_extractD {x : Operand} {k : Nat} {l : List D} {y : D} (hx : Is (ρ x) (.d (.tup l))) (hy : l[k]? = some y) : OpV P (.extract x k) ty ρ H (.d y) H :=
  OpV.of_val fun g w r hw h => by
    have h1 := hx.rep (h x (by simp [Op.operands]))
    generalize hr : r x = v at h1
    cases h1 with
    | d h1 =>
      cases h1 with
      | tup _ arr hs hrep =>
        have hlt : k < arr.size := by rw [hs]; exact (List.getElem?_eq_some_iff.1 hy).1
        exact ⟨arr[k], fun _ _ _ _ => by simp [execOp, Instr.extract, hr, hlt], .d (hrep k y _ hy (by simp [hlt]))⟩

/- Literals of structs. -/
structure Bd (P : Program) (t : TypeId) (zs : List Value) (pl : List (Nat × Nat)) : Prop where
  z : Zr P t zs
  u : ∃ fs, P.underlying t = some (.struct fs) ∧ fs.toList.map (fun f => (f.offset, (P.info? f.type).map (·.size))) = pl.map fun p => (p.1, some p.2)

def fillV (c : List V) : List (Nat × List V) → List V
  | [] => c
  | (off, n) :: r => fillV (splice c off n) r

inductive Parts (ρ : Operand → V) (pl : List (Nat × Nat)) (N : Nat) : List (Nat × Operand) → List (Nat × List V) → Prop
  | nil : Parts ρ pl N [] []
  | cons {i off n : Nat} {x : Operand} {v : V} {cs : List V} {r : List (Nat × Operand)} {q : List (Nat × List V)} : Is (ρ x) v → v.cs = cs → cs.all V.one = true → pl[i]? = some (off, n) → cs.length = n → off + n ≤ N →
      Parts ρ pl N r q → Parts ρ pl N ((i, x) :: r) ((off, cs) :: q)

theorem foldl_set (off : Nat) : ∀ (vs : List Value) (j : Nat) (cs : Array Value), ((vs.zipIdx j).foldl (fun cs (x : Value × Nat) => cs.setIfInBounds (off + x.2) x.1) cs).size = cs.size ∧
    ∀ k, ((vs.zipIdx j).foldl (fun cs (x : Value × Nat) => cs.setIfInBounds (off + x.2) x.1) cs)[k]? = if off + j ≤ k ∧ k < off + j + vs.length ∧ k < cs.size then vs[k - (off + j)]? else cs[k]?
  | [], j, cs => ⟨rfl, fun k => by rw [if_neg (by simp; omega)]; rfl⟩
  | v :: vs, j, cs => by
    obtain ⟨h1, h2⟩ := foldl_set off vs (j + 1) (cs.setIfInBounds (off + j) v)
    simp only [List.zipIdx_cons, List.foldl_cons]
    refine ⟨by rw [h1]; simp, fun k => ?_⟩
    rw [h2 k]
    simp only [Array.size_setIfInBounds, List.length_cons]
    by_cases hk : off + (j + 1) ≤ k ∧ k < off + (j + 1) + vs.length ∧ k < cs.size
    · rw [if_pos hk, if_pos (by omega)]
      have : k - (off + j) = (k - (off + (j + 1))) + 1 := by omega
      rw [this, List.getElem?_cons_succ]
    · rw [if_neg hk]
      by_cases hk2 : k = off + j
      · subst hk2
        by_cases hlt : off + j < cs.size
        · rw [if_pos (by omega)]; simp [hlt]
        · rw [if_neg (by omega)]; simp [hlt]
      · rw [if_neg (by omega), Array.getElem?_setIfInBounds_ne (by omega)]

theorem fill_ok {g : G} {w : World} {r : Operand → Value} {pl : List (Nat × Nat)} {N : Nat} {place : Nat → Option (Nat × Nat)} (hpl : ∀ (i : Nat) x, pl[i]? = some x → place i = some x) {ps : List (Nat × Operand)} {q : List (Nat × List V)} (h : Parts ρ pl N ps q)
    (hx : ∀ x, x ∈ ps.map (·.2) → Rep g w (ρ x) (r x)) : ∀ {arr : Array Value} {c : List V}, arr.size = N → c.length = N → (∀ (k : Nat) x v, c[k]? = some x → arr[k]? = some v → Rep g w x v) →
    ∃ arr', Instr.fill place arr (ps.map fun p => (p.1, r p.2)) = some arr' ∧ arr'.size = N ∧ (fillV c q).length = N ∧ (∀ (k : Nat) x v, (fillV c q)[k]? = some x → arr'[k]? = some v → Rep g w x v) := by
  induction h with
  | nil => intro arr c h1 h2 h3; exact ⟨arr, rfl, h1, h2, h3⟩
  | @cons i off n x v cs rs q his hcs hone hp hn hN hrest ih =>
    intro arr c h1 h2 h3
    have hr := his.rep (hx x (by simp))
    obtain ⟨hz, hrep⟩ := hr.cs hcs hone
    have hsz : (r x).cells.size = n := by omega
    obtain ⟨f1, f2⟩ := foldl_set off (r x).cells.toList 0 arr
    have hzip : (r x).cells.zipIdx.foldl (fun cs (y : Value × Nat) => cs.setIfInBounds (off + y.2) y.1) arr = ((r x).cells.toList.zipIdx 0).foldl (fun cs (y : Value × Nat) => cs.setIfInBounds (off + y.2) y.1) arr := by
      rw [← Array.foldl_toList, Array.toList_zipIdx]
    obtain ⟨arr', e1, e2, e3, e4⟩ := ih (fun y hy => hx y (by simp at hy ⊢; exact .inr hy)) (arr := ((r x).cells.toList.zipIdx 0).foldl (fun cs (y : Value × Nat) => cs.setIfInBounds (off + y.2) y.1) arr) (c := splice c off cs)
      (by rw [f1]; exact h1) (by simp [splice_eq]; omega) (by
        intro k y u hy hu
        rw [f2 k] at hu
        simp only [Array.length_toList, Nat.add_zero, hsz] at hu
        simp only [splice_eq] at hy
        have l1 : (List.take off c).length = off := by simp; omega
        by_cases hk : k < off
        · rw [if_neg (by omega)] at hu
          rw [List.append_assoc, List.getElem?_append_left (by omega), List.getElem?_take, if_pos hk] at hy
          exact h3 k y u hy hu
        · rw [List.append_assoc, List.getElem?_append_right (by omega), l1] at hy
          by_cases hk2 : k < off + n
          · rw [List.getElem?_append_left (by omega)] at hy
            rw [if_pos (by omega), Array.getElem?_toList] at hu
            exact hrep _ y u hy hu
          · rw [List.getElem?_append_right (by omega), List.getElem?_drop] at hy
            rw [if_neg (by omega)] at hu
            have : off + cs.length + (k - off - cs.length) = k := by omega
            rw [this] at hy
            exact h3 k y u hy hu)
    refine ⟨arr', ?_, e2, by simpa [fillV] using e3, by simpa [fillV] using e4⟩
    simp only [List.map_cons, Instr.fill, hpl _ _ hp, hsz]
    rw [if_neg (by simp; omega)]
    rw [hzip]
    exact e1

theorem op_build {t : Nat} {zs : List Value} {pl : List (Nat × Nat)} {ps : Array (Nat × Operand)} {q : List (Nat × List V)} (hb : Bd P t zs pl) (hp : Parts ρ pl zs.length ps.toList q) :
    OpV P (.build t ps) ty ρ H (.agg (fillV (zs.map absV) q)) H :=
  OpV.of_val fun g w r hw h => by
    obtain ⟨i, z, hi, hz1, hz2, hz3⟩ := hb.z.z
    obtain ⟨fs, hu, hfs⟩ := hb.u
    have hmap : ∀ (l : List Field) (pl : List (Nat × Nat)), l.map (fun f => (f.offset, (P.info? f.type).map (·.size))) = pl.map (fun p => (p.1, some p.2)) → (l.mapM (fun f => Prod.mk f.offset <$> sizeOf f.type)).run P w = .ok pl w := by
      intro l
      induction l with
      | nil => intro pl h; cases pl <;> simp_all
      | cons f l ih =>
        intro pl h
        cases pl with
        | nil => simp at h
        | cons p pl =>
          simp only [List.map_cons, List.cons.injEq, Prod.mk.injEq, Option.map_eq_some_iff] at h
          obtain ⟨⟨h1, ⟨i, hi, his⟩⟩, h3⟩ := h
          simp only [List.mapM_cons, Sem.run_bind, Sem.run_map, run_sizeOf' hi, Result.andThen_ok, Sem.run_pure, ih pl h3, h1, his]
    have hplaces : (fs.mapM (fun f => Prod.mk f.offset <$> sizeOf f.type)).run P w = .ok pl.toArray w := by
      rw [Array.mapM_eq_mapM_toList]
      simp only [Sem.run_map, hmap fs.toList pl hfs, Result.andThen_ok]
    have hzl : z.cells.size = zs.length := by rw [← hz2]; simp
    obtain ⟨arr', e1, e2, e3, e4⟩ := fill_ok (place := fun i => pl[i]?) (g := g) (w := w) (r := r) (fun _ _ h => h) hp (fun x hx => h x (by simpa [Op.operands] using hx)) (arr := z.cells) (c := zs.map absV) hzl (by simp) (fun k x v hx hv => by
      simp only [List.getElem?_map, Option.map_eq_some_iff] at hx
      obtain ⟨y, hy, rfl⟩ := hx
      rw [← hz2, Array.getElem?_toList, hv] at hy
      obtain rfl := Option.some.inj hy
      exact Rep.absV _ _ _)
    refine ⟨.agg arr', fun _ _ _ _ => ?_, .agg (by omega) e4⟩
    simp [execOp, Instr.build, run_zeroValue' hi hz1, run_underlying hu, hplaces, e1]

/- Literals of arrays. -/
structure Ba (P : Program) (t : TypeId) (zs : List Value) (n e s : Nat) : Prop where
  z : Zr P t zs
  u : P.underlying t = some (.array n e)
  i : ∃ i, P.info? e = some i ∧ i.size = s

theorem op_buildArr {t n e s : Nat} {zs : List Value} {ps : Array (Nat × Operand)} {q : List (Nat × List V)} (hb : Ba P t zs n e s) (hp : Parts ρ ((List.range n).map fun i => (i * s, s)) zs.length ps.toList q) :
    OpV P (.build t ps) ty ρ H (.agg (fillV (zs.map absV) q)) H :=
  OpV.of_val fun g w r _ h => by
    obtain ⟨i, z, hi, hz1, hz2, hz3⟩ := hb.z.z
    obtain ⟨ie, hie, hes⟩ := hb.i
    have hzl : z.cells.size = zs.length := by rw [← hz2]; simp
    obtain ⟨arr', e1, e2, e3, e4⟩ := fill_ok (place := fun i => some (i * s, s)) (g := g) (w := w) (r := r) (fun i x hx => by
      simp only [List.getElem?_map, Option.map_eq_some_iff] at hx
      obtain ⟨y, hy, rfl⟩ := hx
      have hlt : i < n := by have := (List.getElem?_eq_some_iff.1 hy).1; simpa using this
      simp [hlt] at hy
      rw [hy]) hp (fun x hx => h x (by simpa [Op.operands] using hx)) (arr := z.cells) (c := zs.map absV) hzl (by simp) (fun k x v hx hv => by
      simp only [List.getElem?_map, Option.map_eq_some_iff] at hx
      obtain ⟨y, hy, rfl⟩ := hx
      rw [← hz2, Array.getElem?_toList, hv] at hy
      obtain rfl := Option.some.inj hy
      exact Rep.absV _ _ _)
    refine ⟨.agg arr', fun _ _ _ _ => ?_, .agg (by omega) e4⟩
    simp [execOp, Instr.build, run_zeroValue' hi hz1, run_underlying hb.u, run_sizeOf' hie, hes, e1]

theorem op_indexAddr_arr {x y : Operand} {t n e s id off : Nat} {k : IntKind} {a : Int} {i : Nat} (hx : Is (ρ x) (.ptr id off)) (hy : As (ρ y) (.int k a)) (hn : a = (i : Int)) (hlt : i < n) (hu : P.underlying t = some (.array n e))
    (hi : ∃ i, P.info? e = some i ∧ i.size = s) : OpV P (.indexAddr t x y) ty ρ H (.ptr id (off + i * s)) H :=
  OpV.of_val fun g w r _ h => by
    subst hn
    have h1 := hx.rep (h x (by simp [Op.operands]))
    have h2 := hy.int (h y (by simp [Op.operands]))
    obtain ⟨ie, hie, hes⟩ := hi
    generalize hr : r x = v at h1
    cases h1 with
    | @ptr _ _ b hb =>
      refine ⟨.pointer (some ⟨b, off + i * s, none⟩), fun _ _ _ _ => ?_, .ptr hb⟩
      simp [execOp, Instr.indexAt, asIntOf, hr, h2, run_underlying hu, Instr.sureAddr, hlt, run_sizeOf' hie, hes, Addr.add_none]

/- Literals of slices. -/
inductive Els (ρ : Operand → V) (s : Nat) : Nat → List (Nat × Operand) → List D → Prop
  | nil {i : Nat} : Els ρ s i [] []
  | cons {i : Nat} {x : Operand} {d : D} {r : List (Nat × Operand)} {ds : List D} : As (ρ x) d → d.cells.length = s → (∀ y, y ∈ d.cells → y.one = true) → Els ρ s (i + 1) r ds → Els ρ s i ((i, x) :: r) (d :: ds)

theorem Els.sizes {s i : Nat} {ps : List (Nat × Operand)} {ds : List D} (h : Els ρ s i ps ds) : ps.length = ds.length ∧ ∀ x ∈ ds, x.cells.length = s := by
  induction h with
  | nil => simp
  | cons _ hs _ _ ih => exact ⟨by simp [ih.1], by intro x hx; rcases List.mem_cons.1 hx with rfl | hx; exact hs; exact ih.2 x hx⟩

theorem RepD.cells {Pr : Nat → Nat → Prop} {w : World} {x : D} {r : Value} (h : RepD Pr w x r) (h1 : ∀ y, y ∈ x.cells → y.one = true) :
    r.cells.size = x.cells.length ∧ ∀ (i : Nat) y u, x.cells[i]? = some y → r.cells[i]? = some u → RepD Pr w y u := by
  have single : x.cells = [x] → r.cells.size = x.cells.length ∧ ∀ (i : Nat) y u, x.cells[i]? = some y → r.cells[i]? = some u → RepD Pr w y u := by
    intro hv
    have hone := h.one (h1 x (by rw [hv]; simp))
    have hr : r.cells = #[r] := by cases r <;> simp_all [Value.cells, Value.oneCell']
    rw [hr, hv]
    refine ⟨by simp, fun i y u hy hu => ?_⟩
    cases i with
    | zero => simp only [List.getElem?_cons_zero, Option.some.injEq] at hy; simp at hu; subst hy; subst hu; exact h
    | succ i => simp at hy
  cases x with
  | agg l =>
    cases h with
    | agg _ arr hs hr => exact ⟨by simpa [D.cells, Value.cells] using hs, fun i y u hy hu => hr i y u hy hu⟩
  | _ => exact single rfl

theorem fill_els {g : G} {w : World} {r : Operand → Value} {s : Nat} {i : Nat} {ps : List (Nat × Operand)} {ds : List D} (h : Els ρ s i ps ds)
    (hx : ∀ x, x ∈ ps.map (·.2) → Rep g w (ρ x) (r x)) : ∀ {arr : Array Value}, arr.size = (i + ds.length) * s →
    ∃ arr', Instr.fill (fun i => some (i * s, s)) arr (ps.map fun p => (p.1, r p.2)) = some arr' ∧ arr'.size = arr.size ∧ (∀ k, k < i * s → arr'[k]? = arr[k]?) ∧
      (∀ (k : Nat) x, (D.flat ds)[k]? = some x → ∀ v, arr'[i * s + k]? = some v → RepD g.Pr w x v) := by
  induction h with
  | nil => intro arr h1; exact ⟨arr, rfl, rfl, fun _ _ => rfl, by simp [D.flat]⟩
  | @cons i x d rs ds has hs hone hrest ih =>
    intro arr h1
    simp only [List.length_cons] at h1
    have hd := has.rep (hx x (by simp))
    obtain ⟨hz, hrep⟩ := hd.cells hone
    have hsz : (r x).cells.size = s := by omega
    obtain ⟨f1, f2⟩ := foldl_set (i * s) (r x).cells.toList 0 arr
    have hzip : (r x).cells.zipIdx.foldl (fun cs (y : Value × Nat) => cs.setIfInBounds (i * s + y.2) y.1) arr = ((r x).cells.toList.zipIdx 0).foldl (fun cs (y : Value × Nat) => cs.setIfInBounds (i * s + y.2) y.1) arr := by
      rw [← Array.foldl_toList, Array.toList_zipIdx]
    have hmul : (i + 1) * s = i * s + s := by rw [Nat.add_mul]; omega
    have hle : i * s + s ≤ arr.size := by
      rw [h1, ← hmul]; exact Nat.mul_le_mul_right _ (by omega)
    obtain ⟨arr', e1, e2, e3, e4⟩ := ih (fun y hy => hx y (by simp at hy ⊢; exact .inr hy)) (arr := ((r x).cells.toList.zipIdx 0).foldl (fun cs (y : Value × Nat) => cs.setIfInBounds (i * s + y.2) y.1) arr) (by rw [f1, h1]; congr 1; omega)
    refine ⟨arr', ?_, by rw [e2, f1], fun k hk => ?_, fun k y hy v hv => ?_⟩
    · simp only [List.map_cons, Instr.fill, hsz]
      rw [if_neg (by simp; omega)]
      rw [hzip]; exact e1
    · rw [e3 k (by omega), f2 k, if_neg (by omega)]
    · simp only [D.flat, List.flatMap_cons] at hy
      by_cases hk : k < s
      · rw [List.getElem?_append_left (by omega)] at hy
        rw [e3 _ (by omega), f2, if_pos (by simp; omega), Array.getElem?_toList] at hv
        have : i * s + k - (i * s + 0) = k := by omega
        rw [this] at hv
        exact hrep k y v hy hv
      · rw [List.getElem?_append_right (by omega), hs] at hy
        refine e4 (k - s) y hy v ?_
        rw [← hv]; congr 1; omega

/-- New memory that nobody writes any more. -/
theorem WOK.newPr {g : G} {w w' : World} {arr : Array Value} {et : TypeId} {fr : Nat × Nat} (hw : WOK g w H) (hsame : w'.os = w.os ∧ w'.tape = w.tape ∧ w'.output = w.output) (hsz : w'.heap.size = w.heap.size + 1) (hold : ∀ b, b < w.heap.size → w'.heap[b]? = w.heap[b]?)
    (_ : w'.heap[w.heap.size]? = some (.cells arr et fr)) :
    ∃ g', WOK g' w' H ∧ Evo g w g' w' ∧ (∀ o, o < arr.size → g'.Pr w.heap.size o) := by
  let B := w.heap.size
  let g' : G := { σ := g.σ, τ := g.τ, υ := g.υ, X := g.X, Pr := fun b o => g.Pr b o ∨ (b = B ∧ o < arr.size) }
  have hev : Evo g w g' w' := {
    same := hsame
    size := by omega
    pr := fun b o hp => ⟨.inl hp, by have := hw.pr b o hp; simp [World.cell?, hold b this]⟩
    prn := fun b o h => by
      rcases h with h | ⟨rfl, _⟩
      · exact .inl h
      · exact .inr (.inr (Nat.le_refl _))
    x := fun b h => .inl h
    keep := fun b hb _ => hold b hb
    σ := fun i b h => h
    τ := fun _ m a cap h => ⟨m, a, cap, h, .inr ⟨rfl, rfl, rfl⟩⟩ }
  refine ⟨g', ⟨?_, fun b h => by have := hw.xs b h; omega, hw.blk, hw.sep, ?_, ?_, ?_, ?_, hw.free, hw.kcE hev⟩, hev, fun o ho => .inr ⟨rfl, ho⟩⟩
  · intro b o h
    rcases h with h | ⟨rfl, _⟩
    · have := hw.pr b o h; omega
    · omega
  · intro i ci hi
    obtain ⟨b1, arr1, et1, g1, g2, g3, g4, g5⟩ := hw.row i ci hi
    have hlt := hw.xs b1 (hw.blk i _ b1 hi (by simpa [G.blk] using g1))
    refine ⟨b1, arr1, et1, g1, (hold b1 hlt).trans g2, g3, fun k x v hx hv => (g4 k x v hx hv).mono hev, fun o hp => ?_⟩
    rcases hp with hp | ⟨rfl, _⟩
    · exact g5 o hp
    · omega
  · intro i n e s hi
    obtain ⟨a, cap, g1, g2, g3, g4⟩ := hw.tok i n e s hi
    refine ⟨a, cap, g1, g2, g3, fun hlt => ?_⟩
    obtain ⟨b1, arr1, k1, k2, k3, k4⟩ := g4 hlt
    have hlt' := hw.xs b1 (hw.blk i _ b1 hi (by simp [G.blk, g1, hlt, k1]))
    refine ⟨b1, arr1, k1, (hold b1 hlt').trans k2, k3, fun o hp => ?_⟩
    rcases hp with hp | ⟨rfl, _⟩
    · exact k4 o hp
    · omega
  · intro i l e s hi
    obtain ⟨a, cap, g1, g2, g3, g4⟩ := hw.lst i l e s hi
    refine ⟨a, cap, g1, g2, g3, fun hlt => ?_⟩
    obtain ⟨b1, arr1, k1, k0, k2, k3, k4, k5⟩ := g4 hlt
    have hlt' := hw.xs b1 (hw.blk i _ b1 hi (by simp [G.blk, g1, hlt, k1]))
    refine ⟨b1, arr1, k1, k0, (hold b1 hlt').trans k2, k3, fun o hp => ?_, fun k x v hx hv => (k5 k x v hx hv).mono hev.pr⟩
    rcases hp with hp | ⟨rfl, _⟩
    · exact k4 o hp
    · omega
  · intro i x hi
    obtain ⟨b1, q1, q2, q3, q4⟩ := hw.ob i x hi
    have hlt := hw.xs b1 (hw.blk i _ b1 hi (.inl q1))
    have hlu : ∀ b', g.υ i b' → b' < w.heap.size := fun b' hu => hw.xs b' (hw.blk i _ b' hi (.inr hu))
    refine ⟨b1, q1, x.st hev.w rfl rfl (hold b1 hlt) (fun b' hu => hold b' (hlu b' hu)) q2, fun o hp => ?_, fun b' o hu hp => ?_⟩
    · rcases hp with hp | ⟨rfl, _⟩
      · exact q3 o hp
      · omega
    · have := hlu b' hu
      rcases hp with hp | ⟨rfl, _⟩
      · exact q4 b' o hu hp
      · omega

theorem op_buildSlice {t e s bytes : Nat} {ps : Array (Nat × Operand)} {n : Nat} {ds : List D} (ht : SlT P t e s bytes) (hp : Els ρ s 0 ps.toList ds) (hn : ds.length = n) (hle : n * s ≤ 2 ^ 24) :
    OpV P (.buildSlice t n ps) ty ρ H (.ex ds) H := by
  intro g w r pos after guard dst hw h
  obtain ⟨ie, z, hie, hsz, _, hz1, hz2⟩ := ht.i
  let zero : Array Value := if n * s = 0 then #[] else z.cells
  obtain ⟨arr', e1, e2, _, e4⟩ := fill_els hp (g := g) (w := w) (r := r) (fun x hx => h x (by simpa [Op.operands] using hx)) (arr := (Array.range (n * s)).map fun i => zero[i % zero.size]!) (by simp [hn])
  have hps := hp.sizes
  have h4 : (World.heap { w with heap := w.heap.push (.cells arr' e (0, 0)) })[w.heap.size]? = some (.cells arr' e (0, 0)) := by simp
  obtain ⟨g', h1, h2, h3⟩ := hw.newPr (w' := { w with heap := w.heap.push (.cells arr' e (0, 0)) }) (arr := arr') (et := e) ⟨rfl, rfl, rfl⟩ (by simp) (fun b hb => by
    rw [show World.heap { w with heap := w.heap.push (.cells arr' e (0, 0)) } = w.heap.push (.cells arr' e (0, 0)) from rfl, Array.getElem?_push, if_neg (by omega)]) h4
  have hsize : arr'.size = n * s := by rw [e2]; simp
  have hcell : ∀ k, k < n * s → (World.cell? { w with heap := w.heap.push (.cells arr' e (0, 0)) } ⟨w.heap.size, 0 + k, none⟩) = some (arr'.getD k undef) := fun k hk => by
    rw [cell_of_cells h4]
    have : k < arr'.size := by omega
    simp [Array.getD, this]
  have hfill : Instr.fill (fun i => some (i * s, s)) ((Array.range (n * s)).map fun i => zero[i % zero.size]!) (ps.map fun p => (p.1, r p.2)).toList = some arr' := by
    rw [← e1]; simp
  unfold OpRuns
  have hrun : (Instr.buildSlice t n (ps.map fun p => (p.1, r p.2))).run P w = .ok (.slice (some ⟨w.heap.size, 0, none⟩) n n) { w with heap := w.heap.push (.cells arr' e (0, 0)) } := by
    have hng : ¬ (n * s > 2 ^ 24) := by omega
    simp only [Instr.buildSlice, Sem.run_bind, run_underlying ht.u, Result.andThen_ok, run_sizeOf' hie, hsz, if_neg hng]
    by_cases h0 : n * s = 0
    · have hz : zero = #[] := by simp [zero, h0]
      rw [hz] at hfill
      rw [if_pos h0]
      simp only [Sem.run_pure, Result.andThen_ok, hfill, newRow, Sem.run_bind, run_newObj]
    · have hz : zero = z.cells := by simp only [zero, if_neg h0]
      rw [hz] at hfill
      rw [if_neg h0]
      simp only [Sem.run_bind, run_zeroValue' hie hz1, Sem.run_pure, Result.andThen_ok, hfill, newRow, run_newObj]
  simp only [execOp, Sem.run_bind, hrun, Result.andThen_ok, Sem.run_pure]
  refine ⟨g', h1, h2, ?_⟩
  subst hn
  refine .ex (.sl ds _ _ s (fun k => arr'.getD k undef) hps.2 (Nat.le_refl _) (fun _ => ⟨w.heap.size, 0, rfl, fun k hk => ⟨by simpa using h3 k (by omega), hcell k hk⟩⟩) (fun k x hx => ?_))
  have hk : k < ds.length * s := by rw [← flat_length hps.2]; exact (List.getElem?_eq_some_iff.1 hx).1
  have hk' : k < arr'.size := by omega
  have := e4 k x hx arr'[k] (by simp [hk'])
  simp only [Array.getD, hk', dif_pos]
  exact this.mono h2.pr

end
end Go.Proofs.YtindppnanjcoaaaGreatDoor.Ab
end
