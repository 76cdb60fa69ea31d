/- Operations on texts, slices and rows of memory over abstract states. Conditions: none. -/
import Derived.Test.YtjinohfopjlgkaaAb3
namespace Go.Proofs.Ytjinohfopjlgkaa.Ab
open Go

section
variable {P : Program} {ρ : Operand → V} {H : List HE} {ty : TypeId}

/- Texts. -/
section strs
variable {x y : Operand} {t u : TypeId} {s s' : List UInt8}
end strs

/- Slices that are read. -/
theorem flat_get : ∀ {l : List D} {s : Nat}, (∀ x ∈ l, x.cells.length = s) → ∀ {k j : Nat} {e : D}, l[k]? = some e → j < s → (D.flat l)[k * s + j]? = e.cells[j]?
  | [], _, _, k, _, _, h, _ => by simp at h
  | a :: l, s, hs, 0, j, e, h, hj => by
    simp only [List.getElem?_cons_zero, Option.some.injEq] at h
    subst h
    have ha := hs a (by simp)
    simp only [D.flat, List.flatMap_cons, Nat.zero_mul, Nat.zero_add]
    rw [List.getElem?_append_left (by omega)]
  | a :: l, s, hs, k + 1, j, e, h, hj => by
    have ha := hs a (by simp)
    have ih := flat_get (l := l) (s := s) (fun x hx => hs x (by simp [hx])) (k := k) (j := j) (e := e) (by simpa using h) hj
    simp only [D.flat, List.flatMap_cons] at ih ⊢
    rw [List.getElem?_append_right (by rw [ha, Nat.add_mul]; omega), ha, ← ih]
    congr 1
    rw [Nat.add_mul]; omega

theorem flat_length : ∀ {l : List D} {s : Nat}, (∀ x ∈ l, x.cells.length = s) → (D.flat l).length = l.length * s
  | [], _, _ => by simp [D.flat]
  | a :: l, s, hs => by
    have ih := flat_length (l := l) (s := s) (fun x hx => hs x (by simp [hx]))
    have ha := hs a (by simp)
    simp only [D.flat, List.flatMap_cons, List.length_append, List.length_cons] at ih ⊢
    rw [ih, ha, Nat.add_mul]; omega

theorem op_len {x : Operand} {t e s bytes : Nat} {l : List D} (hx : As (ρ x) (.sl l)) (ht : SlT P t e s bytes) : OpV P (.call ⟨.builtin .len, #[x], #[t]⟩) ty ρ H (.d (.int .i64 l.length)) H :=
  OpV.of_val fun _ _ r _ h => ⟨.int .i64 l.length, fun _ _ _ _ => by
    have := hx.rep (h x (by simp [Op.operands, Call.operands]))
    generalize hr : r x = v at this
    cases this
    simp [execOp, resolve, invoke, builtin, Builtin.len_, run_underlying ht.u, hr, goInt], .d (.int _ _)⟩

theorem op_indexAddr {x y : Operand} {t e s bytes : Nat} {l : List D} {k : IntKind} {n : Int} {i : Nat} {el : D} (hx : As (ρ x) (.sl l)) (hy : As (ρ y) (.int k n)) (hn : n = (i : Int))
    (hc : l[i]? = some el) (ht : SlT P t e s bytes) (hs : el.cells.length = s) : OpV P (.indexAddr t x y) ty ρ H (.vp el.cells 0) H :=
  OpV.of_val fun g w r _ h => by
    subst hn
    have h1 := hx.rep (h x (by simp [Op.operands]))
    have h2 := hy.int (h y (by simp [Op.operands]))
    have hi : i < l.length := (List.getElem?_eq_some_iff.1 hc).1
    have hmem : el ∈ l := List.mem_of_getElem? hc
    generalize hr : r x = v at h1
    obtain ⟨ie, z, hie, hsz, _⟩ := ht.i
    cases h1 with
    | sl l a cap s' f hs' hcap hrow hrep =>
      have hss : s' = s := by rw [← hs' el hmem, hs]
      subst hss
      obtain ⟨b, o, rfl, hk⟩ := hrow (by intro h0; rw [h0] at hi; simp at hi)
      refine ⟨.pointer (some ⟨b, o + i * s', none⟩), fun _ _ _ _ => ?_, ?_⟩
      · simp [execOp, Instr.indexAt, asIntOf, hr, h2, run_underlying ht.u, hi, run_sizeOf' hie, hsz, Addr.add_none]
      · have := Rep.vp (g := g) (w := w) (c := el.cells) (off := 0) (b := b) (o := o + i * s') (f := fun j => f (i * s' + j))
          (fun j hj => by
            have hlt : i * s' + j < l.length * s' := by
              have : (i + 1) * s' ≤ l.length * s' := Nat.mul_le_mul_right _ hi
              rw [Nat.add_mul] at this; omega
            have := hk (i * s' + j) hlt
            rwa [← Nat.add_assoc] at this)
          (fun j x hx => hrep (i * s' + j) x (by
            have hj : j < s' := by rw [← hs]; exact (List.getElem?_eq_some_iff.1 hx).1
            rw [flat_get hs' hc hj]; exact hx))
        simpa using this

theorem op_load_vp1 {x : Operand} {t off : Nat} {c : List D} {y : D} (hx : Is (ρ x) (.vp c off)) (hc : c[off]? = some y) (ht : Sc P t) : OpV P (.load t x) ty ρ H (.d y) H :=
  OpV.of_val fun g w r _ h => by
    have h1 := hx.rep (h x (by simp [Op.operands]))
    generalize hr : r x = v at h1
    cases h1 with
    | vp hk hrep =>
      have hlt := (List.getElem?_eq_some_iff.1 hc).1
      exact ⟨_, fun _ _ _ _ => by simp [execOp, Instr.loadAt, Instr.sureAddr, hr, run_loadVar_one ht (hk off hlt).2], .d (hrep _ _ hc)⟩

theorem op_load_vpA {x : Operand} {t n off : Nat} {c cs : List D} (hx : Is (ρ x) (.vp c off)) (hc : (c.drop off).take n = cs) (hn : cs.length = n) (ht : Ag P t n) : OpV P (.load t x) ty ρ H (.d (.agg cs)) H :=
  OpV.of_val fun g w r _ h => by
    have h1 := hx.rep (h x (by simp [Op.operands]))
    generalize hr : r x = v at h1
    have hle : off + n ≤ c.length ∨ n = 0 := by
      subst hc; simp at hn; omega
    cases h1 with
    | @vp _ _ b o f hk hrep =>
      refine ⟨.agg ((List.range n).map fun k => f (off + k)).toArray, fun _ _ _ _ => ?_, .d (.agg _ _ (by simp [hn]) (fun i y v hy hv => ?_))⟩
      · have := run_loadVar_agg (P := P) ht (w := w) (b := b) (o := o + off) (f := fun k => f (off + k)) (fun k hkn => by
          rw [Nat.add_assoc]; exact (hk (off + k) (by omega)).2)
        simp [execOp, Instr.loadAt, Instr.sureAddr, hr, this]
      · have hi : i < n := by rw [← hn]; exact (List.getElem?_eq_some_iff.1 hy).1
        have hv' : v = f (off + i) := by
          simp [hi] at hv; exact hv.symm
        rw [hv']
        refine hrep (off + i) y ?_
        rw [← hc, List.getElem?_take, if_pos hi, List.getElem?_drop] at hy
        exact hy

theorem op_field_ptr {x : Operand} {t k id off fo : Nat} (hx : Is (ρ x) (.ptr id off)) (ht : Fd P t k fo) : OpV P (.fieldAddr t x k) ty ρ H (.ptr id (off + fo)) H :=
  OpV.of_val fun g w r _ h => by
    have h1 := hx.rep (h x (by simp [Op.operands]))
    generalize hr : r x = v at h1
    obtain ⟨fs, f, hu, hf, hfo, i, hi, hne⟩ := ht.u
    cases h1 with
    | @ptr _ _ b hb =>
      refine ⟨.pointer (some ⟨b, off + fo, none⟩), fun _ _ _ _ => ?_, .ptr hb⟩
      simp [execOp, Instr.fieldAt, Instr.sureAddr, hr, run_underlying hu, hf, fieldPlace, run_sizeOf' hi, hne, hfo, Addr.add_none]

/- Rows of the walk's own. -/
theorem cell_of_cells {w : World} {b o : Nat} {arr : Array Value} {et : TypeId} {fr : Nat × Nat} (h : w.heap[b]? = some (.cells arr et fr)) : w.cell? ⟨b, o, none⟩ = arr[o]? := by
  simp [World.cell?, h]

theorem op_load_ptr1 {x : Operand} {t id off : Nat} {c : List V} {y : V} (hx : Is (ρ x) (.ptr id off)) (hH : H[id]? = some (.row c)) (hc : c[off]? = some y) (ht : Sc P t) : OpV P (.load t x) ty ρ H y H :=
  OpV.of_val fun g w r hw h => by
    have h1 := hx.rep (h x (by simp [Op.operands]))
    generalize hr : r x = v at h1
    cases h1 with
    | @ptr _ _ b hb =>
      obtain ⟨b', arr, et, e1, e2, e3, e4, _⟩ := hw.row id c hH
      obtain rfl : b = b' := by rw [hb] at e1; exact Option.some.inj e1
      have hlt : off < arr.size := Nat.lt_of_lt_of_le (List.getElem?_eq_some_iff.1 hc).1 e3
      have hcell : w.cell? ⟨b, off, none⟩ = some arr[off] := by rw [cell_of_cells e2]; simp [hlt]
      exact ⟨arr[off], fun _ _ _ _ => by simp [execOp, Instr.loadAt, Instr.sureAddr, hr, run_loadVar_one ht hcell], e4 off y _ hc (by simp [hlt])⟩

theorem op_load_ptrA {x : Operand} {t n id off : Nat} {c cs : List V} (hx : Is (ρ x) (.ptr id off)) (hH : H[id]? = some (.row c)) (hc : (c.drop off).take n = cs) (hn : cs.length = n) (ht : Ag P t n) :
    OpV P (.load t x) ty ρ H (.agg cs) H :=
  OpV.of_val fun g w r hw h => by
    have h1 := hx.rep (h x (by simp [Op.operands]))
    generalize hr : r x = v at h1
    have hle : off + n ≤ c.length ∨ n = 0 := by
      subst hc; simp at hn; omega
    cases h1 with
    | @ptr _ _ b hb =>
      obtain ⟨b', arr, et, e1, e2, e3, e4, _⟩ := hw.row id c hH
      obtain rfl : b = b' := by rw [hb] at e1; exact Option.some.inj e1
      have hcell : ∀ k, k < n → w.cell? ⟨b, off + k, none⟩ = some (arr.getD (off + k) undef) := fun k hk => by
        rw [cell_of_cells e2]
        have : off + k < arr.size := by omega
        simp [Array.getD, this]
      refine ⟨.agg ((List.range n).map fun k => arr.getD (off + k) undef).toArray, fun _ _ _ _ => ?_, .agg (by simp [hn]) (fun i y v hy hv => ?_)⟩
      · simp [execOp, Instr.loadAt, Instr.sureAddr, hr, run_loadVar_agg ht hcell]
      · have hi : i < n := by rw [← hn]; exact (List.getElem?_eq_some_iff.1 hy).1
        have hlt : off + i < arr.size := by omega
        have hv' : v = arr[off + i] := by
          simp [hi, Array.getD, hlt] at hv; exact hv.symm
        rw [hv']
        refine e4 (off + i) y _ ?_ (by simp [hlt])
        rw [← hc, List.getElem?_take, if_pos hi, List.getElem?_drop] at hy
        exact hy

/-- Cells that can stand in one cell of memory. -/
def D.one : D → Bool
  | .agg _ | .tup _ => false
  | .raw v => v.oneCell'
  | _ => true
def V.one : V → Bool
  | .d x => x.one
  | .agg _ | .tup _ | .when _ _ | .any => false
  | _ => true
theorem RepD.one {Pr : Nat → Nat → Prop} {w : World} {x : D} {r : Value} (h : RepD Pr w x r) (hx : x.one = true) : r.oneCell' = true := by
  cases h <;> simp_all [D.one, Value.oneCell']
theorem Rep.one {g : G} {w : World} {x : V} {r : Value} (h : Rep g w x r) (hx : x.one = true) : r.oneCell' = true := by
  cases h with
  | d h => exact h.one hx
  | tk h => exact h.one rfl
  | _ => first | rfl | simp [V.one] at hx

def V.cs : V → List V
  | .agg l => l
  | .d (.agg l) => l.map .d
  | v => [v]

theorem Rep.cs {g : G} {w : World} {v : V} {r : Value} {c : List V} (h : Rep g w v r) (hc : v.cs = c) (h1 : c.all V.one = true) :
    r.cells.size = c.length ∧ ∀ (i : Nat) x u, c[i]? = some x → r.cells[i]? = some u → Rep g w x u := by
  subst hc
  have single : v.cs = [v] → r.cells.size = v.cs.length ∧ ∀ (i : Nat) x u, v.cs[i]? = some x → r.cells[i]? = some u → Rep g w x u := by
    intro hv
    rw [hv] at h1 ⊢
    have hone := h.one (by simpa using h1)
    have hr : r.cells = #[r] := by cases r <;> simp_all [Value.cells, Value.oneCell']
    rw [hr]
    refine ⟨by simp, fun i x u hx hu => ?_⟩
    cases i with
    | zero => simp only [List.getElem?_cons_zero, Option.some.injEq] at hx; simp at hu; subst hx; subst hu; exact h
    | succ i => simp at hx
  cases v with
  | agg l =>
    cases h with
    | agg hs hr => exact ⟨by simpa [V.cs, Value.cells] using hs, fun i x u hx hu => hr i x u hx hu⟩
  | d x =>
    cases x with
    | agg l =>
      cases h with
      | d h =>
        cases h with
        | agg _ arr hs hr =>
          refine ⟨by simpa [V.cs, Value.cells] using hs, fun i x u hx hu => ?_⟩
          simp only [V.cs, List.getElem?_map, Option.map_eq_some_iff] at hx
          obtain ⟨y, hy, rfl⟩ := hx
          exact .d (hr i y u hy hu)
    | _ => exact single rfl
  | _ => exact single rfl

theorem WOK.store {g : G} {w w' : World} {id b : Nat} {c c' : List V} {arr arr' : Array Value} {et : TypeId} (hw : WOK g w H) (hH : H[id]? = some (.row c)) (hb : g.σ id = some b)
    (e2 : w.heap[b]? = some (.cells arr et (0, 0))) (hsame : w'.os = w.os ∧ w'.tape = w.tape ∧ w'.output = w.output) (hsz : w'.heap.size = w.heap.size) (hn : w'.heap[b]? = some (.cells arr' et (0, 0))) (ho : ∀ b', b' ≠ b → w'.heap[b']? = w.heap[b']?)
    (hlen : c'.length ≤ arr'.size) (hrep : ∀ (k : Nat) x v, c'[k]? = some x → arr'[k]? = some v → Rep g w x v) : WOK g w' (H.set id (.row c')) ∧ Evo g w g w' := by
  have hidlt : id < H.length := (List.getElem?_eq_some_iff.1 hH).1
  have hX : g.X b := hw.blk id _ b hH (by simpa [G.blk] using hb)
  obtain ⟨b0, arr0, et0, f1, f2, f3, f4, hPr⟩ := hw.row id c hH
  obtain rfl : b = b0 := by rw [hb] at f1; exact Option.some.inj f1
  have hev : Evo g w g w' := {
    same := hsame
    size := by omega
    pr := fun b' o hp => ⟨hp, by
      have hne : b' ≠ b := fun e => by subst e; exact hPr o hp
      simp [World.cell?, ho b' hne]⟩
    prn := fun b o h => .inl h
    x := fun b h => .inl h
    keep := fun b' _ hx => ho b' (fun e => by subst e; exact hx hX)
    σ := fun _ _ h => h
    τ := fun _ m a cap h => ⟨m, a, cap, h, .inr ⟨rfl, rfl, rfl⟩⟩ }
  have hget : ∀ (i : Nat) e, (H.set id (.row c'))[i]? = some e → (i = id ∧ e = .row c') ∨ (i ≠ id ∧ H[i]? = some e) := by
    intro i e he
    by_cases hi : i = id
    · subst hi; rw [List.getElem?_set_self hidlt] at he; exact .inl ⟨rfl, (Option.some.inj he).symm⟩
    · rw [List.getElem?_set_ne (Ne.symm hi)] at he; exact .inr ⟨hi, he⟩
  have hblk : ∀ (i : Nat) e b', (H.set id (.row c'))[i]? = some e → g.blk i e b' → ∃ e', H[i]? = some e' ∧ g.blk i e' b' := by
    intro i e b' he hb'
    rcases hget i e he with ⟨rfl, rfl⟩ | ⟨_, h⟩
    · exact ⟨_, hH, hb'⟩
    · exact ⟨e, h, hb'⟩
  refine ⟨⟨fun b o h => by rw [hsz]; exact hw.pr b o h, fun b h => by rw [hsz]; exact hw.xs b h, ?_, ?_, ?_, ?_, ?_, ?_, ?_, hw.kcE hev⟩, hev⟩
  · intro i e b' he hb'
    obtain ⟨e', h1, h2⟩ := hblk i e b' he hb'
    exact hw.blk i e' b' h1 h2
  · intro i i' e e' b' he he' hb1 hb2
    obtain ⟨e1, h1, h2⟩ := hblk i e b' he hb1
    obtain ⟨e3, h3, h4⟩ := hblk i' e' b' he' hb2
    exact hw.sep i i' e1 e3 b' h1 h3 h2 h4
  · intro i ci hi
    rcases hget i _ hi with ⟨rfl, he⟩ | ⟨hne, h⟩
    · obtain rfl : ci = c' := by injection he
      exact ⟨b, arr', et, hb, hn, hlen, fun k x v hx hv => (hrep k x v hx hv).mono hev, hPr⟩
    · obtain ⟨b1, arr1, et1, g1, g2, g3, g4, g5⟩ := hw.row i ci h
      have hne' : b1 ≠ b := fun e => hne (hw.sep i id _ _ b1 h hH (by simpa [G.blk] using g1) (by rw [e]; simpa [G.blk] using hb))
      exact ⟨b1, arr1, et1, g1, (ho b1 hne').trans g2, g3, fun k x v hx hv => (g4 k x v hx hv).mono hev, g5⟩
  · intro i n e s hi
    rcases hget i _ hi with ⟨_, he⟩ | ⟨hne, h⟩
    · cases he
    · obtain ⟨a, cap, g1, g2, g3, g4⟩ := hw.tok i n e s h
      refine ⟨a, cap, g1, g2, g3, fun hlt => ?_⟩
      obtain ⟨b1, arr1, k1, k2, k3, k4⟩ := g4 hlt
      have hne' : b1 ≠ b := fun e' => hne (hw.sep i id _ _ b1 h hH (by simp [G.blk, g1, hlt, k1]) (by rw [e']; simpa [G.blk] using hb))
      exact ⟨b1, arr1, k1, (ho b1 hne').trans k2, k3, k4⟩
  · intro i l e s hi
    rcases hget i _ hi with ⟨_, he⟩ | ⟨hne, h⟩
    · cases he
    · obtain ⟨a, cap, g1, g2, g3, g4⟩ := hw.lst i l e s h
      refine ⟨a, cap, g1, g2, g3, fun hlt => ?_⟩
      obtain ⟨b1, arr1, k1, k0, k2, k3, k4, k5⟩ := g4 hlt
      have hne' : b1 ≠ b := fun e' => hne (hw.sep i id _ _ b1 h hH (by simp [G.blk, g1, hlt, k1]) (by rw [e']; simpa [G.blk] using hb))
      exact ⟨b1, arr1, k1, k0, (ho b1 hne').trans k2, k3, k4, fun k x v hx hv => (k5 k x v hx hv).mono hev.pr⟩
  · intro i x hi
    rcases hget i _ hi with ⟨_, he⟩ | ⟨hne, h⟩
    · cases he
    · obtain ⟨b1, q1, q2, q3, q4⟩ := hw.ob i x h
      have hne' : b1 ≠ b := fun e => hne (hw.sep i id _ _ b1 h hH (.inl q1) (by rw [e]; simpa [G.blk] using hb))
      have hnu : ∀ b', g.υ i b' → b' ≠ b := fun b' hu e => hne (hw.sep i id _ _ b' h hH (.inr hu) (by rw [e]; simpa [G.blk] using hb))
      exact ⟨b1, q1, x.st hev rfl rfl (ho b1 hne') (fun b' hu => ho b' (hnu b' hu)) q2, q3, q4⟩
  · intro i hi
    refine hw.free i ?_
    rcases hi with hi | hi
    · rcases hget i _ hi with ⟨_, he⟩ | ⟨_, h⟩
      · cases he
      · exact .inl h
    · exact .inr (by simpa using hi)

def splice : List V → Nat → List V → List V
  | [], _, n => n
  | x :: c, off + 1, n => x :: splice c off n
  | x :: c, 0, [] => x :: c
  | _ :: c, 0, y :: n => y :: splice c 0 n
theorem splice_eq : ∀ (c : List V) (off : Nat) (n : List V), splice c off n = c.take off ++ n ++ c.drop (off + n.length)
  | [], off, n => by simp [splice]
  | x :: c, off + 1, n => by
    rw [splice, splice_eq c off n]
    simp [show off + 1 + n.length = (off + n.length) + 1 by omega]
  | x :: c, 0, [] => by simp [splice]
  | x :: c, 0, y :: n => by
    rw [splice, splice_eq c 0 n]
    simp

theorem op_store {x y : Operand} {t n id off : Nat} {c cs : List V} {v : V} (hx : Is (ρ x) (.ptr id off)) (hy : Is (ρ y) v) (hH : H[id]? = some (.row c)) (hv : v.cs = cs) (h1 : cs.all V.one = true)
    (hsz : ∃ i, P.info? t = some i ∧ i.size = n) (hn : cs.length = n) (hle : off + n ≤ c.length) : OpV P (.store t x y) ty ρ H .any (H.set id (.row (splice c off cs))) := by
  intro g w r pos after guard dst hw h
  have hp := hx.rep (h x (by simp [Op.operands]))
  have hu := hy.rep (h y (by simp [Op.operands]))
  obtain ⟨hcz, hcr⟩ := hu.cs hv h1
  obtain ⟨i, hi, his⟩ := hsz
  generalize hr : r x = v' at hp
  cases hp with
  | @ptr _ _ b hb =>
    obtain ⟨b', arr, et, e1, e2, e3, e4, _⟩ := hw.row id c hH
    obtain rfl : b = b' := by rw [hb] at e1; exact Option.some.inj e1
    have hone : ∀ u ∈ (r y).cells.toList, u.oneCell' = true := fun u hu' => by
      obtain ⟨j, hj⟩ := List.getElem?_of_mem hu'
      rw [Array.getElem?_toList] at hj
      have hjl : j < cs.length := by rw [← hcz]; exact (Array.getElem?_eq_some_iff.1 hj).1
      exact (hcr j cs[j] u (List.getElem?_eq_getElem hjl) hj).one (List.all_eq_true.1 h1 _ (List.getElem_mem hjl))
    have hrun := run_storeCells_at P b off et (r y).cells.toList 0 arr w e2 (by simp; omega) hone
    have hsize : (r y).cells.size = i.size := by omega
    unfold OpRuns
    simp only [execOp, Instr.storeAt, Instr.sureAddr, hr, Sem.run_bind, Sem.run_pure, Result.andThen_ok, storeVar, run_sizeOf' hi, hsize, ne_eq, not_true_eq_false, if_false, hrun]
    refine ⟨g, ?_⟩
    have key := WOK.store (w' := w.setRow b (arr.toList.take (off + 0) ++ (r y).cells.toList ++ arr.toList.drop (off + 0 + (r y).cells.toList.length)).toArray) (c' := splice c off cs) (arr' := (arr.toList.take (off + 0) ++ (r y).cells.toList ++ arr.toList.drop (off + 0 + (r y).cells.toList.length)).toArray) hw hH hb e2 ⟨rfl, rfl, rfl⟩ (setRow_size w b _) (setRow_heap w b arr _ et _ e2) (fun b' hne => setRow_other w b b' _ hne)
    have hcl : (splice c off cs).length ≤ (arr.toList.take (off + 0) ++ (r y).cells.toList ++ arr.toList.drop (off + 0 + (r y).cells.toList.length)).toArray.size := by simp [splice_eq]; omega
    refine (fun hh => ⟨(key hcl hh).1, (key hcl hh).2, .any⟩) ?_
    · intro k x u hx hu'
      simp only [Nat.add_zero, splice_eq] at hx hu'
      simp only [List.getElem?_toArray] at hu'
      have l1 : (List.take off c).length = off := by simp; omega
      have l2 : (List.take off arr.toList).length = off := by simp; omega
      by_cases hk : k < off
      · rw [List.append_assoc, List.getElem?_append_left (by omega), List.getElem?_take, if_pos hk] at hx hu'
        rw [Array.getElem?_toList] at hu'
        exact e4 k x u hx hu'
      · rw [List.append_assoc, List.getElem?_append_right (by omega)] at hx hu'
        rw [l1] at hx
        rw [l2] at hu'
        by_cases hk2 : k - off < cs.length
        · rw [List.getElem?_append_left hk2] at hx
          rw [List.getElem?_append_left (by simp; omega), Array.getElem?_toList] at hu'
          exact hcr _ x u hx hu'
        · rw [List.getElem?_append_right (by omega), List.getElem?_drop] at hx
          rw [List.getElem?_append_right (by simp; omega), List.getElem?_drop, Array.getElem?_toList] at hu'
          simp only [Array.length_toList, hcz] at hu'
          exact e4 _ x u hx hu'

/-- New memory: an entry that was free. -/
theorem WOK.new {g : G} {w : World} {id : Nat} {c : List V} {arr : Array Value} {et : TypeId} (hw : WOK g w H) (hH : H[id]? = some .free)
    (hlen : c.length ≤ arr.size) (hrep : ∀ (k : Nat) x v, c[k]? = some x → arr[k]? = some v → Rep g w x v) :
    ∃ g', WOK g' { w with heap := w.heap.push (.cells arr et (0, 0)) } (H.set id (.row c)) ∧ Evo g w g' { w with heap := w.heap.push (.cells arr et (0, 0)) } ∧ g'.σ id = some w.heap.size := by
  have hidlt : id < H.length := (List.getElem?_eq_some_iff.1 hH).1
  obtain ⟨hfσ, hfτ, hfυ⟩ := hw.free id (.inl hH)
  let B := w.heap.size
  let w' : World := { w with heap := w.heap.push (.cells arr et (0, 0)) }
  let g' : G := { σ := fun i => if i = id then some B else g.σ i, τ := g.τ, υ := g.υ, X := fun b => g.X b ∨ b = B, Pr := g.Pr }
  have hold : ∀ b, b < B → w'.heap[b]? = w.heap[b]? := fun b hb => by
    simp only [w', Array.getElem?_push]
    rw [if_neg (by omega)]
  have hnew : w'.heap[B]? = some (.cells arr et (0, 0)) := by simp [w', B]
  have hsz : w'.heap.size = B + 1 := by simp [w', B]
  have hσ : ∀ i b, g.σ i = some b → i ≠ id := fun i b h e => by subst e; rw [hfσ] at h; cases h
  have hσ' : ∀ i, i ≠ id → g'.σ i = g.σ i := fun i h => by simp [g', h]
  have hev : Evo g w g' w' := {
    same := ⟨rfl, rfl, rfl⟩
    size := by omega
    pr := fun b o hp => ⟨hp, by have := hw.pr b o hp; simp [World.cell?, hold b this]⟩
    prn := fun b o h => .inl h
    x := fun b h => h.imp (fun h => h) (fun e => by omega)
    keep := fun b hb _ => hold b hb
    σ := fun i b h => by rw [hσ' i (hσ i b h)]; exact h
    τ := fun _ m a cap h => ⟨m, a, cap, h, .inr ⟨rfl, rfl, rfl⟩⟩ }
  have hget : ∀ (i : Nat) e, (H.set id (.row c))[i]? = some e → (i = id ∧ e = .row c) ∨ (i ≠ id ∧ H[i]? = some e) := by
    intro i e he
    by_cases hi : i = id
    · subst hi; rw [List.getElem?_set_self hidlt] at he; exact .inl ⟨rfl, (Option.some.inj he).symm⟩
    · rw [List.getElem?_set_ne (Ne.symm hi)] at he; exact .inr ⟨hi, he⟩
  have hblk : ∀ (i : Nat) e b', (H.set id (.row c))[i]? = some e → g'.blk i e b' → (i = id ∧ b' = B) ∨ (i ≠ id ∧ H[i]? = some e ∧ g.blk i e b' ∧ b' < B) := by
    intro i e b' he hb'
    rcases hget i e he with ⟨rfl, rfl⟩ | ⟨hne, h⟩
    · simp [G.blk, g'] at hb'; exact .inl ⟨rfl, hb'.symm⟩
    · have : g.blk i e b' := by
        cases e <;> simp [G.blk, g', hne] at hb' ⊢ <;> exact hb'
      exact .inr ⟨hne, h, this, hw.xs b' (hw.blk i e b' h this)⟩
  refine ⟨g', ⟨fun b o h => by have := hw.pr b o h; show b < w'.heap.size; omega, ?_, ?_, ?_, ?_, ?_, ?_, ?_, ?_, hw.kcE hev⟩, hev, by simp [g', B]⟩
  · intro b h
    show b < w'.heap.size
    rcases h with h | rfl
    · have := hw.xs b h; omega
    · omega
  · intro i e b' he hb'
    rcases hblk i e b' he hb' with ⟨_, rfl⟩ | ⟨_, h1, h2, _⟩
    · exact .inr rfl
    · exact .inl (hw.blk i e b' h1 h2)
  · intro i i' e e' b' he he' hb1 hb2
    rcases hblk i e b' he hb1 with ⟨r1, r2⟩ | ⟨_, h1, h2, h3⟩ <;> rcases hblk i' e' b' he' hb2 with ⟨s1, s2⟩ | ⟨_, h4, h5, h6⟩
    · omega
    · omega
    · omega
    · exact hw.sep i i' e e' b' h1 h4 h2 h5
  · intro i ci hi
    rcases hget i _ hi with ⟨rfl, he⟩ | ⟨hne, h⟩
    · obtain rfl : ci = c := by injection he
      exact ⟨B, arr, et, by simp [g'], hnew, hlen, fun k x v hx hv => (hrep k x v hx hv).mono hev, fun o hp => by have := hw.pr B o hp; omega⟩
    · obtain ⟨b1, arr1, et1, g1, g2, g3, g4, g5⟩ := hw.row i ci h
      have hlt := hw.xs b1 (hw.blk i _ b1 h (by simpa [G.blk] using g1))
      exact ⟨b1, arr1, et1, by rw [hσ' i hne]; exact g1, (hold b1 hlt).trans g2, g3, fun k x v hx hv => (g4 k x v hx hv).mono hev, g5⟩
  · intro i n e s hi
    rcases hget i _ hi with ⟨_, he⟩ | ⟨hne, h⟩
    · cases he
    · obtain ⟨a, cap, g1, g2, g3, g4⟩ := hw.tok i n e s h
      refine ⟨a, cap, g1, g2, g3, fun hlt => ?_⟩
      obtain ⟨b1, arr1, k1, k2, k3, k4⟩ := g4 hlt
      have hlt' := hw.xs b1 (hw.blk i _ b1 h (by simp [G.blk, g1, hlt, k1]))
      exact ⟨b1, arr1, k1, (hold b1 hlt').trans k2, k3, k4⟩
  · intro i l e s hi
    rcases hget i _ hi with ⟨_, he⟩ | ⟨hne, h⟩
    · cases he
    · obtain ⟨a, cap, g1, g2, g3, g4⟩ := hw.lst i l e s h
      refine ⟨a, cap, g1, g2, g3, fun hlt => ?_⟩
      obtain ⟨b1, arr1, k1, k0, k2, k3, k4, k5⟩ := g4 hlt
      have hlt' := hw.xs b1 (hw.blk i _ b1 h (by simp [G.blk, g1, hlt, k1]))
      exact ⟨b1, arr1, k1, by rw [hσ' i hne]; exact k0, (hold b1 hlt').trans k2, k3, k4, fun k x v hx hv => (k5 k x v hx hv).mono hev.pr⟩
  · intro i x hi
    rcases hget i _ hi with ⟨_, he⟩ | ⟨hne, h⟩
    · cases he
    · obtain ⟨b1, q1, q2, q3, q4⟩ := hw.ob i x h
      have hlt := hw.xs b1 (hw.blk i _ b1 h (.inl q1))
      exact ⟨b1, by rw [hσ' i hne]; exact q1, x.st hev rfl rfl (hold b1 hlt) (fun b' hu => hold b' (hw.xs b' (hw.blk i _ b' h (.inr hu)))) q2, q3, q4⟩
  · intro i hi
    have hne : i ≠ id := by
      rintro rfl
      rcases hi with hi | hi
      · rw [List.getElem?_set_self hidlt] at hi; cases hi
      · simp at hi; omega
    rw [hσ' i hne]
    refine hw.free i ?_
    rcases hi with hi | hi
    · rw [List.getElem?_set_ne (Ne.symm hne)] at hi; exact .inl hi
    · exact .inr (by simpa using hi)

theorem WOK.addFree {g : G} {w : World} (hw : WOK g w H) : WOK g w (H ++ [.free]) := by
  have hget : ∀ (i : Nat) e, (H ++ [HE.free])[i]? = some e → H[i]? = some e ∨ (i = H.length ∧ e = .free) := by
    intro i e he
    by_cases hi : i < H.length
    · rw [List.getElem?_append_left hi] at he; exact .inl he
    · rw [List.getElem?_append_right (by omega)] at he
      have : i = H.length := by
        by_cases h0 : i - H.length = 0
        · omega
        · rw [List.getElem?_eq_none (by simp; omega)] at he; cases he
      subst this
      simp at he
      exact .inr ⟨rfl, he.symm⟩
  refine ⟨hw.pr, hw.xs, ?_, ?_, ?_, ?_, ?_, ?_, ?_, hw.kc⟩
  · intro i e b he hb
    rcases hget i e he with h | ⟨_, rfl⟩
    · exact hw.blk i e b h hb
    · simp [G.blk] at hb
  · intro i i' e e' b he he' hb1 hb2
    rcases hget i e he with h | ⟨_, rfl⟩
    · rcases hget i' e' he' with h' | ⟨_, rfl⟩
      · exact hw.sep i i' e e' b h h' hb1 hb2
      · simp [G.blk] at hb2
    · simp [G.blk] at hb1
  · intro i c hi
    rcases hget i _ hi with h | ⟨_, h⟩
    · exact hw.row i c h
    · cases h
  · intro i n e s hi
    rcases hget i _ hi with h | ⟨_, h⟩
    · exact hw.tok i n e s h
    · cases h
  · intro i l e s hi
    rcases hget i _ hi with h | ⟨_, h⟩
    · exact hw.lst i l e s h
    · cases h
  · intro i x hi
    rcases hget i _ hi with h | ⟨_, h⟩
    · exact hw.ob i x h
    · cases h
  · intro i hi
    refine hw.free i ?_
    rcases hi with hi | hi
    · rcases hget i _ hi with h | ⟨rfl, _⟩
      · exact .inl h
      · exact .inr (Nat.le_refl _)
    · exact .inr (by simp at hi; omega)

theorem set_last (H : List HE) (e : HE) : (H ++ [HE.free]).set H.length e = H ++ [e] := by simp

theorem op_alloc {t : Nat} {zs : List Value} {n : Nat} (hz : Zr P t zs) (hn : H.length = n) : OpV P (.alloc t) ty ρ H (.ptr n 0) (H ++ [.row (zs.map absV)]) := by
  subst hn
  intro g w r pos after guard dst hw h
  obtain ⟨i, z, hi, hz1, hz2, hz3⟩ := hz.z
  have := WOK.new (id := H.length) (c := zs.map absV) (arr := z.cells) (et := t) hw.addFree (by simp) (by simp [← hz2]) (fun k x v hx hv => by
    simp only [List.getElem?_map, Option.map_eq_some_iff] at hx
    obtain ⟨y, hy, rfl⟩ := hx
    rw [← hz2, Array.getElem?_toList, hv] at hy
    obtain rfl := Option.some.inj hy
    exact Rep.absV _ _ _)
  obtain ⟨g', h1, h2, h3⟩ := this
  rw [set_last] at h1
  unfold OpRuns
  simp only [execOp, Instr.alloc, Sem.run_bind, run_zeroValue' hi hz1, Result.andThen_ok, newVar, newRow, run_newObj, Sem.run_pure]
  exact ⟨g', h1, h2, .ptr h3⟩

theorem op_box {t : Nat} {x : Operand} {v : V} {c : List V} {n : Nat} (hx : Is (ρ x) v) (hv : v.cs = c) (h1 : c.all V.one = true) (hn : H.length = n) : OpV P (.box t x) ty ρ H (.ptr n 0) (H ++ [.row c]) := by
  subst hn
  intro g w r pos after guard dst hw h
  have hu := hx.rep (h x (by simp [Op.operands]))
  obtain ⟨hcz, hcr⟩ := hu.cs hv h1
  have := WOK.new (id := H.length) (c := c) (arr := (r x).cells) (et := t) hw.addFree (by simp) (by omega) (fun k x v hx hv => hcr k x v hx hv)
  obtain ⟨g', h1, h2, h3⟩ := this
  rw [set_last] at h1
  unfold OpRuns
  simp only [execOp, Instr.box, Sem.run_bind, newVar, newRow, run_newObj, Sem.run_pure, Result.andThen_ok]
  exact ⟨g', h1, h2, .ptr h3⟩

end
end Go.Proofs.Ytjinohfopjlgkaa.Ab
