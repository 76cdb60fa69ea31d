/- Plain laws, joined. Conditions: none. -/
import Derived.Test.YtkdefjliknpliaaGreatDoorAb30
import Derived.Lib.SliceRun
namespace Go.Proofs.YtkdefjliknpliaaGreatDoor.Ab
section
/- Lists of rows that are written in place: their elements and the fields of these. Conditions: none. -/
open Go

theorem WOK.lstMem {g : G} {w : World} {H : List HE} {id s : Nat} {l : List D} {e : TypeId} (hw : WOK g w H) (hH : H[id]? = some (.lst l e s)) (hne : 0 < l.length) :
    ∃ b arr cap, g.τ id = some (0, some ⟨b, 0, none⟩, cap) ∧ 0 < cap ∧ l.length ≤ cap ∧ g.σ id = some b ∧ w.heap[b]? = some (.cells arr e (0, 0)) ∧ arr.size = cap * s ∧ (∀ (k : Nat) x v, (D.flat l)[k]? = some x → arr[k]? = some v → RepD g.Pr w x v) := by
  obtain ⟨a, cap, f1, f2, f3, f4⟩ := hw.lst id l e s hH
  obtain ⟨b, arr, q1, q0, q2, q3, q4, q5⟩ := f4 (by omega)
  subst q1
  exact ⟨b, arr, cap, f1, by omega, f2, q0, q2, q3, q5⟩
theorem flat_lenE {α : Type} {f : α → D} {s : Nat} (hf : En f s) (l : List α) : (D.flat (l.map f)).length = l.length * s := by
  induction l with
  | nil => simp [D.flat]
  | cons y l ih => rw [List.map_cons, flat_cons, List.length_append, ih, hf.sz]; simp [Nat.add_mul, Nat.add_comm]

section
variable {P : Program} {ρ : Operand → V} {H : List HE} {ty : TypeId} {α : Type} {f : α → D} {l : List α} {v : α} {s : Nat} {a : Int}
theorem op_indexAddr_ls {x y : Operand} {t e bytes id len : Nat} {k : IntKind} (hx : Is (ρ x) (.hs id 0 len s)) (hH : H[id]? = some (.lst (l.map f) e s)) (hl : l.length = len)
    (hy : As (ρ y) (.int k a)) (hv : ix l a = some v) (ht : SlT P t e s bytes) : OpV P (.indexAddr t x y) ty ρ H (.ptr id (a.toNat * s)) H :=
  OpV.of_val fun g w r hw h => by
    have h1 := hx.rep (h x (by simp [Op.operands]))
    have h2 := hy.int (h y (by simp [Op.operands]))
    obtain ⟨i, hi, hv'⟩ := ix_nat hv
    subst hi
    have hil : i < l.length := (List.getElem?_eq_some_iff.1 hv').1
    obtain ⟨b, arr, cap, k1, k2, k3, q0, q2, q3, q5⟩ := hw.lstMem hH (by simp; omega)
    obtain ⟨ie, z, hie, hsz, _⟩ := ht.i
    generalize hr : r x = u at h1
    cases h1 with
    | @hs _ _ _ _ m cap' n0 c0 a' a0 p1 p2 =>
      rw [k1] at p1; injection p1 with p1; injection p1 with p1 p3
      injection p3 with p3 p4
      obtain ⟨r1, r2, r3, r4⟩ := hs0 (p2 p1.symm)
      have hlt : i < n0 := by omega
      subst r1; subst r3; subst p3
      refine ⟨.pointer (some ⟨b, i * s, none⟩), fun _ _ _ _ => ?_, .ptr q0⟩
      simp [execOp, Instr.indexAt, asIntOf, hr, h2, run_underlying ht.u, hlt, run_sizeOf' hie, hsz, Addr.add_none]
theorem op_load_lsF {o : Nat} {d : D} {x : Operand} {t id : Nat} {e : TypeId} (hf : En f s) (hx : Is (ρ x) (.ptr id (a.toNat * s + o))) (hH : H[id]? = some (.lst (l.map f) e s)) (hv : ix l a = some v) (hd : (f v).cells[o]? = some d) (ht : Sc P t) :
    OpV P (.load t x) ty ρ H (.d d) H :=
  OpV.of_val fun g w r hw h => by
    have hp := hx.rep (h x (by simp [Op.operands]))
    obtain ⟨i, hi, hv'⟩ := ix_nat hv
    subst hi
    have hil : i < l.length := (List.getElem?_eq_some_iff.1 hv').1
    obtain ⟨b, arr, cap, k1, k2, k3, q0, q2, q3, q5⟩ := hw.lstMem hH (by simp; omega)
    obtain ⟨h3, h4⟩ := flat_at hf hv'
    have ho : o < s := by have := (List.getElem?_eq_some_iff.1 hd).1; rwa [hf.sz] at this
    rw [flat_lenE hf] at h4
    rw [List.length_map] at k3
    have hlt : i * s + o < arr.size := by
      have := Nat.mul_le_mul_right s k3
      rw [q3]; omega
    generalize hr : r x = u at hp
    cases hp with
    | @ptr _ _ b' hb =>
      obtain rfl : b' = b := by rw [hb] at q0; exact Option.some.inj q0
      simp only [Int.toNat_natCast] at hr
      have hcell : w.cell? ⟨b', i * s + o, none⟩ = some arr[i * s + o] := by rw [cell_of_cells q2]; simp [hlt]
      refine ⟨arr[i * s + o], fun _ _ _ _ => by simp [execOp, Instr.loadAt, Instr.sureAddr, hr, run_loadVar_one ht hcell], .d (q5 (i * s + o) _ _ ?_ (by simp [hlt]))⟩
      rw [← h3, List.getElem?_take, if_pos ho, List.getElem?_drop] at hd
      exact hd
theorem op_load_lsA {x : Operand} {t id : Nat} {e : TypeId} (hf : En f s) (hg : f v = .agg (f v).cells) (hx : Is (ρ x) (.ptr id (a.toNat * s))) (hH : H[id]? = some (.lst (l.map f) e s)) (hv : ix l a = some v) (ht : Ag P t s) :
    OpV P (.load t x) ty ρ H (.d (f v)) H :=
  OpV.of_val fun g w r hw h => by
    have hp := hx.rep (h x (by simp [Op.operands]))
    obtain ⟨i, hi, hv'⟩ := ix_nat hv
    subst hi
    have hil : i < l.length := (List.getElem?_eq_some_iff.1 hv').1
    obtain ⟨b, arr, cap, k1, k2, k3, q0, q2, q3, q5⟩ := hw.lstMem hH (by simp; omega)
    obtain ⟨h3, h4⟩ := flat_at hf hv'
    rw [flat_lenE hf] at h4
    rw [List.length_map] at k3
    have hlt : ∀ o, o < s → i * s + o < arr.size := fun o ho => by
      have := Nat.mul_le_mul_right s k3
      rw [q3]; omega
    generalize hr : r x = u at hp
    cases hp with
    | @ptr _ _ b' hb =>
      obtain rfl : b' = b := by rw [hb] at q0; exact Option.some.inj q0
      simp only [Int.toNat_natCast] at hr
      have hcell : ∀ k, k < s → w.cell? ⟨b', i * s + k, none⟩ = some (arr.getD (i * s + k) undef) := fun k hk => by
        rw [cell_of_cells q2]
        simp [Array.getD, hlt k hk]
      rw [hg]
      refine ⟨.agg ((List.range s).map fun k => arr.getD (i * s + k) undef).toArray, fun _ _ _ _ => ?_, .d (.agg _ _ (by simp [hf.sz]) (fun j y u hy hu => ?_))⟩
      · simp [execOp, Instr.loadAt, Instr.sureAddr, hr, run_loadVar_agg ht hcell]
      · have hj : j < s := by rw [← hf.sz v]; exact (List.getElem?_eq_some_iff.1 hy).1
        have hu' : u = arr[i * s + j]'(hlt j hj) := by
          simp [hj, Array.getD, hlt j hj] at hu; exact hu.symm
        rw [hu']
        refine q5 (i * s + j) y _ ?_ (by simp [hlt j hj])
        rw [← h3, List.getElem?_take, if_pos hj, List.getElem?_drop] at hy
        exact hy
/-- A store into the memory of a list. -/
theorem op_storeL {l l' : List D} {x y : Operand} {t id n : Nat} {e : TypeId} {u : V} {c : List D} (hx : Is (ρ x) (.ptr id n)) (hy : Is (ρ y) u) (hv : u.cs = c.map V.d) (h1 : (c.map V.d).all V.one = true) (hsz : ∃ i, P.info? t = some i ∧ i.size = c.length) (hH : H[id]? = some (.lst l e s))
    (hz : (D.flat l).length = l.length * s) (hle : n + c.length ≤ (D.flat l).length) (hpos : 0 < l.length) (hlen : l'.length = l.length) (hX : D.flat l' = (D.flat l).take n ++ c ++ (D.flat l).drop (n + c.length)) : OpV P (.store t x y) ty ρ H .any (H.set id (.lst l' e s)) := by
  intro g w r pos after guard dst hw h
  have hp := hx.rep (h x (by simp [Op.operands]))
  have hu := hy.rep (h y (by simp [Op.operands]))
  obtain ⟨hcz, hcr⟩ := hu.cs hv h1
  obtain ⟨i, hi, his⟩ := hsz
  obtain ⟨b, arr, cap, k1, k2, k3, q0, q2, q3, q5⟩ := hw.lstMem hH hpos
  have hls : l.length * s ≤ arr.size := by rw [q3]; exact Nat.mul_le_mul_right s k3
  rw [List.length_map] at hcz
  generalize hr : r x = v' at hp
  cases hp with
  | @ptr _ _ b' hb =>
    obtain rfl : b' = b := by rw [hb] at q0; exact Option.some.inj q0
    have hone : ∀ u ∈ (r y).cells.toList, u.oneCell' = true := fun u hu' => by
      obtain ⟨j, hj⟩ := List.getElem?_of_mem hu'
      rw [Array.getElem?_toList] at hj
      have hjl : j < (c.map V.d).length := by rw [List.length_map, ← hcz]; exact (Array.getElem?_eq_some_iff.1 hj).1
      exact (hcr j (c.map V.d)[j] u (List.getElem?_eq_getElem hjl) hj).one (List.all_eq_true.1 h1 _ (List.getElem_mem hjl))
    have hrun := run_storeCells_at P b' n e (r y).cells.toList 0 arr w q2 (by simp; omega) hone
    have hsize : (r y).cells.size = i.size := by omega
    unfold OpRuns
    simp only [execOp, Instr.storeAt, Instr.sureAddr, hr, Sem.run_bind, Sem.run_pure, Result.andThen_ok, storeVar, run_sizeOf' hi, hsize, ne_eq, not_true_eq_false, if_false, hrun]
    refine ⟨g, ?_⟩
    have key := WOK.storeLst (w' := w.setRow b' (arr.toList.take (n + 0) ++ (r y).cells.toList ++ arr.toList.drop (n + 0 + (r y).cells.toList.length)).toArray) (l' := l')
      (arr' := (arr.toList.take (n + 0) ++ (r y).cells.toList ++ arr.toList.drop (n + 0 + (r y).cells.toList.length)).toArray) hw hH k1 k2 hb ⟨rfl, rfl, rfl⟩ (setRow_size w b' _) (setRow_heap w b' arr _ e _ q2) (fun b'' hne => setRow_other w b' b'' _ hne)
      (by omega) (by rw [← q3]; simp; omega) (fun k x u hx hu' => by
        simp only [Nat.add_zero, List.getElem?_toArray, hX] at hx hu'
        have l1 : (List.take n (D.flat l)).length = n := by simp; omega
        have l2 : (List.take n arr.toList).length = n := by simp; omega
        by_cases hk : k < n
        · rw [List.append_assoc, List.getElem?_append_left (by omega), List.getElem?_take, if_pos hk] at hx hu'
          rw [Array.getElem?_toList] at hu'
          exact q5 k x u hx hu'
        · rw [List.append_assoc, List.getElem?_append_right (by omega)] at hx hu'
          rw [l1] at hx
          rw [l2] at hu'
          by_cases hk2 : k - n < c.length
          · rw [List.getElem?_append_left hk2] at hx
            rw [List.getElem?_append_left (by simp; omega), Array.getElem?_toList] at hu'
            have h3 := hcr _ (.d x) u (by rw [List.getElem?_map, hx]; rfl) hu'
            cases h3 with
            | d h3 => exact h3
          · rw [List.getElem?_append_right (by omega), List.getElem?_drop] at hx
            rw [List.getElem?_append_right (by simp; omega), List.getElem?_drop, Array.getElem?_toList] at hu'
            simp only [Array.length_toList, hcz] at hu'
            exact q5 _ x u hx hu')
    exact ⟨key.1, key.2, .any⟩
/-- A field of an element. -/
theorem op_store_lsF {r : List α} {v' : α} {o : Nat} {d : D} {x y : Operand} {t id : Nat} {e : TypeId} (hf : En f s) (hx : Is (ρ x) (.ptr id (a.toNat * s + o))) (hy : Is (ρ y) (.d d)) (h0 : V.cs (.d d) = [.d d]) (h1 : V.one (.d d) = true) (hsz : ∃ i, P.info? t = some i ∧ i.size = 1) (hH : H[id]? = some (.lst (l.map f) e s))
    (hv : ix l a = some v) (hr : setI l a v' = some r) (ho : Nat.blt o s = true) (hc : (f v').cells = (f v).cells.set o d) : OpV P (.store t x y) ty ρ H .any (H.set id (.lst (r.map f) e s)) := by
  have ho : o < s := by simpa [Nat.blt_eq] using ho
  obtain ⟨i, hi, hv'⟩ := ix_nat hv
  subst hi
  have hil : i < l.length := (List.getElem?_eq_some_iff.1 hv').1
  obtain rfl : r = l.set i v' := by
    unfold setI at hr
    split at hr
    · injection hr with hr; exact hr.symm
    · cases hr
  obtain ⟨h3, h4⟩ := flat_at hf hv'
  have hz := flat_lenE hf l
  refine op_storeL (l := l.map f) (c := [d]) hx hy h0 (by simp [h1]) hsz hH (by simpa using hz) (by simp only [List.length_singleton, Int.toNat_natCast]; omega) (by simp; omega) (by simp) ?_
  rw [flat_put hf hil, hc, ← h3]
  simp only [Int.toNat_natCast, List.length_singleton]
  apply List.ext_getElem?
  intro k
  have e1 : (List.take (i * s) (D.flat (l.map f))).length = i * s := by simp; omega
  have e2 : (((D.flat (l.map f)).drop (i * s)).take s).length = s := by simp; omega
  have e3 : (List.take (i * s + o) (D.flat (l.map f))).length = i * s + o := by simp; omega
  by_cases k1 : k < i * s
  · rw [List.append_assoc, List.append_assoc, List.getElem?_append_left (by omega), List.getElem?_append_left (by omega), List.getElem?_take, List.getElem?_take, if_pos k1, if_pos (by omega)]
  · rw [List.append_assoc, List.getElem?_append_right (by omega), e1]
    by_cases k2 : k < i * s + s
    · rw [List.getElem?_append_left (by rw [List.length_set]; omega), List.getElem?_set]
      by_cases k3 : o = k - i * s
      · rw [if_pos k3, if_pos (by omega), List.append_assoc, List.getElem?_append_right (by omega), e3]
        have : k - (i * s + o) = 0 := by omega
        rw [this]; rfl
      · rw [if_neg k3, List.getElem?_take, if_pos (by omega), List.getElem?_drop]
        by_cases k4 : k < i * s + o
        · rw [List.append_assoc, List.getElem?_append_left (by omega), List.getElem?_take, if_pos k4]; congr 1; omega
        · rw [List.append_assoc, List.getElem?_append_right (by omega), e3, List.getElem?_append_right (by simp; omega), List.getElem?_drop]; congr 1; simp; omega
    · rw [List.getElem?_append_right (by rw [List.length_set]; omega), List.length_set, e2, List.getElem?_drop, List.append_assoc, List.getElem?_append_right (by omega), e3, List.getElem?_append_right (by simp; omega), List.getElem?_drop]
      congr 1; simp; omega
/-- A whole element. -/
theorem op_store_lsA {r : List α} {v' : α} {x y : Operand} {t id : Nat} {e : TypeId} {u : V} (hf : En f s) (hx : Is (ρ x) (.ptr id (a.toNat * s))) (hy : Is (ρ y) u) (hu : u.cs = (f v').cells.map V.d) (h1 : ((f v').cells.map V.d).all V.one = true) (hsz : ∃ i, P.info? t = some i ∧ i.size = s) (hH : H[id]? = some (.lst (l.map f) e s))
    (hr : setI l a v' = some r) : OpV P (.store t x y) ty ρ H .any (H.set id (.lst (r.map f) e s)) := by
  unfold setI at hr
  split at hr
  · rename_i hc
    obtain ⟨h0, hil⟩ := hc
    obtain ⟨i, rfl⟩ : ∃ i : Nat, a = (i : Int) := ⟨a.toNat, by omega⟩
    simp only [Int.toNat_natCast] at *
    injection hr with hr; subst hr
    have hz := flat_lenE hf l
    obtain ⟨_, h4⟩ := flat_at hf (List.getElem?_eq_getElem hil)
    refine op_storeL (l := l.map f) (c := (f v').cells) hx hy hu h1 (by rw [hf.sz]; exact hsz) hH (by simpa using hz) (by rw [hf.sz]; exact h4) (by simp; omega) (by simp) ?_
    rw [flat_put hf hil, hf.sz]
  · cases hr
end
end
section
/- Pieces of lists that are written in place: their elements; 'clear'. Conditions: none. -/
open Go

theorem subA_pos {b cap off s len : Nat} (h : 0 < len) (hc : len + off ≤ cap) : subA (some ⟨b, 0, none⟩) cap off s = some ⟨b, off * s, none⟩ := by
  unfold subA
  split
  · rename_i h0; subst h0; simp
  · rw [if_neg (by omega)]
    simp only [Option.map_some, Addr.add]
    split
    · rename_i h1; rw [h1]
    · simp
section
variable {P : Program} {ρ : Operand → V} {H : List HE} {ty : TypeId} {α : Type} {f : α → D} {l r : List α} {v : α} {s : Nat} {a lo : Int}
/-- The value of a piece that is not empty. -/
theorem piece_form {g : G} {w : World} {id off len : Nat} {u : Value} {e : TypeId} {ls : List D} (hw : WOK g w H) (hH : H[id]? = some (.lst ls e s)) (hr : Rep g w (.hs id off len s) u) (hlen : 0 < len) :
    ∃ b cap arr, u = .slice (some ⟨b, off * s, none⟩) len (cap - off) ∧ len + off ≤ cap ∧ g.τ id = some (0, some ⟨b, 0, none⟩, cap) ∧ 0 < cap ∧ ls.length ≤ cap ∧ g.σ id = some b ∧ w.heap[b]? = some (.cells arr e (0, 0)) ∧ arr.size = cap * s ∧ (∀ (k : Nat) x v, (D.flat ls)[k]? = some x → arr[k]? = some v → RepD g.Pr w x v) := by
  obtain ⟨a1, cap, f1, f2, f3, f4⟩ := hw.lst id ls e s hH
  cases hr with
  | hs p1 p2 =>
    rw [f1] at p1; injection p1 with p1; injection p1 with p1 p3; injection p3 with p3 p4
    subst p1; subst p3; subst p4
    obtain ⟨r1, r2, r3, r4⟩ := p2 rfl
    obtain ⟨b, arr, q1, q0, q2, q3, q4, q5⟩ := f4 (by omega)
    subst q1
    rw [subA_pos hlen r4] at r1
    subst r1; subst r2; subst r3
    exact ⟨b, cap, arr, rfl, r4, f1, by omega, f2, q0, q2, q3, q5⟩
theorem op_indexAddr_pc {x y : Operand} {t e bytes id : Nat} {k : IntKind} {ls : List D} (hx : Is (ρ x) (.hs id lo.toNat r.length s)) (hlo : 0 ≤ lo) (hH : H[id]? = some (.lst ls e s))
    (hy : As (ρ y) (.int k a)) (hv : ix r a = some v) (ht : SlT P t e s bytes) : OpV P (.indexAddr t x y) ty ρ H (.ptr id ((lo + a).toNat * s)) H :=
  OpV.of_val fun g w rr hw h => by
    have h1 := hx.rep (h x (by simp [Op.operands]))
    have h2 := hy.int (h y (by simp [Op.operands]))
    obtain ⟨i, hi, hv'⟩ := ix_nat hv
    subst hi
    have hil : i < r.length := (List.getElem?_eq_some_iff.1 hv').1
    obtain ⟨b, cap, arr, e1, e2, _, _, _, q0, _⟩ := piece_form hw hH h1 (by omega)
    obtain ⟨ie, z, hie, hsz, _⟩ := ht.i
    have e3 : (lo + (i : Int)).toNat = lo.toNat + i := by omega
    refine ⟨.pointer (some ⟨b, (lo + (i : Int)).toNat * s, none⟩), fun _ _ _ _ => ?_, .ptr q0⟩
    rw [e3, Nat.add_mul]
    simp [execOp, Instr.indexAt, asIntOf, e1, h2, run_underlying ht.u, hil, run_sizeOf' hie, hsz, Addr.add]
theorem slc_lo {l r : List α} {lo hi : Int} (h : slc l lo hi = some r) : 0 ≤ lo := by
  unfold slc at h
  split at h
  · omega
  · cases h
/-- A list whose piece is made zero. -/
def clrL (l : List α) (off len : Nat) (z : α) : List α := l.take off ++ List.replicate len z ++ l.drop (off + len)
theorem clrL_len {off len : Nat} {z : α} (h : off + len ≤ l.length) : (clrL l off len z).length = l.length := by simp [clrL]; omega
theorem zeros_at {zs : Array Value} {n k : Nat} {v : Value} (h : (Builtin.zeroCells zs n).toList[k]? = some v) : ∃ q, q = k % zs.size ∧ zs[q]? = some v := by
  have hk : k < n * zs.size := by
    have := (List.getElem?_eq_some_iff.1 h).1
    simpa [Builtin.zeroCells] using this
  have hs : 0 < zs.size := by
    rcases Nat.eq_zero_or_pos zs.size with h0 | h0
    · rw [h0] at hk; simp at hk
    · exact h0
  have hq : k % zs.size < zs.size := Nat.mod_lt _ hs
  refine ⟨_, rfl, ?_⟩
  simp only [Builtin.zeroCells, Array.toList_map, Array.toList_range, List.getElem?_map, List.getElem?_range hk, Option.map_some, Option.some.injEq] at h
  rw [← h, getElem!_pos zs _ hq, Array.getElem?_eq_getElem hq]
theorem zeros_len {zs : Array Value} {n : Nat} : (Builtin.zeroCells zs n).toList.length = n * zs.size := by simp [Builtin.zeroCells]
theorem set_self {H : List HE} {id : Nat} {e : HE} (h : H[id]? = some e) : H.set id e = H := by
  obtain ⟨h1, h2⟩ := List.getElem?_eq_some_iff.1 h
  rw [← h2]; exact List.set_getElem_self h1
theorem op_clear {z : α} {x : Operand} {t e bytes id off len : Nat} {zs : List Value} (hf : En f s) (hx : Is (ρ x) (.hs id off len s)) (hH : H[id]? = some (.lst (l.map f) e s)) (hlen : off + len ≤ l.length) (ht : SlT P t e s bytes) (hz : Zr P e zs) (hfz : (f z).cells = zs.map absC) :
    OpV P (.call ⟨.builtin .clear, #[x], #[t]⟩) ty ρ H (.tup []) (H.set id (.lst ((clrL l off len z).map f) e s)) := by
  intro g w rr pos after guard dst hw h
  have hxr := hx.rep (h x (by simp [Op.operands, Call.operands]))
  obtain ⟨inf, zv, hi, hsz, hby, hz1, hz2⟩ := ht.i
  obtain ⟨inf', zv', k1, k2, k3, k4⟩ := hz.z
  rw [hi] at k1; injection k1 with k1; subst k1
  rw [hz1] at k2; injection k2 with k2; subst k2
  have hzs : zv.cells.size = s := by omega
  by_cases h0 : len = 0
  · subst h0
    have e0 : clrL l off 0 z = l := by simp [clrL]
    rw [e0, set_self hH]
    have hv : ∃ a0 c0, rr x = .slice a0 0 c0 := by
      generalize hu : rr x = u at hxr
      cases hxr with
      | hs p1 p2 =>
        obtain ⟨ad, cap, f1, f2, f3, f4⟩ := hw.lst id _ e s hH
        rw [f1] at p1; injection p1 with p1; injection p1 with p1 p3
        obtain ⟨r1, r2, r3, r4⟩ := p2 p1.symm
        subst r2; exact ⟨_, _, rfl⟩
    obtain ⟨a0, c0, hv⟩ := hv
    have hrun : (execOp rr ⟨dst, .call ⟨.builtin .clear, #[x], #[t]⟩, ty, pos, after, guard⟩).run P w = .ok (.value (.tuple #[])) w := by
      cases a0 <;> simp [execOp, resolve, invoke, builtin, Builtin.clear_, run_underlying ht.u, hv]
    unfold OpRuns
    rw [hrun]
    exact ⟨g, hw, Evo.refl g w, .tup rfl (by simp)⟩
  · obtain ⟨b, cap, arr, e1, e2, e3, e4, e5, q0, q2, q3, q5⟩ := piece_form hw hH hxr (by omega)
    have hcl : (Builtin.zeroCells zv.cells len).toList.length = len * s := by rw [zeros_len, hzs]
    have hls := flat_lenE hf l
    have hoff : off * s + len * s ≤ l.length * s := by rw [← Nat.add_mul]; exact Nat.mul_le_mul_right s hlen
    have hll : l.length * s ≤ arr.size := by rw [q3]; exact Nat.mul_le_mul_right s (by simpa using e5)
    have hone : ∀ v ∈ (Builtin.zeroCells zv.cells len).toList, v.oneCell' = true := fun v hv => by
      obtain ⟨j, hj⟩ := List.getElem?_of_mem hv
      obtain ⟨q, _, hq⟩ := zeros_at hj
      have h5 : (f z).cells[q]? = some (absC v) := by rw [hfz, ← k3, List.getElem?_map, Array.getElem?_toList, hq]; rfl
      have h6 := hf.one z (absC v) (List.mem_of_getElem? h5)
      exact (RepD.absC g.Pr w v).one h6
    have hst := run_storeCells_at P b (off * s) e (Builtin.zeroCells zv.cells len).toList 0 arr w q2 (by rw [hcl]; omega) hone
    have hrun : (execOp rr ⟨dst, .call ⟨.builtin .clear, #[x], #[t]⟩, ty, pos, after, guard⟩).run P w = .ok (.value (.tuple #[])) (w.setRow b (arr.toList.take (off * s + 0) ++ (Builtin.zeroCells zv.cells len).toList ++ arr.toList.drop (off * s + 0 + (Builtin.zeroCells zv.cells len).toList.length)).toArray) := by
      obtain ⟨m, rfl⟩ : ∃ m, len = m + 1 := ⟨len - 1, by omega⟩
      simp [execOp, resolve, invoke, builtin, Builtin.clear_, run_underlying ht.u, e1, run_zeroValue' hi hz1, hst]
    unfold OpRuns
    rw [hrun]
    refine ⟨g, ?_⟩
    have key := WOK.storeLst (w' := w.setRow b (arr.toList.take (off * s + 0) ++ (Builtin.zeroCells zv.cells len).toList ++ arr.toList.drop (off * s + 0 + (Builtin.zeroCells zv.cells len).toList.length)).toArray) (l' := (clrL l off len z).map f)
      (arr' := (arr.toList.take (off * s + 0) ++ (Builtin.zeroCells zv.cells len).toList ++ arr.toList.drop (off * s + 0 + (Builtin.zeroCells zv.cells len).toList.length)).toArray) hw hH e3 e4 q0 ⟨rfl, rfl, rfl⟩ (setRow_size w b _) (setRow_heap w b arr _ e _ q2) (fun b'' hne => setRow_other w b b'' _ hne)
      (by rw [List.length_map, clrL_len hlen]; simpa using e5) (by rw [← q3]; simp [hcl]; omega) (fun k x u hx hu' => by
        have hX : D.flat ((clrL l off len z).map f) = (D.flat (l.map f)).take (off * s) ++ D.flat ((List.replicate len z).map f) ++ (D.flat (l.map f)).drop (off * s + len * s) := by
          have hsplit : ∀ (n : Nat), n ≤ l.length → (D.flat (l.map f)).take (n * s) = D.flat ((l.take n).map f) ∧ (D.flat (l.map f)).drop (n * s) = D.flat ((l.drop n).map f) := fun n hn => by
            have e : l.map f = (l.take n).map f ++ (l.drop n).map f := by rw [← List.map_append, List.take_append_drop]
            have e' : D.flat (l.map f) = D.flat ((l.take n).map f) ++ D.flat ((l.drop n).map f) := by rw [e]; simp only [D.flat, List.flatMap_append]
            have hlen' : (D.flat ((l.take n).map f)).length = n * s := by rw [flat_lenE hf, List.length_take]; rw [Nat.min_eq_left hn]
            rw [e', ← hlen', List.take_left, List.drop_left]
            exact ⟨rfl, rfl⟩
          rw [← Nat.add_mul, (hsplit off (by omega)).1, (hsplit (off + len) hlen).2]
          simp only [clrL, List.map_append, D.flat, List.flatMap_append]
        simp only [Nat.add_zero, List.getElem?_toArray, hX, hcl] at hx hu'
        have hz0 : (D.flat ((List.replicate len z).map f)).length = len * s := by rw [flat_lenE hf, List.length_replicate]
        have l1 : (List.take (off * s) (D.flat (l.map f))).length = off * s := by simp; omega
        have l2 : (List.take (off * s) arr.toList).length = off * s := by simp; omega
        by_cases hk : k < off * s
        · rw [List.append_assoc, List.getElem?_append_left (by omega), List.getElem?_take, if_pos hk] at hx hu'
          rw [Array.getElem?_toList] at hu'
          exact q5 k x u hx hu'
        · rw [List.append_assoc, List.getElem?_append_right (by omega)] at hx hu'
          rw [l1] at hx
          rw [l2] at hu'
          by_cases hk2 : k - off * s < len * s
          · rw [List.getElem?_append_left (by omega)] at hx
            rw [List.getElem?_append_left (by omega)] at hu'
            rw [List.map_replicate] at hx
            obtain ⟨j, h7, h8⟩ := flat_rep (s := s) (hf.sz z) rfl hx
            obtain ⟨q, h9, h10⟩ := zeros_at hu'
            rw [hzs] at h9
            have : j = q := by omega
            subst this
            rw [hfz, ← k3, List.getElem?_map, Array.getElem?_toList, h10] at h7
            simp only [Option.map_some, Option.some.injEq] at h7
            rw [← h7]; exact RepD.absC g.Pr w u
          · rw [List.getElem?_append_right (by omega), List.getElem?_drop, hz0] at hx
            rw [List.getElem?_append_right (by omega), List.getElem?_drop, Array.getElem?_toList, hcl] at hu'
            exact q5 _ x u hx hu')
    exact ⟨key.1, key.2, .tup rfl (by simp)⟩
end
end
end Go.Proofs.YtkdefjliknpliaaGreatDoor.Ab
