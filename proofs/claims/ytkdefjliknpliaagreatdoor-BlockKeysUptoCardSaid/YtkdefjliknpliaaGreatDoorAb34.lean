/- Plain laws, joined. Conditions: none. -/
import Derived.Test.YtkdefjliknpliaaGreatDoorAb30
import Derived.Lib.SliceRun
namespace Go.Proofs.YtkdefjliknpliaaGreatDoor.Ab
section
/- Lists of rows that are written in place: their elements and the fields of these. Conditions: none. -/
open Go

theorem WOK.lstMem {g : G} {w : World} {H : List HE} {id s : Nat} {l : List D} {e : TypeId} (hw : WOK g w H) (hH : H[id]? = some (.lst l e s)) (hne : 0 < l.length) :
    ∃ b arr cap, g.τ id = some (0, some ⟨b, 0, none⟩, cap) ∧ 0 < cap ∧ l.length ≤ cap ∧ g.σ id = some b ∧ w.heap[b]? = some (.cells arr e (0, 0)) ∧ arr.size = cap * s ∧ (∀ (k : Nat) x v, (D.flat l)[k]? = some x → arr[k]? = some v → RepD g.Pr w x v) := by
  obtain ⟨a, cap, f1, f2, f3, f4⟩ := hw.lst id l e s hH
  obtain ⟨b, arr, q1, q0, q2, q3, q4, q5⟩ := f4 (by omega)
  subst q1
  exact ⟨b, arr, cap, f1, by omega, f2, q0, q2, q3, q5⟩
theorem flat_lenE {α : Type} {f : α → D} {s : Nat} (hf : En f s) (l : List α) : (D.flat (l.map f)).length = l.length * s := by
  induction l with
  | nil => simp [D.flat]
  | cons y l ih => rw [List.map_cons, flat_cons, List.length_append, ih, hf.sz]; simp [Nat.add_mul, Nat.add_comm]

section
variable {P : Program} {ρ : Operand → V} {H : List HE} {ty : TypeId} {α : Type} {f : α → D} {l : List α} {v : α} {s : Nat} {a : Int}
theorem op_indexAddr_ls {x y : Operand} {t e bytes id len : Nat} {k : IntKind} (hx : Is (ρ x) (.hs id 0 len s)) (hH : H[id]? = some (.lst (l.map f) e s)) (hl : l.length = len)
    (hy : As (ρ y) (.int k a)) (hv : ix l a = some v) (ht : SlT P t e s bytes) : OpV P (.indexAddr t x y) ty ρ H (.ptr id (a.toNat * s)) H :=
  OpV.of_val fun g w r hw h => by
    have h1 := hx.rep (h x (by simp [Op.operands]))
    have h2 := hy.int (h y (by simp [Op.operands]))
    obtain ⟨i, hi, hv'⟩ := ix_nat hv
    subst hi
    have hil : i < l.length := (List.getElem?_eq_some_iff.1 hv').1
    obtain ⟨b, arr, cap, k1, k2, k3, q0, q2, q3, q5⟩ := hw.lstMem hH (by simp; omega)
    obtain ⟨ie, z, hie, hsz, _⟩ := ht.i
    generalize hr : r x = u at h1
    cases h1 with
    | @hs _ _ _ _ m cap' n0 c0 a' a0 p1 p2 =>
      rw [k1] at p1; injection p1 with p1; injection p1 with p1 p3
      injection p3 with p3 p4
      obtain ⟨r1, r2, r3, r4⟩ := hs0 (p2 p1.symm)
      have hlt : i < n0 := by omega
      subst r1; subst r3; subst p3
      refine ⟨.pointer (some ⟨b, i * s, none⟩), fun _ _ _ _ => ?_, .ptr q0⟩
      simp [execOp, Instr.indexAt, asIntOf, hr, h2, run_underlying ht.u, hlt, run_sizeOf' hie, hsz, Addr.add_none]
theorem op_load_lsF {o : Nat} {d : D} {x : Operand} {t id : Nat} {e : TypeId} (hf : En f s) (hx : Is (ρ x) (.ptr id (a.toNat * s + o))) (hH : H[id]? = some (.lst (l.map f) e s)) (hv : ix l a = some v) (hd : (f v).cells[o]? = some d) (ht : Sc P t) :
    OpV P (.load t x) ty ρ H (.d d) H :=
  OpV.of_val fun g w r hw h => by
    have hp := hx.rep (h x (by simp [Op.operands]))
    obtain ⟨i, hi, hv'⟩ := ix_nat hv
    subst hi
    have hil : i < l.length := (List.getElem?_eq_some_iff.1 hv').1
    obtain ⟨b, arr, cap, k1, k2, k3, q0, q2, q3, q5⟩ := hw.lstMem hH (by simp; omega)
    obtain ⟨h3, h4⟩ := flat_at hf hv'
    have ho : o < s := by have := (List.getElem?_eq_some_iff.1 hd).1; rwa [hf.sz] at this
    rw [flat_lenE hf] at h4
    rw [List.length_map] at k3
    have hlt : i * s + o < arr.size := by
      have := Nat.mul_le_mul_right s k3
      rw [q3]; omega
    generalize hr : r x = u at hp
    cases hp with
    | @ptr _ _ b' hb =>
      obtain rfl : b' = b := by rw [hb] at q0; exact Option.some.inj q0
      simp only [Int.toNat_natCast] at hr
      have hcell : w.cell? ⟨b', i * s + o, none⟩ = some arr[i * s + o] := by rw [cell_of_cells q2]; simp [hlt]
      refine ⟨arr[i * s + o], fun _ _ _ _ => by simp [execOp, Instr.loadAt, Instr.sureAddr, hr, run_loadVar_one ht hcell], .d (q5 (i * s + o) _ _ ?_ (by simp [hlt]))⟩
      rw [← h3, List.getElem?_take, if_pos ho, List.getElem?_drop] at hd
      exact hd
/-- A store into the memory of a list. -/
theorem op_storeL {l l' : List D} {x y : Operand} {t id n : Nat} {e : TypeId} {u : V} {c : List D} (hx : Is (ρ x) (.ptr id n)) (hy : Is (ρ y) u) (hv : u.cs = c.map V.d) (h1 : (c.map V.d).all V.one = true) (hsz : ∃ i, P.info? t = some i ∧ i.size = c.length) (hH : H[id]? = some (.lst l e s))
    (hz : (D.flat l).length = l.length * s) (hle : n + c.length ≤ (D.flat l).length) (hpos : 0 < l.length) (hlen : l'.length = l.length) (hX : D.flat l' = (D.flat l).take n ++ c ++ (D.flat l).drop (n + c.length)) : OpV P (.store t x y) ty ρ H .any (H.set id (.lst l' e s)) := by
  intro g w r pos after guard dst hw h
  have hp := hx.rep (h x (by simp [Op.operands]))
  have hu := hy.rep (h y (by simp [Op.operands]))
  obtain ⟨hcz, hcr⟩ := hu.cs hv h1
  obtain ⟨i, hi, his⟩ := hsz
  obtain ⟨b, arr, cap, k1, k2, k3, q0, q2, q3, q5⟩ := hw.lstMem hH hpos
  have hls : l.length * s ≤ arr.size := by rw [q3]; exact Nat.mul_le_mul_right s k3
  rw [List.length_map] at hcz
  generalize hr : r x = v' at hp
  cases hp with
  | @ptr _ _ b' hb =>
    obtain rfl : b' = b := by rw [hb] at q0; exact Option.some.inj q0
    have hone : ∀ u ∈ (r y).cells.toList, u.oneCell' = true := fun u hu' => by
      obtain ⟨j, hj⟩ := List.getElem?_of_mem hu'
      rw [Array.getElem?_toList] at hj
      have hjl : j < (c.map V.d).length := by rw [List.length_map, ← hcz]; exact (Array.getElem?_eq_some_iff.1 hj).1
      exact (hcr j (c.map V.d)[j] u (List.getElem?_eq_getElem hjl) hj).one (List.all_eq_true.1 h1 _ (List.getElem_mem hjl))
    have hrun := run_storeCells_at P b' n e (r y).cells.toList 0 arr w q2 (by simp; omega) hone
    have hsize : (r y).cells.size = i.size := by omega
    unfold OpRuns
    simp only [execOp, Instr.storeAt, Instr.sureAddr, hr, Sem.run_bind, Sem.run_pure, Result.andThen_ok, storeVar, run_sizeOf' hi, hsize, ne_eq, not_true_eq_false, if_false, hrun]
    refine ⟨g, ?_⟩
    have key := WOK.storeLst (w' := w.setRow b' (arr.toList.take (n + 0) ++ (r y).cells.toList ++ arr.toList.drop (n + 0 + (r y).cells.toList.length)).toArray) (l' := l')
      (arr' := (arr.toList.take (n + 0) ++ (r y).cells.toList ++ arr.toList.drop (n + 0 + (r y).cells.toList.length)).toArray) hw hH k1 k2 hb ⟨rfl, rfl, rfl⟩ (setRow_size w b' _) (setRow_heap w b' arr _ e _ q2) (fun b'' hne => setRow_other w b' b'' _ hne)
      (by omega) (by rw [← q3]; simp; omega) (fun k x u hx hu' => by
        simp only [Nat.add_zero, List.getElem?_toArray, hX] at hx hu'
        have l1 : (List.take n (D.flat l)).length = n := by simp; omega
        have l2 : (List.take n arr.toList).length = n := by simp; omega
        by_cases hk : k < n
        · rw [List.append_assoc, List.getElem?_append_left (by omega), List.getElem?_take, if_pos hk] at hx hu'
          rw [Array.getElem?_toList] at hu'
          exact q5 k x u hx hu'
        · rw [List.append_assoc, List.getElem?_append_right (by omega)] at hx hu'
          rw [l1] at hx
          rw [l2] at hu'
          by_cases hk2 : k - n < c.length
          · rw [List.getElem?_append_left hk2] at hx
            rw [List.getElem?_append_left (by simp; omega), Array.getElem?_toList] at hu'
            have h3 := hcr _ (.d x) u (by rw [List.getElem?_map, hx]; rfl) hu'
            cases h3 with
            | d h3 => exact h3
          · rw [List.getElem?_append_right (by omega), List.getElem?_drop] at hx
            rw [List.getElem?_append_right (by simp; omega), List.getElem?_drop, Array.getElem?_toList] at hu'
            simp only [Array.length_toList, hcz] at hu'
            exact q5 _ x u hx hu')
    exact ⟨key.1, key.2, .any⟩
/-- A field of an element. -/
theorem op_store_lsF {r : List α} {v' : α} {o : Nat} {d : D} {x y : Operand} {t id : Nat} {e : TypeId} (hf : En f s) (hx : Is (ρ x) (.ptr id (a.toNat * s + o))) (hy : Is (ρ y) (.d d)) (h0 : V.cs (.d d) = [.d d]) (h1 : V.one (.d d) = true) (hsz : ∃ i, P.info? t = some i ∧ i.size = 1) (hH : H[id]? = some (.lst (l.map f) e s))
    (hv : ix l a = some v) (hr : setI l a v' = some r) (ho : Nat.blt o s = true) (hc : (f v').cells = (f v).cells.set o d) : OpV P (.store t x y) ty ρ H .any (H.set id (.lst (r.map f) e s)) := by
  have ho : o < s := by simpa [Nat.blt_eq] using ho
  obtain ⟨i, hi, hv'⟩ := ix_nat hv
  subst hi
  have hil : i < l.length := (List.getElem?_eq_some_iff.1 hv').1
  obtain rfl : r = l.set i v' := by
    unfold setI at hr
    split at hr
    · injection hr with hr; exact hr.symm
    · cases hr
  obtain ⟨h3, h4⟩ := flat_at hf hv'
  have hz := flat_lenE hf l
  refine op_storeL (l := l.map f) (c := [d]) hx hy h0 (by simp [h1]) hsz hH (by simpa using hz) (by simp only [List.length_singleton, Int.toNat_natCast]; omega) (by simp; omega) (by simp) ?_
  rw [flat_put hf hil, hc, ← h3]
  simp only [Int.toNat_natCast, List.length_singleton]
  apply List.ext_getElem?
  intro k
  have e1 : (List.take (i * s) (D.flat (l.map f))).length = i * s := by simp; omega
  have e2 : (((D.flat (l.map f)).drop (i * s)).take s).length = s := by simp; omega
  have e3 : (List.take (i * s + o) (D.flat (l.map f))).length = i * s + o := by simp; omega
  by_cases k1 : k < i * s
  · rw [List.append_assoc, List.append_assoc, List.getElem?_append_left (by omega), List.getElem?_append_left (by omega), List.getElem?_take, List.getElem?_take, if_pos k1, if_pos (by omega)]
  · rw [List.append_assoc, List.getElem?_append_right (by omega), e1]
    by_cases k2 : k < i * s + s
    · rw [List.getElem?_append_left (by rw [List.length_set]; omega), List.getElem?_set]
      by_cases k3 : o = k - i * s
      · rw [if_pos k3, if_pos (by omega), List.append_assoc, List.getElem?_append_right (by omega), e3]
        have : k - (i * s + o) = 0 := by omega
        rw [this]; rfl
      · rw [if_neg k3, List.getElem?_take, if_pos (by omega), List.getElem?_drop]
        by_cases k4 : k < i * s + o
        · rw [List.append_assoc, List.getElem?_append_left (by omega), List.getElem?_take, if_pos k4]; congr 1; omega
        · rw [List.append_assoc, List.getElem?_append_right (by omega), e3, List.getElem?_append_right (by simp; omega), List.getElem?_drop]; congr 1; simp; omega
    · rw [List.getElem?_append_right (by rw [List.length_set]; omega), List.length_set, e2, List.getElem?_drop, List.append_assoc, List.getElem?_append_right (by omega), e3, List.getElem?_append_right (by simp; omega), List.getElem?_drop]
      congr 1; simp; omega
end
end
section
/- Pieces of lists that are written in place: their elements; 'clear'. Conditions: none. -/
open Go

section
variable {P : Program} {ρ : Operand → V} {H : List HE} {ty : TypeId} {α : Type} {f : α → D} {l r : List α} {v : α} {s : Nat} {a lo : Int}
/-- A list whose piece is made zero. -/
def clrL (l : List α) (off len : Nat) (z : α) : List α := l.take off ++ List.replicate len z ++ l.drop (off + len)
theorem clrL_len {off len : Nat} {z : α} (h : off + len ≤ l.length) : (clrL l off len z).length = l.length := by simp [clrL]; omega
end
end
end Go.Proofs.YtkdefjliknpliaaGreatDoor.Ab
