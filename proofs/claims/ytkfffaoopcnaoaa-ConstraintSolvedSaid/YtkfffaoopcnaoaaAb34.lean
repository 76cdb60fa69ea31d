/- Pieces of lists that are written in place: their elements; 'clear'. Conditions: none. -/
import Derived.Test.YtkfffaoopcnaoaaAb33
import Derived.Lib.SliceRun
namespace Go.Proofs.Ytkfffaoopcnaoaa.Ab
open Go

theorem subA_pos {b cap off s len : Nat} (h : 0 < len) (hc : len + off ≤ cap) : subA (some ⟨b, 0, none⟩) cap off s = some ⟨b, off * s, none⟩ := by
  unfold subA
  split
  · rename_i h0; subst h0; simp
  · rw [if_neg (by omega)]
    simp only [Option.map_some, Addr.add]
    split
    · rename_i h1; rw [h1]
    · simp
section
variable {P : Program} {ρ : Operand → V} {H : List HE} {ty : TypeId} {α : Type} {f : α → D} {l r : List α} {v : α} {s : Nat} {a lo : Int}
/-- The value of a piece that is not empty. -/
theorem piece_form {g : G} {w : World} {id off len : Nat} {u : Value} {e : TypeId} {ls : List D} (hw : WOK g w H) (hH : H[id]? = some (.lst ls e s)) (hr : Rep g w (.hs id off len s) u) (hlen : 0 < len) :
    ∃ b cap arr, u = .slice (some ⟨b, off * s, none⟩) len (cap - off) ∧ len + off ≤ cap ∧ g.τ id = some (0, some ⟨b, 0, none⟩, cap) ∧ 0 < cap ∧ ls.length ≤ cap ∧ g.σ id = some b ∧ w.heap[b]? = some (.cells arr e (0, 0)) ∧ arr.size = cap * s ∧ (∀ (k : Nat) x v, (D.flat ls)[k]? = some x → arr[k]? = some v → RepD g.Pr w x v) := by
  obtain ⟨a1, cap, f1, f2, f3, f4⟩ := hw.lst id ls e s hH
  cases hr with
  | hs p1 p2 =>
    rw [f1] at p1; injection p1 with p1; injection p1 with p1 p3; injection p3 with p3 p4
    subst p1; subst p3; subst p4
    obtain ⟨r1, r2, r3, r4⟩ := p2 rfl
    obtain ⟨b, arr, q1, q0, q2, q3, q4, q5⟩ := f4 (by omega)
    subst q1
    rw [subA_pos hlen r4] at r1
    subst r1; subst r2; subst r3
    exact ⟨b, cap, arr, rfl, r4, f1, by omega, f2, q0, q2, q3, q5⟩
theorem op_indexAddr_pc {x y : Operand} {t e bytes id : Nat} {k : IntKind} {ls : List D} (hx : Is (ρ x) (.hs id lo.toNat r.length s)) (hlo : 0 ≤ lo) (hH : H[id]? = some (.lst ls e s))
    (hy : As (ρ y) (.int k a)) (hv : ix r a = some v) (ht : SlT P t e s bytes) : OpV P (.indexAddr t x y) ty ρ H (.ptr id ((lo + a).toNat * s)) H :=
  OpV.of_val fun g w rr hw h => by
    have h1 := hx.rep (h x (by simp [Op.operands]))
    have h2 := hy.int (h y (by simp [Op.operands]))
    obtain ⟨i, hi, hv'⟩ := ix_nat hv
    subst hi
    have hil : i < r.length := (List.getElem?_eq_some_iff.1 hv').1
    obtain ⟨b, cap, arr, e1, e2, _, _, _, q0, _⟩ := piece_form hw hH h1 (by omega)
    obtain ⟨ie, z, hie, hsz, _⟩ := ht.i
    have e3 : (lo + (i : Int)).toNat = lo.toNat + i := by omega
    refine ⟨.pointer (some ⟨b, (lo + (i : Int)).toNat * s, none⟩), fun _ _ _ _ => ?_, .ptr q0⟩
    rw [e3, Nat.add_mul]
    simp [execOp, Instr.indexAt, asIntOf, e1, h2, run_underlying ht.u, hil, run_sizeOf' hie, hsz, Addr.add]
theorem op_load_lp1 {x : Operand} {t id : Nat} {e : TypeId} (h1 : ∀ x, (f x).cells = [f x]) (hx : Is (ρ x) (.ptr id (a.toNat * 1))) (hH : H[id]? = some (.lst (l.map f) e 1)) (hv : ix l a = some v) (ht : Sc P t) :
    OpV P (.load t x) ty ρ H (.d (f v)) H := op_load_lp h1 (by rwa [Nat.mul_one] at hx) hH hv ht
theorem slc_lo {l r : List α} {lo hi : Int} (h : slc l lo hi = some r) : 0 ≤ lo := by
  unfold slc at h
  split at h
  · omega
  · cases h
/-- A list whose piece is made zero. -/
def clrL (l : List α) (off len : Nat) (z : α) : List α := l.take off ++ List.replicate len z ++ l.drop (off + len)
theorem clrL_len {off len : Nat} {z : α} (h : off + len ≤ l.length) : (clrL l off len z).length = l.length := by simp [clrL]; omega
theorem zeros_at {zs : Array Value} {n k : Nat} {v : Value} (h : (Builtin.zeroCells zs n).toList[k]? = some v) : ∃ q, q = k % zs.size ∧ zs[q]? = some v := by
  have hk : k < n * zs.size := by
    have := (List.getElem?_eq_some_iff.1 h).1
    simpa [Builtin.zeroCells] using this
  have hs : 0 < zs.size := by
    rcases Nat.eq_zero_or_pos zs.size with h0 | h0
    · rw [h0] at hk; simp at hk
    · exact h0
  have hq : k % zs.size < zs.size := Nat.mod_lt _ hs
  refine ⟨_, rfl, ?_⟩
  simp only [Builtin.zeroCells, Array.toList_map, Array.toList_range, List.getElem?_map, List.getElem?_range hk, Option.map_some, Option.some.injEq] at h
  rw [← h, getElem!_pos zs _ hq, Array.getElem?_eq_getElem hq]
theorem zeros_len {zs : Array Value} {n : Nat} : (Builtin.zeroCells zs n).toList.length = n * zs.size := by simp [Builtin.zeroCells]
theorem set_self {H : List HE} {id : Nat} {e : HE} (h : H[id]? = some e) : H.set id e = H := by
  obtain ⟨h1, h2⟩ := List.getElem?_eq_some_iff.1 h
  rw [← h2]; exact List.set_getElem_self h1
theorem op_clear {z : α} {x : Operand} {t e bytes id off len : Nat} {zs : List Value} (hf : En f s) (hx : Is (ρ x) (.hs id off len s)) (hH : H[id]? = some (.lst (l.map f) e s)) (hlen : off + len ≤ l.length) (ht : SlT P t e s bytes) (hz : Zr P e zs) (hfz : (f z).cells = zs.map absC) :
    OpV P (.call ⟨.builtin .clear, #[x], #[t]⟩) ty ρ H (.tup []) (H.set id (.lst ((clrL l off len z).map f) e s)) := by
  intro g w rr pos after guard dst hw h
  have hxr := hx.rep (h x (by simp [Op.operands, Call.operands]))
  obtain ⟨inf, zv, hi, hsz, hby, hz1, hz2⟩ := ht.i
  obtain ⟨inf', zv', k1, k2, k3, k4⟩ := hz.z
  rw [hi] at k1; injection k1 with k1; subst k1
  rw [hz1] at k2; injection k2 with k2; subst k2
  have hzs : zv.cells.size = s := by omega
  by_cases h0 : len = 0
  · subst h0
    have e0 : clrL l off 0 z = l := by simp [clrL]
    rw [e0, set_self hH]
    have hv : ∃ a0 c0, rr x = .slice a0 0 c0 := by
      generalize hu : rr x = u at hxr
      cases hxr with
      | hs p1 p2 =>
        obtain ⟨ad, cap, f1, f2, f3, f4⟩ := hw.lst id _ e s hH
        rw [f1] at p1; injection p1 with p1; injection p1 with p1 p3
        obtain ⟨r1, r2, r3, r4⟩ := p2 p1.symm
        subst r2; exact ⟨_, _, rfl⟩
    obtain ⟨a0, c0, hv⟩ := hv
    have hrun : (execOp rr ⟨dst, .call ⟨.builtin .clear, #[x], #[t]⟩, ty, pos, after, guard⟩).run P w = .ok (.value (.tuple #[])) w := by
      cases a0 <;> simp [execOp, resolve, invoke, builtin, Builtin.clear_, run_underlying ht.u, hv]
    unfold OpRuns
    rw [hrun]
    exact ⟨g, hw, Evo.refl g w, .tup rfl (by simp)⟩
  · obtain ⟨b, cap, arr, e1, e2, e3, e4, e5, q0, q2, q3, q5⟩ := piece_form hw hH hxr (by omega)
    have hcl : (Builtin.zeroCells zv.cells len).toList.length = len * s := by rw [zeros_len, hzs]
    have hls := flat_lenE hf l
    have hoff : off * s + len * s ≤ l.length * s := by rw [← Nat.add_mul]; exact Nat.mul_le_mul_right s hlen
    have hll : l.length * s ≤ arr.size := by rw [q3]; exact Nat.mul_le_mul_right s (by simpa using e5)
    have hone : ∀ v ∈ (Builtin.zeroCells zv.cells len).toList, v.oneCell' = true := fun v hv => by
      obtain ⟨j, hj⟩ := List.getElem?_of_mem hv
      obtain ⟨q, _, hq⟩ := zeros_at hj
      have h5 : (f z).cells[q]? = some (absC v) := by rw [hfz, ← k3, List.getElem?_map, Array.getElem?_toList, hq]; rfl
      have h6 := hf.one z (absC v) (List.mem_of_getElem? h5)
      exact (RepD.absC g.Pr w v).one h6
    have hst := run_storeCells_at P b (off * s) e (Builtin.zeroCells zv.cells len).toList 0 arr w q2 (by rw [hcl]; omega) hone
    have hrun : (execOp rr ⟨dst, .call ⟨.builtin .clear, #[x], #[t]⟩, ty, pos, after, guard⟩).run P w = .ok (.value (.tuple #[])) (w.setRow b (arr.toList.take (off * s + 0) ++ (Builtin.zeroCells zv.cells len).toList ++ arr.toList.drop (off * s + 0 + (Builtin.zeroCells zv.cells len).toList.length)).toArray) := by
      obtain ⟨m, rfl⟩ : ∃ m, len = m + 1 := ⟨len - 1, by omega⟩
      simp [execOp, resolve, invoke, builtin, Builtin.clear_, run_underlying ht.u, e1, run_zeroValue' hi hz1, hst]
    unfold OpRuns
    rw [hrun]
    refine ⟨g, ?_⟩
    have key := WOK.storeLst (w' := w.setRow b (arr.toList.take (off * s + 0) ++ (Builtin.zeroCells zv.cells len).toList ++ arr.toList.drop (off * s + 0 + (Builtin.zeroCells zv.cells len).toList.length)).toArray) (l' := (clrL l off len z).map f)
      (arr' := (arr.toList.take (off * s + 0) ++ (Builtin.zeroCells zv.cells len).toList ++ arr.toList.drop (off * s + 0 + (Builtin.zeroCells zv.cells len).toList.length)).toArray) hw hH e3 e4 q0 ⟨rfl, rfl, rfl⟩ (setRow_size w b _) (setRow_heap w b arr _ e _ q2) (fun b'' hne => setRow_other w b b'' _ hne)
      (by rw [List.length_map, clrL_len hlen]; simpa using e5) (by rw [← q3]; simp [hcl]; omega) (fun k x u hx hu' => by
        have hX : D.flat ((clrL l off len z).map f) = (D.flat (l.map f)).take (off * s) ++ D.flat ((List.replicate len z).map f) ++ (D.flat (l.map f)).drop (off * s + len * s) := by
          have hsplit : ∀ (n : Nat), n ≤ l.length → (D.flat (l.map f)).take (n * s) = D.flat ((l.take n).map f) ∧ (D.flat (l.map f)).drop (n * s) = D.flat ((l.drop n).map f) := fun n hn => by
            have e : l.map f = (l.take n).map f ++ (l.drop n).map f := by rw [← List.map_append, List.take_append_drop]
            have e' : D.flat (l.map f) = D.flat ((l.take n).map f) ++ D.flat ((l.drop n).map f) := by rw [e]; simp only [D.flat, List.flatMap_append]
            have hlen' : (D.flat ((l.take n).map f)).length = n * s := by rw [flat_lenE hf, List.length_take]; rw [Nat.min_eq_left hn]
            rw [e', ← hlen', List.take_left, List.drop_left]
            exact ⟨rfl, rfl⟩
          rw [← Nat.add_mul, (hsplit off (by omega)).1, (hsplit (off + len) hlen).2]
          simp only [clrL, List.map_append, D.flat, List.flatMap_append]
        simp only [Nat.add_zero, List.getElem?_toArray, hX, hcl] at hx hu'
        have hz0 : (D.flat ((List.replicate len z).map f)).length = len * s := by rw [flat_lenE hf, List.length_replicate]
        have l1 : (List.take (off * s) (D.flat (l.map f))).length = off * s := by simp; omega
        have l2 : (List.take (off * s) arr.toList).length = off * s := by simp; omega
        by_cases hk : k < off * s
        · rw [List.append_assoc, List.getElem?_append_left (by omega), List.getElem?_take, if_pos hk] at hx hu'
          rw [Array.getElem?_toList] at hu'
          exact q5 k x u hx hu'
        · rw [List.append_assoc, List.getElem?_append_right (by omega)] at hx hu'
          rw [l1] at hx
          rw [l2] at hu'
          by_cases hk2 : k - off * s < len * s
          · rw [List.getElem?_append_left (by omega)] at hx
            rw [List.getElem?_append_left (by omega)] at hu'
            rw [List.map_replicate] at hx
            obtain ⟨j, h7, h8⟩ := flat_rep (s := s) (hf.sz z) rfl hx
            obtain ⟨q, h9, h10⟩ := zeros_at hu'
            rw [hzs] at h9
            have : j = q := by omega
            subst this
            rw [hfz, ← k3, List.getElem?_map, Array.getElem?_toList, h10] at h7
            simp only [Option.map_some, Option.some.injEq] at h7
            rw [← h7]; exact RepD.absC g.Pr w u
          · rw [List.getElem?_append_right (by omega), List.getElem?_drop, hz0] at hx
            rw [List.getElem?_append_right (by omega), List.getElem?_drop, Array.getElem?_toList, hcl] at hu'
            exact q5 _ x u hx hu')
    exact ⟨key.1, key.2, .tup rfl (by simp)⟩
end
end Go.Proofs.Ytkfffaoopcnaoaa.Ab
