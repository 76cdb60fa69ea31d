/- Taking elements out of a list in place. Conditions: none. -/
import Derived.Test.YtjinohfopjlgkaaAb39
import Derived.Test.YtjinohfopjlgkaaAb34
import Derived.Test.YtjinohfopjlgkaaIm
namespace Go.Proofs.Ytjinohfopjlgkaa.Ab
open Go Go.RowKit

theorem delL_inv {α : Type} {l r : List α} {a b : Int} (h : delL l a b = some r) : ∃ i j : Nat, a = i ∧ b = j ∧ i ≤ j ∧ j ≤ l.length ∧ r = l.take i ++ l.drop j := by
  unfold delL at h
  split at h
  · rename_i hc
    injection h with h
    exact ⟨a.toNat, b.toNat, by omega, by omega, by omega, by omega, h.symm⟩
  · cases h
theorem WOK.truncL {g : G} {w : World} {H : List HE} {id e s : Nat} {l : List D} (hw : WOK g w H) (hH : H[id]? = some (.lst l e s)) (k : Nat) : WOK g w (H.set id (.lst (l.take k) e s)) := by
  obtain ⟨ad, cap, k1, k2, k3, k4⟩ := hw.lst id _ _ _ hH
  by_cases hc : cap = 0
  · have hl0 : l = [] := List.eq_nil_of_length_eq_zero (by omega)
    subst hl0
    rw [List.take_nil, set_none hH]; exact hw
  · obtain ⟨b, arr, rfl, q0, q2, q3, q4, q5⟩ := k4 (by omega)
    refine (WOK.storeLst (w' := w) (arr' := arr) hw hH k1 (by omega) q0 ⟨rfl, rfl, rfl⟩ rfl q2 (fun _ _ => rfl) (by simp; omega) q3 (fun i x v hx' hv' => q5 i x v ?_ hv')).1
    have : l = l.take k ++ l.drop k := (List.take_append_drop k l).symm
    rw [this, flat_append, List.getElem?_append_left (List.getElem?_eq_some_iff.1 hx').1]
    exact hx'
/-- The end of a list is given up. -/
theorem AL.truncL {F : FC} {K : St → Prop} {ops : Array Oper} {rest : List Oper} {E : Nat → V} {H : List HE} {l : List D} {e : TypeId} {s : Nat} (id k : Nat) (hH : H[id]? = some (.lst l e s)) (h : AL F ops K rest ⟨E, H.set id (.lst (l.take k) e s)⟩) : AL F ops K rest ⟨E, H⟩ := by
  rintro a w ⟨h1, h2, g, h3, h4, h5⟩
  exact h a w ⟨h1, h2, g, h3.truncL hH k, h4, h5⟩
section
variable {P : Program} {ρ : Operand → V} {H : List HE} {ty : TypeId}
/-- The end of a list is appended to its beginning. -/
theorem op_appendSelf {L : List D} {x y : Operand} {t e bytes id i j m s : Nat} (hL : ∀ x ∈ L, x.cells.length = s) (hx : Is (ρ x) (.hs id 0 i s)) (hy : Is (ρ y) (.hs id j m s)) (hH : H[id]? = some (.lst L e s)) (hi : i ≤ j) (hm : j + m = L.length)
    (hone : ∀ x ∈ L, ∀ y ∈ x.cells, y.one = true) (ht : SlT P t e s bytes) :
    OpV P (.call ⟨.builtin .append, #[x, y], #[t, t]⟩) ty ρ H (.hs id 0 (i + m) s) (H.set id (.lst (L.take i ++ L.drop j ++ L.drop (i + m)) e s)) := by
  intro g w r pos after guard dst hw h
  have hxr := hx.rep (h x (by simp [Op.operands, Call.operands]))
  have hyr := hy.rep (h y (by simp [Op.operands, Call.operands]))
  obtain ⟨ad, cap, k1, k2, k3, k4⟩ := hw.lst id _ _ _ hH
  obtain ⟨ie, z, hie, hsz, _⟩ := ht.i
  generalize hr : r x = u at hxr
  generalize hr2 : r y = u2 at hyr
  cases hxr with
  | @hs _ _ _ _ m' cap' n0 c0 a' a0 p1 p2 =>
    cases hyr with
    | @hs _ _ _ _ m'' cap'' n1 c1 a'' a1 p1' p2' =>
      rw [k1] at p1; injection p1 with p1; injection p1 with p1 p3; injection p3 with p3 p4
      rw [k1] at p1'; injection p1' with p1'; injection p1' with p1' p3'; injection p3' with p3' p4'
      obtain ⟨r1, r2, r3, r4⟩ := hs0 (p2 p1.symm)
      obtain ⟨s1, s2, s3, s4⟩ := p2' p1'.symm
      subst p3; subst p4; subst p3'; subst p4'; subst r1; subst r2; subst r3; subst s2
      by_cases hm0 : n1 = 0
      · subst hm0
        have e1 : L.take n0 ++ L.drop j ++ L.drop (n0 + 0) = L := by
          rw [List.drop_of_length_le (l := L) (i := j) (by omega), List.append_nil, Nat.add_zero, List.take_append_drop]
        rw [e1, set_none hH]
        have hrun : (execOp r ⟨dst, .call ⟨.builtin .append, #[x, y], #[t, t]⟩, ty, pos, after, guard⟩).run P w = .ok (.value (.slice a0 n0 c0)) w := by
          simp [execOp, resolve, invoke, builtin, hr, hr2, append_none_run ht r4]
        unfold OpRuns
        rw [hrun]
        exact ⟨g, hw, .refl _ _, .hs k1 (fun _ => ⟨rfl, rfl, rfl, r4⟩)⟩
      · obtain ⟨b, arr, rfl, q0, q2, q3, q4, q5⟩ := k4 (by omega)
        clear k4
        rw [subA_at (by omega)] at s1
        subst s1
        have fl := flatS_len hL
        have hjm : j * s + n1 * s ≤ L.length * s := by rw [← Nat.add_mul]; exact Nat.mul_le_mul_right s (by omega)
        have hLc : L.length * s ≤ arr.size := by rw [q3]; exact Nat.mul_le_mul_right s k2
        have hij : n0 * s ≤ j * s := Nat.mul_le_mul_right s hi
        let cs := (arr.toList.drop (j * s)).take (n1 * s)
        have hcl : cs.length = n1 * s := by simp [cs]; omega
        have hcs : ∀ (q : Nat) v, cs[q]? = some v → q < n1 * s ∧ arr[j * s + q]? = some v := fun q v hv => by
          simp only [cs, List.getElem?_take, List.getElem?_drop, Array.getElem?_toList] at hv
          split at hv
          · rename_i h; exact ⟨h, hv⟩
          · cases hv
        have hcone : ∀ v ∈ cs, v.oneCell' = true := fun v hv => by
          obtain ⟨q, hq⟩ := List.getElem?_of_mem hv
          obtain ⟨h1, h2⟩ := hcs q v hq
          obtain ⟨z, hz⟩ : ∃ z, (D.flat L)[j * s + q]? = some z := ⟨_, List.getElem?_eq_getElem (by omega)⟩
          refine (q5 _ z v hz h2).one ?_
          obtain ⟨x, hx, hy⟩ := List.mem_flatMap.1 (List.mem_of_getElem? hz)
          exact hone x hx z hy
        have hrun0 := run_append_room (P := P) w t ty e ie ht.u hie b n0 c0 arr q2 ⟨b, j * s, none⟩ n1 c1 cs (by rw [hcl, hsz]) (fun q v hv => by rw [Addr.add_none, cell_of_cells q2]; exact (hcs q v hv).2) hcone (by omega) (by rw [hsz, hcl]; omega)
        rw [hsz] at hrun0
        have hrun : (execOp r ⟨dst, .call ⟨.builtin .append, #[x, y], #[t, t]⟩, ty, pos, after, guard⟩).run P w = .ok (.value (.slice (some ⟨b, 0, none⟩) (n0 + n1) c0)) (w.setRow b (arr.toList.take (n0 * s) ++ cs ++ arr.toList.drop (n0 * s + cs.length)).toArray) := by
          simp [execOp, resolve, invoke, builtin, hr, hr2, hrun0]
        unfold OpRuns
        rw [hrun]
        have l1 : (D.flat (L.take n0)).length = n0 * s := by rw [flatS_take n0 hL, List.length_take, fl]; omega
        have l2 : (List.take (n0 * s) arr.toList).length = n0 * s := by simp; omega
        have l3 : (D.flat (L.drop j)).length = n1 * s := by rw [flatS_drop j hL, List.length_drop, fl, ← Nat.sub_mul]; congr 1; omega
        have key := WOK.storeLst (w' := w.setRow b (arr.toList.take (n0 * s) ++ cs ++ arr.toList.drop (n0 * s + cs.length)).toArray) (l' := L.take n0 ++ L.drop j ++ L.drop (n0 + n1))
          (arr' := (arr.toList.take (n0 * s) ++ cs ++ arr.toList.drop (n0 * s + cs.length)).toArray) hw hH k1 (by omega) q0 ⟨rfl, rfl, rfl⟩ (setRow_size w b _) (setRow_heap w b arr _ e _ q2) (fun b'' hne => setRow_other w b b'' _ hne)
          (by simp; omega) (by rw [← q3]; simp; omega) (fun k x u hx' hu' => by
            simp only [List.getElem?_toArray] at hu'
            rw [List.append_assoc, flat_append, flat_append] at hx'
            rw [List.append_assoc] at hu'
            by_cases hk : k < n0 * s
            · rw [List.getElem?_append_left (by omega), flatS_take n0 hL, List.getElem?_take, if_pos hk] at hx'
              rw [List.getElem?_append_left (by omega), List.getElem?_take, if_pos hk, Array.getElem?_toList] at hu'
              exact q5 k _ u hx' hu'
            · rw [List.getElem?_append_right (by omega), l1] at hx'
              rw [List.getElem?_append_right (by omega), l2] at hu'
              by_cases hk2 : k - n0 * s < n1 * s
              · rw [List.getElem?_append_left (by omega), flatS_drop j hL, List.getElem?_drop] at hx'
                rw [List.getElem?_append_left (by omega)] at hu'
                exact q5 _ x u hx' (hcs _ u hu').2
              · rw [List.getElem?_append_right (by omega), l3, flatS_drop _ hL, List.getElem?_drop] at hx'
                rw [List.getElem?_append_right (by omega), hcl, List.getElem?_drop, Array.getElem?_toList] at hu'
                rw [Nat.add_mul] at hx'
                exact q5 _ _ u hx' hu')
        exact ⟨g, key.1, key.2, .hs k1 (fun _ => ⟨rfl, rfl, rfl, by omega⟩)⟩
/-- The piece of a list behind the end of a shorter view of it. -/
theorem op_sliceB {L : List D} {x a b : Operand} {t e bytes id m n s : Nat} {k k' : IntKind} (hx : Is (ρ x) (.hs id 0 m s)) (hH : H[id]? = some (.lst L e s)) (ha : As (ρ a) (.int k (m : Int))) (hb : As (ρ b) (.int k' (n : Int))) (hmn : m ≤ n) (hn : n ≤ L.length) (ht : SlT P t e s bytes) :
    OpV P (.slice t x (some a) (some b) none) ty ρ H (.hs id m (n - m) s) H := by
  intro g w r pos after guard dst hw h
  have hxr := hx.rep (h x (by simp [Op.operands]))
  have har := ha.int (h a (by simp [Op.operands]))
  have hbr := hb.int (h b (by simp [Op.operands]))
  obtain ⟨ad, cap, k1, k2, k3, k4⟩ := hw.lst id _ _ _ hH
  clear k4
  obtain ⟨ie, z, hie, hsz, _⟩ := ht.i
  generalize hr : r x = u at hxr
  cases hxr with
  | @hs _ _ _ _ m' cap' n0 c0 a' a0 p1 p2 =>
    rw [k1] at p1; injection p1 with p1; injection p1 with p1 p3; injection p3 with p3 p4
    obtain ⟨r1, r2, r3, r4⟩ := hs0 (p2 p1.symm)
    subst p3; subst p4; subst r1; subst r2; subst r3
    have hb1 : ∀ k (q : Nat) y c, q ≤ y → (Instr.sliceBound (.int k (q : Int)) y c).run P w = .ok q w := fun k q y c hy => by
      simp [Instr.sliceBound, asIntOf, show ((q : Int) ≤ (y : Int)) by omega]
    have hrun : (execOp r ⟨dst, .slice t x (some a) (some b) none, ty, pos, after, guard⟩).run P w = .ok (.value (.slice (subA a0 c0 n0 s) (n - n0) (c0 - n0))) w := by
      have hsub : (if c0 = n0 then a0 else a0.map (·.add (n0 * s))) = subA a0 c0 n0 s := by
        unfold subA
        by_cases h0 : n0 = 0
        · subst h0
          rw [if_pos rfl]
          split
          · rfl
          · cases a0 with
            | none => rfl
            | some q => obtain ⟨b, o, q⟩ := q; simp [Addr.add]
        · rw [if_neg h0]
      have hz : (c0 - n0 = 0) = (c0 = n0) := propext ⟨fun h => by omega, fun h => by omega⟩
      rw [← hsub]
      simp [execOp, Instr.sliceAt, Instr.slice, Instr.sliceBounds, run_underlying ht.u, hr, har, hbr, hb1 _ n c0 _ (by omega), hb1 _ n0 n _ hmn, run_sizeOf' hie, hsz, hz, Result.andThen]
      try (split <;> rfl)
    unfold OpRuns
    rw [hrun]
    exact ⟨g, hw, .refl _ _, .hs k1 (fun _ => ⟨rfl, rfl, rfl, by omega⟩)⟩
/-- A piece that is looked at and dropped. -/
theorem op_slice3A {L : List D} {x a b c : Operand} {t e bytes id i j n s : Nat} {k k' k'' : IntKind} (hx : Is (ρ x) (.hs id 0 n s)) (hH : H[id]? = some (.lst L e s)) (ha : As (ρ a) (.int k (i : Int))) (hb : As (ρ b) (.int k' (j : Int))) (hc : As (ρ c) (.int k'' (n : Int))) (hij : i ≤ j) (hjn : j ≤ n) (ht : SlT P t e s bytes) :
    OpV P (.slice t x (some a) (some b) (some c)) ty ρ H .any H := by
  intro g w r pos after guard dst hw h
  have hxr := hx.rep (h x (by simp [Op.operands]))
  have har := ha.int (h a (by simp [Op.operands]))
  have hbr := hb.int (h b (by simp [Op.operands]))
  have hcr := hc.int (h c (by simp [Op.operands]))
  obtain ⟨ad, cap, k1, k2, k3, k4⟩ := hw.lst id _ _ _ hH
  clear k4
  obtain ⟨ie, z, hie, hsz, _⟩ := ht.i
  generalize hr : r x = u at hxr
  cases hxr with
  | @hs _ _ _ _ m' cap' n0 c0 a' a0 p1 p2 =>
    rw [k1] at p1; injection p1 with p1; injection p1 with p1 p3; injection p3 with p3 p4
    obtain ⟨r1, r2, r3, r4⟩ := hs0 (p2 p1.symm)
    subst p3; subst p4; subst r1; subst r2; subst r3
    have hb1 : ∀ k (q : Nat) y c, q ≤ y → (Instr.sliceBound (.int k (q : Int)) y c).run P w = .ok q w := fun k q y c hy => by
      simp [Instr.sliceBound, asIntOf, show ((q : Int) ≤ (y : Int)) by omega]
    have hz : (n0 - i = 0) = (n0 = i) := propext ⟨fun h => by omega, fun h => by omega⟩
    have hrun : ∃ v, (execOp r ⟨dst, .slice t x (some a) (some b) (some c), ty, pos, after, guard⟩).run P w = .ok (.value v) w := by
      refine ⟨.slice (if n0 = i then a0 else a0.map (·.add (i * s))) (j - i) (n0 - i), ?_⟩
      simp [execOp, Instr.sliceAt, Instr.slice, Instr.sliceBounds, run_underlying ht.u, hr, har, hbr, hcr, hb1 _ n0 c0 _ r4, hb1 _ j n0 _ hjn, hb1 _ i j _ hij, run_sizeOf' hie, hsz, hz, Result.andThen]
      try (split <;> rfl)
    obtain ⟨v, hrun⟩ := hrun
    unfold OpRuns
    rw [hrun]
    exact ⟨g, hw, .refl _ _, .any⟩
end
theorem clrL_take {α : Type} {l : List α} {off len : Nat} {z : α} (h : off ≤ l.length) : (clrL l off len z).take off = l.take off := by
  unfold clrL
  rw [List.append_assoc, List.take_left' (by simp; omega)]
theorem AW.congrH {F : FC} {c : Code} {Q : Exit → St → Prop} {E : Nat → V} {H H' : List HE} (h : H = H') (k : AW F c Q ⟨E, H'⟩) : AW F c Q ⟨E, H⟩ := h ▸ k
end Go.Proofs.Ytjinohfopjlgkaa.Ab
