/- Lists that are made where the order of evaluation is left open; calls that only read the heap. Conditions: none. -/
import Derived.Test.YtkfffaoopcnaoaaAb21
namespace Go.Proofs.Ytkfffaoopcnaoaa.Ab
open Go
section
variable {P : Program} {ρ : Operand → V} {H : List HE} {ty : TypeId}
theorem op_appendHR {x y : Operand} {t e s bytes id res len : Nat} {l l' : List D} (ht : SlT P t e s bytes) (hx : Is (ρ x) (.hs id 0 len s)) (hy : As (ρ y) (.sl l')) (hH : H[id]? = some (.lst l e s)) (hll : l.length = len) (hfr : H[res]? = some .free)
    (hs : ∀ x ∈ l ++ l', x.cells.length = s) (hone : ∀ x ∈ l', ∀ y ∈ x.cells, y.one = true) (hbytes : (l ++ l').length * bytes ≤ 140737488355328) (hlen : (l ++ l').length ≤ 4611686018427387904) :
    OpV P (.call ⟨.builtin .append, #[x, y], #[t, t]⟩) ty ρ H (.hs res 0 (l ++ l').length s) ((H.set id .dead).set res (.lst (l ++ l') e s)) := by
  subst hll
  intro g w r pos after guard dst hw h
  have h1 := hx.rep (h x (by simp [Op.operands, Call.operands]))
  have h2 := hy.rep (h y (by simp [Op.operands, Call.operands]))
  have hidlt : id < H.length := (List.getElem?_eq_some_iff.1 hH).1
  obtain ⟨a, cap, k1, k2, k3, k4⟩ := hw.lst id l e s hH
  generalize hrx : r x = vx at h1
  cases h1 with
  | @hs _ _ _ _ m cap' n0 c0 a' a0 p1 p2 =>
    rw [k1] at p1; injection p1 with p1; injection p1 with p1 p3; injection p3 with p3 p4
    obtain ⟨q1, q2, q3, _⟩ := hs0 (p2 p1.symm)
    subst q1; subst q3; subst p3; subst p4; subst q2
    have hne : res ≠ id := fun h => by subst h; rw [hH] at hfr; cases hfr
    have hrlt : res < H.length := (List.getElem?_eq_some_iff.1 hfr).1
    suffices hgoal : ∃ rv w' g', (Builtin.append_ #[t, t] ty #[.slice a l.length cap, r y]).run P w = .ok rv w' ∧ WOK g' w' ((H.set id .dead).set res (.lst (l ++ l') e s)) ∧ Evo g w g' w' ∧ Rep g' w' (.hs res 0 (l ++ l').length s) rv by
      obtain ⟨rv, w', g', e1, e2, e3, e4⟩ := hgoal
      unfold OpRuns
      have : (execOp r ⟨dst, .call ⟨.builtin .append, #[x, y], #[t, t]⟩, ty, pos, after, guard⟩).run P w = .ok (.value rv) w' := by
        simp [execOp, resolve, invoke, builtin, hrx, e1]
      rw [this]
      exact ⟨g', e2, e3, e4⟩
    by_cases hl0 : l' = []
    · subst hl0
      obtain ⟨a', cap', hra, _⟩ := slice_form h2
      rw [hra]
      obtain ⟨g', w1, w2, w3, _⟩ := hw.moveLst hH hfr
      refine ⟨_, w, g', append_none_run ht k2, by simpa using w1, w2, ?_⟩
      rw [List.append_nil]
      exact .hs (w3.trans k1) (fun _ => ⟨rfl, rfl, rfl, k2⟩)
    · have hlpos : 0 < l'.length := List.length_pos_iff.2 hl0
      obtain ⟨ie, z, hie, hsz, hby, hz1, hz2⟩ := ht.i
      have hsl : ∀ x ∈ l, x.cells.length = s := fun x hx => hs x (by simp [hx])
      have hsl' : ∀ x ∈ l', x.cells.length = s := fun x hx => hs x (by simp [hx])
      obtain ⟨b', o', cap', f', hra, _, hk', hrep', hone'⟩ := h2.slCells hsl' hone hl0
      rw [hra]
      have fl := flat_length hsl
      have hnews : ∀ (j : Nat) v, ((List.range (l'.length * s)).map f')[j]? = some v → w.cell? ((⟨b', o', none⟩ : Addr).add j) = some v := by
        intro j v hv
        have hj : j < l'.length * s := by
          have := (List.getElem?_eq_some_iff.1 hv).1; simpa using this
        rw [range_map_get _ _ _ hj] at hv
        rw [Addr.add_none, (hk' j hj).2]; exact hv
      have hone1 : ∀ u ∈ (List.range (l'.length * s)).map f', u.oneCell' = true := by
        intro u hu
        simp only [List.mem_map, List.mem_range] at hu
        obtain ⟨k, hk, rfl⟩ := hu
        exact hone' k hk
      have hmul : (l.length + l'.length) * s = l.length * s + l'.length * s := Nat.add_mul _ _ _
      -- contents of a row that begins with the old cells and the new ones
      have cont : ∀ (arr2 : List Value), (∀ (k : Nat) x v, (D.flat l)[k]? = some x → arr2[k]? = some v → RepD g.Pr w x v) → (∀ (k : Nat), k < l'.length * s → arr2[l.length * s + k]? = some (f' k)) →
          ∀ (k : Nat) x v, (D.flat (l ++ l'))[k]? = some x → arr2[k]? = some v → RepD g.Pr w x v := by
        intro arr2 c1 c2 k x v hx hv
        rw [flat_append] at hx
        by_cases hkl : k < l.length * s
        · rw [List.getElem?_append_left (by omega)] at hx
          exact c1 k x v hx hv
        · rw [List.getElem?_append_right (by omega), fl] at hx
          have hk2 : k - l.length * s < l'.length * s := by
            have := (List.getElem?_eq_some_iff.1 hx).1
            rw [flat_length hsl'] at this; exact this
          have := c2 (k - l.length * s) hk2
          rw [show l.length * s + (k - l.length * s) = k by omega, hv] at this
          injection this with this; subst this
          exact hrep' _ x hx
      by_cases hroom : l.length + l'.length ≤ cap
      · obtain ⟨b, arr, rfl, hσ, hb, harr, hPr, hcon⟩ := k4 (by omega)
        have hfit : l.length * s + l'.length * s ≤ arr.size := by
          rw [harr, ← hmul]; exact Nat.mul_le_mul_right _ hroom
        have hrun := run_append_room (P := P) w t ty e ie ht.u hie b l.length cap arr hb ⟨b', o', none⟩ l'.length cap' ((List.range (l'.length * s)).map f') (by simp [hsz]) hnews hone1 hroom (by rw [hsz]; simpa using hfit)
        rw [hsz] at hrun
        obtain ⟨g1, w1, w2, w3, w4, w5, _⟩ := hw.moveLst hH hfr
        have key := WOK.storeLst (w' := w.setRow b (arr.toList.take (l.length * s) ++ (List.range (l'.length * s)).map f' ++ arr.toList.drop (l.length * s + ((List.range (l'.length * s)).map f').length)).toArray) (l' := l ++ l')
          (arr' := (arr.toList.take (l.length * s) ++ (List.range (l'.length * s)).map f' ++ arr.toList.drop (l.length * s + ((List.range (l'.length * s)).map f').length)).toArray) (cap := cap) (b := b) w1 (id := res) (by rw [List.getElem?_set_self (by simpa using hrlt)]) (w3.trans k1) (by omega) (w4.trans hσ)
          ⟨rfl, rfl, rfl⟩ (setRow_size w b _) (setRow_heap w b arr _ e _ hb) (fun b'' hne => setRow_other w b b'' _ hne) (by simpa using hroom) (by simp; omega)
          (by
            rw [w5]
            intro k x v hx hv
            rw [List.getElem?_toArray] at hv
            refine cont _ (fun k x v hx hv => ?_) (fun k hk => ?_) k x v hx hv
            · have hkl : k < l.length * s := by rw [← fl]; exact (List.getElem?_eq_some_iff.1 hx).1
              rw [List.append_assoc, List.getElem?_append_left (by simp; omega), List.getElem?_take, if_pos hkl, Array.getElem?_toList] at hv
              exact hcon k x v hx hv
            · rw [List.append_assoc, List.getElem?_append_right (by simp; omega), List.getElem?_append_left (by simp; omega)]
              have : l.length * s + k - (List.take (l.length * s) arr.toList).length = k := by simp; omega
              rw [this]; exact range_map_get f' _ _ hk)
        refine ⟨_, _, g1, hrun, ?_, w2.trans key.2, ?_⟩
        · have := key.1
          rwa [List.set_set] at this
        · exact .hs (w3.trans k1) (fun _ => ⟨rfl, by simp, rfl, by simpa using hroom⟩)
      · simp only [List.length_append] at hbytes hlen
        let need := l.length + l'.length
        let C := grownCap w need cap e
        have hC : need ≤ C := grownCap_ge w need cap e
        have hC2 : C ≤ 9223372036854775807 := by
          have := grownCap_le_maxLen w need cap e (by simp only [maxLen]; omega)
          simpa [maxLen] using this
        have hgrow : cap < l.length + l'.length := by omega
        obtain ⟨olds, hol, hrun, hf2⟩ : ∃ (olds : List Value), olds.length = l.length * s ∧
            (Builtin.append_ #[t, t] ty #[.slice a l.length cap, .slice (some ⟨b', o', none⟩) l'.length cap']).run P w =
              .ok (.slice (some ⟨w.heap.size, 0, none⟩) need C) (w.drew.alloc (.cells (olds.toArray ++ ((List.range (l'.length * s)).map f').toArray ++ Builtin.zeroCells z.cells (C - need)) e)) ∧
            (∀ (k : Nat) x v, (D.flat l)[k]? = some x → olds[k]? = some v → RepD g.Pr w x v) := by
          by_cases hc0 : cap = 0
          · have hln : l = [] := List.eq_nil_of_length_eq_zero (by omega)
            subst hln
            refine ⟨[], by simp, ?_, by simp [D.flat]⟩
            cases a with
            | none =>
              subst hc0
              have := run_append_nil (P := P) w t ty e ie z ht.u hie hz1 ⟨b', o', none⟩ l'.length cap' ((List.range (l'.length * s)).map f') (by simp [hsz]) hnews hlpos (by omega) (by rw [hby]; simp at hbytes; omega)
              simpa [need, C] using this
            | some ad =>
              have := run_append_grow (P := P) w t ty e ie z ht.u hie hz1 ad 0 cap [] (by simp) (by simp) ⟨b', o', none⟩ l'.length cap' ((List.range (l'.length * s)).map f') (by simp [hsz]) hnews
                (by simpa using hgrow) (by simp at hlen ⊢; omega) (growslice_fits (by simpa using hgrow) (by rw [hby]; simpa using hbytes))
              simpa [need, C] using this
          · obtain ⟨b, arr, rfl, hσ, hb, harr, hPr, hcon⟩ := k4 (by omega)
            have hfit : l.length * s ≤ arr.size := by rw [harr]; exact Nat.mul_le_mul_right _ k2
            refine ⟨arr.toList.take (l.length * s), by simp; omega, ?_, fun k x v hx hv => ?_⟩
            · have := run_append_grow (P := P) w t ty e ie z ht.u hie hz1 ⟨b, 0, none⟩ l.length cap (arr.toList.take (l.length * s)) (by simp [hsz]; omega) (fun j v hv => by
                rw [Addr.add_none, Nat.zero_add, cell_of_cells hb]
                rw [List.getElem?_take] at hv
                split at hv
                · rwa [Array.getElem?_toList] at hv
                · cases hv) ⟨b', o', none⟩ l'.length cap' ((List.range (l'.length * s)).map f') (by simp [hsz]) hnews
                (by simpa using hgrow) (by simp at hlen ⊢; omega) (growslice_fits (by simpa using hgrow) (by rw [hby]; simpa using hbytes))
              simpa [need, C] using this
            · have hkl : k < l.length * s := by rw [← fl]; exact (List.getElem?_eq_some_iff.1 hx).1
              rw [List.getElem?_take, if_pos hkl, Array.getElem?_toList] at hv
              exact hcon k x v hx hv
        have hkill := hw.kill hH (by simp)
        have hzs : (Builtin.zeroCells z.cells (C - need)).size = (C - need) * s := by simp [Builtin.zeroCells, hz2]
        obtain ⟨g', w1, w2, w3⟩ := hkill.newLst (w' := w.drew.alloc (.cells (olds.toArray ++ ((List.range (l'.length * s)).map f').toArray ++ Builtin.zeroCells z.cells (C - need)) e)) (id := res) (l := l ++ l') (s := s) (cap := C)
          (arr := olds.toArray ++ ((List.range (l'.length * s)).map f').toArray ++ Builtin.zeroCells z.cells (C - need)) (et := e) (by rw [List.getElem?_set_ne (Ne.symm hne)]; exact hfr) ⟨rfl, rfl, rfl⟩ rfl (by simpa [need] using hC) hC2
          (by
            have hC' : C * s = (l.length * s + l'.length * s) + (C - need) * s := by
              rw [← hmul, ← Nat.add_mul]; congr 1; exact (Nat.add_sub_cancel' hC).symm
            simp only [Array.size_append, List.size_toArray, List.length_map, List.length_range, hol, hzs]
            omega)
          (by
            intro k x v hx hv
            rw [← Array.getElem?_toList] at hv
            refine cont _ (fun k x v hx hv => ?_) (fun k hk => ?_) k x v hx hv
            · have hkl : k < l.length * s := by rw [← fl]; exact (List.getElem?_eq_some_iff.1 hx).1
              simp only [Array.toList_append, List.append_assoc] at hv
              rw [List.getElem?_append_left (by omega)] at hv
              exact hf2 k x v hx hv
            · simp only [Array.toList_append, List.append_assoc]
              rw [List.getElem?_append_right (by omega), hol, Nat.add_sub_cancel_left, List.getElem?_append_left (by simpa using hk)]
              exact range_map_get f' _ _ hk)
        exact ⟨_, _, g', hrun, w1, w2, .hs w3 (fun _ => ⟨rfl, by simp [need], rfl, by simpa [need] using hC⟩)⟩

theorem op_appendHRM {α : Type} {f : α → D} {l l' r : List α} {x y : Operand} {t e s bytes id res len : Nat} (ht : SlT P t e s bytes) (hx : Is (ρ x) (.hs id 0 len s)) (hy : As (ρ y) (.sl (l'.map f))) (hH : H[id]? = some (.lst (l.map f) e s)) (hl : l.length = len) (hfr : H[res]? = some .free)
    (hf : En f s) (hv : app bytes l l' = some r) : OpV P (.call ⟨.builtin .append, #[x, y], #[t, t]⟩) ty ρ H (.hs res 0 r.length s) ((H.set id .dead).set res (.lst (r.map f) e s)) := by
  unfold app at hv
  split at hv
  · rename_i h
    injection hv with hv; subst hv
    have := op_appendHR (ty := ty) ht hx hy hH (by simpa using hl) hfr (by rw [← List.map_append]; exact hf.szL _) (hf.oneL _) (by simp only [List.length_append, List.length_map]; exact h.1) (by simp only [List.length_append, List.length_map]; exact h.2)
    rw [← List.map_append, List.length_map] at this
    exact this
  · cases hv

theorem setAll_same : ∀ {ids : List Nat} {es H : List HE}, (∀ (i : Nat) e, es[i]? = some e → ∃ id, ids[i]? = some id ∧ H[id]? = some e) → setAll H ids es = H
  | [], es, H, h => by simp [setAll]
  | id :: ids, [], H, h => by simp [setAll]
  | id :: ids, e :: es, H, h => by
    obtain ⟨j, h1, h2⟩ := h 0 e rfl
    simp at h1; subst h1
    have hlt := (List.getElem?_eq_some_iff.1 h2).1
    have hs : H.set id e = H := by
      apply List.ext_getElem?
      intro i
      by_cases hi : i = id
      · subst hi; rw [List.getElem?_set_self hlt, h2]
      · rw [List.getElem?_set_ne (Ne.symm hi)]
    rw [setAll, hs]
    exact setAll_same (fun i e' he' => by
      obtain ⟨j, h3, h4⟩ := h (i + 1) e' (by simpa using he')
      exact ⟨j, by simpa using h3, h4⟩)

/-- A call that reads entries of the heap and leaves them as they are. -/
theorem op_callQ {fop : Operand} {f : FuncId} {args : Array Operand} {ts : Array TypeId} {args0 vs caps : List V} {H0 : List HE} {r0 : V} (ids : List Nat) (hc : ∀ (a : Array Value) (w : World), (callFunc f a).run P w = .ok (.enter f a) w)
    (hf : Is (ρ fop) (.fn (.func f) caps)) (ha : ArgsV ρ args.toList vs) (h : ACall P f args0 H0 fun r H' => r = r0 ∧ H' = H0) (hargs : vs ++ caps = args0.map (V.rn (glob ids H.length))) (hin : InH H (glob ids H.length) ids H0) (hd : distinct ids = true)
    (hs0 : H0.all HE.simple = true) (ha0 : args0.all V.simple = true) (hr0 : r0.simple = true) (hv : r0.rn (glob ids H.length) = r0) :
    OpV P (.call ⟨.value fop, args, ts⟩) ty ρ H r0 H := by
  refine op_call hc hf ha ?_
  rw [hargs]
  refine (h.frame ids hin.get.1 hd hin.get.2 hs0 ha0 (fun r H' ⟨h1, h2⟩ => by subst h1; subst h2; exact ⟨hr0, hs0, by rw [hin.get.1]; exact Nat.le_refl _⟩)).mono ?_
  rintro r H' ⟨r0', H0', ⟨rfl, rfl⟩, h3, h4⟩
  refine ⟨h3.trans hv, h4.trans ?_⟩
  have hl := hin.get.1
  unfold mergeH
  rw [hl, List.take_of_length_le (Nat.le_refl _), List.drop_of_length_le (Nat.le_refl _), List.map_nil, List.append_nil]
  refine setAll_same (fun i e he => ?_)
  simp only [List.getElem?_map, Option.map_eq_some_iff] at he
  obtain ⟨e0, h5, rfl⟩ := he
  exact hin.get.2 i e0 h5
end

/-- A list under a new number, at the end of the heap. -/
theorem AW.moveL {F : FC} {Q : Exit → St → Prop} {c : Code} {E : Nat → V} {H : List HE} {α : Type} {f : α → D} {l : List α} {e : TypeId} {s len n : Nat} (id : Nat) (ts : List Nat) (hH : H[id]? = some (.lst (l.map f) e s)) (hn : H.length = n)
    (hE : SameE E (.hs id 0 len s) ts) (h : AW F c Q ⟨setE E ts (.hs n 0 len s), H.set id .dead ++ [.lst (l.map f) e s]⟩) : AW F c Q ⟨E, H⟩ := by
  subst hn
  rintro a w ⟨h1, h2, g, h3, h4, h5⟩
  have hidlt : id < H.length := (List.getElem?_eq_some_iff.1 hH).1
  obtain ⟨g', w1, w2, w3, _, _, w6⟩ := h3.addFree.moveLst (id := id) (n := H.length) (by rw [List.getElem?_append_left hidlt]; exact hH) (by simp)
  rw [set_last2 _ _ _ hidlt] at w1
  refine h a w ⟨h1, h2, g', w1, h4.trans w2, fun i => setE_rep ((h5 i).mono w2) (fun hr => ?_) hE⟩
  generalize a.tmps.getD i undef = r at hr ⊢
  cases hr with
  | @hs _ _ _ _ m cap' n0 c0 a' a0' p1 p2 =>
    exact .hs (w3.trans (w6.symm.trans p1)) p2

section
variable {P : Program} {ρ : Operand → V} {H : List HE} {ty : TypeId}
end

section
variable {P : Program} {ρ : Operand → V} {H : List HE} {ty : TypeId}
end
end Go.Proofs.Ytkfffaoopcnaoaa.Ab
