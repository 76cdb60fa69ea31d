/- Lists that are made where the order of evaluation is left open; calls that only read the heap. Conditions: none. -/
import Derived.Test.YtkdefjliknpliaaGreatDoorAb21
namespace Go.Proofs.YtkdefjliknpliaaGreatDoor.Ab
open Go
section
variable {P : Program} {ρ : Operand → V} {H : List HE} {ty : TypeId}
theorem op_appendHR {x y : Operand} {t e s bytes id res len : Nat} {l l' : List D} (ht : SlT P t e s bytes) (hx : Is (ρ x) (.hs id 0 len s)) (hy : As (ρ y) (.sl l')) (hH : H[id]? = some (.lst l e s)) (hll : l.length = len) (hfr : H[res]? = some .free)
    (hs : ∀ x ∈ l ++ l', x.cells.length = s) (hone : ∀ x ∈ l', ∀ y ∈ x.cells, y.one = true) (hbytes : (l ++ l').length * bytes ≤ 140737488355328) (hlen : (l ++ l').length ≤ 4611686018427387904) :
    OpV P (.call ⟨.builtin .append, #[x, y], #[t, t]⟩) ty ρ H (.hs res 0 (l ++ l').length s) ((H.set id .dead).set res (.lst (l ++ l') e s)) := by
  subst hll
  intro g w r pos after guard dst hw h
  have h1 := hx.rep (h x (by simp [Op.operands, Call.operands]))
  have h2 := hy.rep (h y (by simp [Op.operands, Call.operands]))
  have hidlt : id < H.length := (List.getElem?_eq_some_iff.1 hH).1
  obtain ⟨a, cap, k1, k2, k3, k4⟩ := hw.lst id l e s hH
  generalize hrx : r x = vx at h1
  cases h1 with
  | @hs _ _ _ _ m cap' n0 c0 a' a0 p1 p2 =>
    rw [k1] at p1; injection p1 with p1; injection p1 with p1 p3; injection p3 with p3 p4
    obtain ⟨q1, q2, q3, _⟩ := hs0 (p2 p1.symm)
    subst q1; subst q3; subst p3; subst p4; subst q2
    have hne : res ≠ id := fun h => by subst h; rw [hH] at hfr; cases hfr
    have hrlt : res < H.length := (List.getElem?_eq_some_iff.1 hfr).1
    suffices hgoal : ∃ rv w' g', (Builtin.append_ #[t, t] ty #[.slice a l.length cap, r y]).run P w = .ok rv w' ∧ WOK g' w' ((H.set id .dead).set res (.lst (l ++ l') e s)) ∧ Evo g w g' w' ∧ Rep g' w' (.hs res 0 (l ++ l').length s) rv by
      obtain ⟨rv, w', g', e1, e2, e3, e4⟩ := hgoal
      unfold OpRuns
      have : (execOp r ⟨dst, .call ⟨.builtin .append, #[x, y], #[t, t]⟩, ty, pos, after, guard⟩).run P w = .ok (.value rv) w' := by
        simp [execOp, resolve, invoke, builtin, hrx, e1]
      rw [this]
      exact ⟨g', e2, e3, e4⟩
    by_cases hl0 : l' = []
    · subst hl0
      obtain ⟨a', cap', hra, _⟩ := slice_form h2
      rw [hra]
      obtain ⟨g', w1, w2, w3, _⟩ := hw.moveLst hH hfr
      refine ⟨_, w, g', append_none_run ht k2, by simpa using w1, w2, ?_⟩
      rw [List.append_nil]
      exact .hs (w3.trans k1) (fun _ => ⟨rfl, rfl, rfl, k2⟩)
    · have hlpos : 0 < l'.length := List.length_pos_iff.2 hl0
      obtain ⟨ie, z, hie, hsz, hby, hz1, hz2⟩ := ht.i
      have hsl : ∀ x ∈ l, x.cells.length = s := fun x hx => hs x (by simp [hx])
      have hsl' : ∀ x ∈ l', x.cells.length = s := fun x hx => hs x (by simp [hx])
      obtain ⟨b', o', cap', f', hra, _, hk', hrep', hone'⟩ := h2.slCells hsl' hone hl0
      rw [hra]
      have fl := flat_length hsl
      have hnews : ∀ (j : Nat) v, ((List.range (l'.length * s)).map f')[j]? = some v → w.cell? ((⟨b', o', none⟩ : Addr).add j) = some v := by
        intro j v hv
        have hj : j < l'.length * s := by
          have := (List.getElem?_eq_some_iff.1 hv).1; simpa using this
        rw [range_map_get _ _ _ hj] at hv
        rw [Addr.add_none, (hk' j hj).2]; exact hv
      have hone1 : ∀ u ∈ (List.range (l'.length * s)).map f', u.oneCell' = true := by
        intro u hu
        simp only [List.mem_map, List.mem_range] at hu
        obtain ⟨k, hk, rfl⟩ := hu
        exact hone' k hk
      have hmul : (l.length + l'.length) * s = l.length * s + l'.length * s := Nat.add_mul _ _ _
      -- contents of a row that begins with the old cells and the new ones
      have cont : ∀ (arr2 : List Value), (∀ (k : Nat) x v, (D.flat l)[k]? = some x → arr2[k]? = some v → RepD g.Pr w x v) → (∀ (k : Nat), k < l'.length * s → arr2[l.length * s + k]? = some (f' k)) →
          ∀ (k : Nat) x v, (D.flat (l ++ l'))[k]? = some x → arr2[k]? = some v → RepD g.Pr w x v := by
        intro arr2 c1 c2 k x v hx hv
        rw [flat_append] at hx
        by_cases hkl : k < l.length * s
        · rw [List.getElem?_append_left (by omega)] at hx
          exact c1 k x v hx hv
        · rw [List.getElem?_append_right (by omega), fl] at hx
          have hk2 : k - l.length * s < l'.length * s := by
            have := (List.getElem?_eq_some_iff.1 hx).1
            rw [flat_length hsl'] at this; exact this
          have := c2 (k - l.length * s) hk2
          rw [show l.length * s + (k - l.length * s) = k by omega, hv] at this
          injection this with this; subst this
          exact hrep' _ x hx
      by_cases hroom : l.length + l'.length ≤ cap
      · obtain ⟨b, arr, rfl, hσ, hb, harr, hPr, hcon⟩ := k4 (by omega)
        have hfit : l.length * s + l'.length * s ≤ arr.size := by
          rw [harr, ← hmul]; exact Nat.mul_le_mul_right _ hroom
        have hrun := run_append_room (P := P) w t ty e ie ht.u hie b l.length cap arr hb ⟨b', o', none⟩ l'.length cap' ((List.range (l'.length * s)).map f') (by simp [hsz]) hnews hone1 hroom (by rw [hsz]; simpa using hfit)
        rw [hsz] at hrun
        obtain ⟨g1, w1, w2, w3, w4, w5, _⟩ := hw.moveLst hH hfr
        have key := WOK.storeLst (w' := w.setRow b (arr.toList.take (l.length * s) ++ (List.range (l'.length * s)).map f' ++ arr.toList.drop (l.length * s + ((List.range (l'.length * s)).map f').length)).toArray) (l' := l ++ l')
          (arr' := (arr.toList.take (l.length * s) ++ (List.range (l'.length * s)).map f' ++ arr.toList.drop (l.length * s + ((List.range (l'.length * s)).map f').length)).toArray) (cap := cap) (b := b) w1 (id := res) (by rw [List.getElem?_set_self (by simpa using hrlt)]) (w3.trans k1) (by omega) (w4.trans hσ)
          ⟨rfl, rfl, rfl⟩ (setRow_size w b _) (setRow_heap w b arr _ e _ hb) (fun b'' hne => setRow_other w b b'' _ hne) (by simpa using hroom) (by simp; omega)
          (by
            rw [w5]
            intro k x v hx hv
            rw [List.getElem?_toArray] at hv
            refine cont _ (fun k x v hx hv => ?_) (fun k hk => ?_) k x v hx hv
            · have hkl : k < l.length * s := by rw [← fl]; exact (List.getElem?_eq_some_iff.1 hx).1
              rw [List.append_assoc, List.getElem?_append_left (by simp; omega), List.getElem?_take, if_pos hkl, Array.getElem?_toList] at hv
              exact hcon k x v hx hv
            · rw [List.append_assoc, List.getElem?_append_right (by simp; omega), List.getElem?_append_left (by simp; omega)]
              have : l.length * s + k - (List.take (l.length * s) arr.toList).length = k := by simp; omega
              rw [this]; exact range_map_get f' _ _ hk)
        refine ⟨_, _, g1, hrun, ?_, w2.trans key.2, ?_⟩
        · have := key.1
          rwa [List.set_set] at this
        · exact .hs (w3.trans k1) (fun _ => ⟨rfl, by simp, rfl, by simpa using hroom⟩)
      · simp only [List.length_append] at hbytes hlen
        let need := l.length + l'.length
        let C := grownCap w need cap e
        have hC : need ≤ C := grownCap_ge w need cap e
        have hC2 : C ≤ 9223372036854775807 := by
          have := grownCap_le_maxLen w need cap e (by simp only [maxLen]; omega)
          simpa [maxLen] using this
        have hgrow : cap < l.length + l'.length := by omega
        obtain ⟨olds, hol, hrun, hf2⟩ : ∃ (olds : List Value), olds.length = l.length * s ∧
            (Builtin.append_ #[t, t] ty #[.slice a l.length cap, .slice (some ⟨b', o', none⟩) l'.length cap']).run P w =
              .ok (.slice (some ⟨w.heap.size, 0, none⟩) need C) (w.drew.alloc (.cells (olds.toArray ++ ((List.range (l'.length * s)).map f').toArray ++ Builtin.zeroCells z.cells (C - need)) e)) ∧
            (∀ (k : Nat) x v, (D.flat l)[k]? = some x → olds[k]? = some v → RepD g.Pr w x v) := by
          by_cases hc0 : cap = 0
          · have hln : l = [] := List.eq_nil_of_length_eq_zero (by omega)
            subst hln
            refine ⟨[], by simp, ?_, by simp [D.flat]⟩
            cases a with
            | none =>
              subst hc0
              have := run_append_nil (P := P) w t ty e ie z ht.u hie hz1 ⟨b', o', none⟩ l'.length cap' ((List.range (l'.length * s)).map f') (by simp [hsz]) hnews hlpos (by omega) (by rw [hby]; simp at hbytes; omega)
              simpa [need, C] using this
            | some ad =>
              have := run_append_grow (P := P) w t ty e ie z ht.u hie hz1 ad 0 cap [] (by simp) (by simp) ⟨b', o', none⟩ l'.length cap' ((List.range (l'.length * s)).map f') (by simp [hsz]) hnews
                (by simpa using hgrow) (by simp at hlen ⊢; omega) (growslice_fits (by simpa using hgrow) (by rw [hby]; simpa using hbytes))
              simpa [need, C] using this
          · obtain ⟨b, arr, rfl, hσ, hb, harr, hPr, hcon⟩ := k4 (by omega)
            have hfit : l.length * s ≤ arr.size := by rw [harr]; exact Nat.mul_le_mul_right _ k2
            refine ⟨arr.toList.take (l.length * s), by simp; omega, ?_, fun k x v hx hv => ?_⟩
            · have := run_append_grow (P := P) w t ty e ie z ht.u hie hz1 ⟨b, 0, none⟩ l.length cap (arr.toList.take (l.length * s)) (by simp [hsz]; omega) (fun j v hv => by
                rw [Addr.add_none, Nat.zero_add, cell_of_cells hb]
                rw [List.getElem?_take] at hv
                split at hv
                · rwa [Array.getElem?_toList] at hv
                · cases hv) ⟨b', o', none⟩ l'.length cap' ((List.range (l'.length * s)).map f') (by simp [hsz]) hnews
                (by simpa using hgrow) (by simp at hlen ⊢; omega) (growslice_fits (by simpa using hgrow) (by rw [hby]; simpa using hbytes))
              simpa [need, C] using this
            · have hkl : k < l.length * s := by rw [← fl]; exact (List.getElem?_eq_some_iff.1 hx).1
              rw [List.getElem?_take, if_pos hkl, Array.getElem?_toList] at hv
              exact hcon k x v hx hv
        have hkill := hw.kill hH (by simp)
        have hzs : (Builtin.zeroCells z.cells (C - need)).size = (C - need) * s := by simp [Builtin.zeroCells, hz2]
        obtain ⟨g', w1, w2, w3⟩ := hkill.newLst (w' := w.drew.alloc (.cells (olds.toArray ++ ((List.range (l'.length * s)).map f').toArray ++ Builtin.zeroCells z.cells (C - need)) e)) (id := res) (l := l ++ l') (s := s) (cap := C)
          (arr := olds.toArray ++ ((List.range (l'.length * s)).map f').toArray ++ Builtin.zeroCells z.cells (C - need)) (et := e) (by rw [List.getElem?_set_ne (Ne.symm hne)]; exact hfr) ⟨rfl, rfl, rfl⟩ rfl (by simpa [need] using hC) hC2
          (by
            have hC' : C * s = (l.length * s + l'.length * s) + (C - need) * s := by
              rw [← hmul, ← Nat.add_mul]; congr 1; exact (Nat.add_sub_cancel' hC).symm
            simp only [Array.size_append, List.size_toArray, List.length_map, List.length_range, hol, hzs]
            omega)
          (by
            intro k x v hx hv
            rw [← Array.getElem?_toList] at hv
            refine cont _ (fun k x v hx hv => ?_) (fun k hk => ?_) k x v hx hv
            · have hkl : k < l.length * s := by rw [← fl]; exact (List.getElem?_eq_some_iff.1 hx).1
              simp only [Array.toList_append, List.append_assoc] at hv
              rw [List.getElem?_append_left (by omega)] at hv
              exact hf2 k x v hx hv
            · simp only [Array.toList_append, List.append_assoc]
              rw [List.getElem?_append_right (by omega), hol, Nat.add_sub_cancel_left, List.getElem?_append_left (by simpa using hk)]
              exact range_map_get f' _ _ hk)
        exact ⟨_, _, g', hrun, w1, w2, .hs w3 (fun _ => ⟨rfl, by simp [need], rfl, by simpa [need] using hC⟩)⟩

theorem op_appendHRM {α : Type} {f : α → D} {l l' r : List α} {x y : Operand} {t e s bytes id res len : Nat} (ht : SlT P t e s bytes) (hx : Is (ρ x) (.hs id 0 len s)) (hy : As (ρ y) (.sl (l'.map f))) (hH : H[id]? = some (.lst (l.map f) e s)) (hl : l.length = len) (hfr : H[res]? = some .free)
    (hf : En f s) (hv : app bytes l l' = some r) : OpV P (.call ⟨.builtin .append, #[x, y], #[t, t]⟩) ty ρ H (.hs res 0 r.length s) ((H.set id .dead).set res (.lst (r.map f) e s)) := by
  unfold app at hv
  split at hv
  · rename_i h
    injection hv with hv; subst hv
    have := op_appendHR (ty := ty) ht hx hy hH (by simpa using hl) hfr (by rw [← List.map_append]; exact hf.szL _) (hf.oneL _) (by simp only [List.length_append, List.length_map]; exact h.1) (by simp only [List.length_append, List.length_map]; exact h.2)
    rw [← List.map_append, List.length_map] at this
    exact this
  · cases hv

end

/-- A list under a new number, at the end of the heap. -/
theorem AW.moveL {F : FC} {Q : Exit → St → Prop} {c : Code} {E : Nat → V} {H : List HE} {α : Type} {f : α → D} {l : List α} {e : TypeId} {s len n : Nat} (id : Nat) (ts : List Nat) (hH : H[id]? = some (.lst (l.map f) e s)) (hn : H.length = n)
    (hE : SameE E (.hs id 0 len s) ts) (h : AW F c Q ⟨setE E ts (.hs n 0 len s), H.set id .dead ++ [.lst (l.map f) e s]⟩) : AW F c Q ⟨E, H⟩ := by
  subst hn
  rintro a w ⟨h1, h2, g, h3, h4, h5⟩
  have hidlt : id < H.length := (List.getElem?_eq_some_iff.1 hH).1
  obtain ⟨g', w1, w2, w3, _, _, w6⟩ := h3.addFree.moveLst (id := id) (n := H.length) (by rw [List.getElem?_append_left hidlt]; exact hH) (by simp)
  rw [set_last2 _ _ _ hidlt] at w1
  refine h a w ⟨h1, h2, g', w1, h4.trans w2, fun i => setE_rep ((h5 i).mono w2) (fun hr => ?_) hE⟩
  generalize a.tmps.getD i undef = r at hr ⊢
  cases hr with
  | @hs _ _ _ _ m cap' n0 c0 a' a0' p1 p2 =>
    exact .hs (w3.trans (w6.symm.trans p1)) p2

/-- A function that makes a list: the list has the number of a free entry. -/
theorem FnO.atR {P : Program} {f : FuncId} {ds : List D} {l : List D} {e : TypeId} {s len res : Nat} {H : List HE} (h : ACall P f (ds.map .d) [] fun r H' => r = resOf [.hs 0 0 len s] ∧ H' = [.lst l e s]) (hfr : H[res]? = some .free) :
    ACall P f (ds.map .d) H fun r H' => r = .hs res 0 len s ∧ H' = H.set res (.lst l e s) := by
  intro g w vals hw hs ha
  let g0 : G := { σ := fun _ => none, τ := fun _ => none, υ := fun _ _ => False, X := fun _ => False, Pr := g.Pr }
  have hw0 : WOK g0 w [] := by
    refine ⟨hw.pr, fun b hb => hb.elim, ?_, ?_, ?_, ?_, ?_, ?_, fun _ _ => ⟨rfl, rfl, fun _ h => h⟩, fun x hx => ⟨fun h => h, (hw.kc x hx).2⟩⟩ <;> intros <;> simp_all
  have ha0 : ∀ (i : Nat) x v, (ds.map V.d)[i]? = some x → vals[i]? = some v → Rep g0 w x v := by
    intro i x v hx hv
    have := ha i x v hx hv
    simp only [List.getElem?_map, Option.map_eq_some_iff] at hx
    obtain ⟨y, _, rfl⟩ := hx
    cases this with
    | d hd => exact .d hd
  refine (h g0 w vals hw0 hs ha0).mono ?_
  rintro e' w' ⟨rv, r, g', H', rfl, hw', he, hr, rfl, rfl⟩
  have keep : ∀ b, b < w.heap.size → w'.heap[b]? = w.heap[b]? := fun b hb => he.keep b hb (fun h => h)
  have hreslt : res < H.length := (List.getElem?_eq_some_iff.1 hfr).1
  have hget : ∀ (i : Nat) x, (H.set res (.lst l e s))[i]? = some x → (i = res ∧ x = .lst l e s) ∨ (i ≠ res ∧ H[i]? = some x) := by
    intro i x hx
    by_cases hi : i = res
    · subst hi; rw [List.getElem?_set_self hreslt] at hx; exact .inl ⟨rfl, (Option.some.inj hx).symm⟩
    · rw [List.getElem?_set_ne (Ne.symm hi)] at hx; exact .inr ⟨hi, hx⟩
  obtain ⟨hfσ, hfτ, hfυ⟩ := hw.free res (.inl hfr)
  let g2 : G := { σ := fun i => if i = res then g'.σ 0 else g.σ i, τ := fun i => if i = res then g'.τ 0 else g.τ i, υ := g.υ, X := fun b => g.X b ∨ g'.X b, Pr := g'.Pr }
  have hX' : ∀ b, g'.X b → w.heap.size ≤ b := fun b hb => (he.x b hb).resolve_left (fun h => h)
  have hold : ∀ b o, g'.Pr b o → b < w.heap.size → g.Pr b o := by
    intro b o hp hb
    rcases he.prn b o hp with h1 | h1 | h1
    · exact h1
    · exact h1.elim
    · omega
  have hτne : ∀ i, i ≠ res → g2.τ i = g.τ i := fun i hi => by simp [g2, hi]
  have hσne : ∀ i, i ≠ res → g2.σ i = g.σ i := fun i hi => by simp [g2, hi]
  have hev : Evo g w g2 w' := {
    same := he.same
    size := he.size
    pr := he.pr
    prn := fun b o hp => by
      rcases he.prn b o hp with h1 | h1 | h1
      · exact .inl h1
      · exact h1.elim
      · exact .inr (.inr h1)
    x := fun b hb => hb.imp (fun h => h) (hX' b)
    keep := fun b hb _ => keep b hb
    σ := fun i b h => by
      have hi : i ≠ res := fun e => by subst e; rw [hfσ] at h; cases h
      rw [hσne i hi]; exact h
    τ := fun i m a cap h => by
      have hi : i ≠ res := fun e => by subst e; rw [hfτ] at h; cases h
      exact ⟨m, a, cap, by rw [hτne i hi]; exact h, .inr ⟨rfl, rfl, rfl⟩⟩ }
  have hblk : ∀ (i : Nat) x b, (H.set res (.lst l e s))[i]? = some x → g2.blk i x b →
      (i ≠ res ∧ H[i]? = some x ∧ g.blk i x b ∧ b < w.heap.size) ∨ (i = res ∧ g'.blk 0 (.lst l e s) b ∧ w.heap.size ≤ b) := by
    intro i x b hx hb
    rcases hget i x hx with ⟨rfl, rfl⟩ | ⟨hi, h1⟩
    · have : g'.blk 0 (.lst l e s) b := by simpa [G.blk, g2] using hb
      exact .inr ⟨rfl, this, hX' b (hw'.blk 0 _ b (by simp) this)⟩
    · have : g.blk i x b := by
        cases x <;> simp only [G.blk, hτne i hi, hσne i hi] at hb ⊢ <;> exact hb
      exact .inl ⟨hi, h1, this, hw.xs b (hw.blk i x b h1 this)⟩
  refine ⟨rv, .hs res 0 len s, g2, _, rfl, ⟨hw'.pr, ?_, ?_, ?_, ?_, ?_, ?_, ?_, ?_, hw.kcE hev⟩, hev, ?_, rfl, rfl⟩
  · rintro b (hb | hb)
    · exact Nat.lt_of_lt_of_le (hw.xs b hb) he.size
    · exact hw'.xs b hb
  · intro i x b hx hb
    rcases hblk i x b hx hb with ⟨_, h1, h2, _⟩ | ⟨_, h1, _⟩
    · exact .inl (hw.blk i x b h1 h2)
    · exact .inr (hw'.blk 0 _ b (by simp) h1)
  · intro i i' x x' b hx hx' hb hb'
    rcases hblk i x b hx hb with ⟨_, h1, h2, h3⟩ | ⟨h1, h2, h3⟩ <;> rcases hblk i' x' b hx' hb' with ⟨_, h4, h5, h6⟩ | ⟨h4, h5, h6⟩
    · exact hw.sep i i' x x' b h1 h4 h2 h5
    · omega
    · omega
    · omega
  · intro i c hx
    rcases hget i _ hx with ⟨_, h⟩ | ⟨hi, h⟩
    · cases h
    · obtain ⟨b, arr, et, h1, h2, h3, h4, h5⟩ := hw.row i c h
      have hb : b < w.heap.size := hw.xs b (hw.blk i _ b h h1)
      exact ⟨b, arr, et, by rw [hσne i hi]; exact h1, (keep b hb).trans h2, h3, fun k x v hx hv => (h4 k x v hx hv).mono hev, fun o hp => h5 o (hold b o hp hb)⟩
  · intro i n e1 s1 hx
    rcases hget i _ hx with ⟨_, h⟩ | ⟨hi, h⟩
    · cases h
    · obtain ⟨a, cap, h1, h2, h2', h3⟩ := hw.tok i n e1 s1 h
      refine ⟨a, cap, by rw [hτne i hi]; exact h1, h2, h2', fun hlt => ?_⟩
      obtain ⟨b, arr, e1, e2, e3, e4⟩ := h3 hlt
      have hb : b < w.heap.size := hw.xs _ (hw.blk i _ b h (by simp [G.blk, h1, e1, hlt]))
      exact ⟨b, arr, e1, (keep _ hb).trans e2, e3, fun o hp => e4 o (hold _ o hp hb)⟩
  · intro i l1 e1 s1 hx
    rcases hget i _ hx with ⟨rfl, h⟩ | ⟨hi, h⟩
    · injection h with q1 q2 q3
      subst q1; subst q2; subst q3
      obtain ⟨a, cap, k1, k2, k3, k4⟩ := hw'.lst 0 l1 e1 s1 (by simp)
      refine ⟨a, cap, by simpa [g2] using k1, k2, k3, fun hc => ?_⟩
      obtain ⟨b, arr, p1, p2, p3⟩ := k4 hc
      exact ⟨b, arr, p1, by simpa [g2] using p2, p3⟩
    · obtain ⟨a, cap, h1, h2, h2', h3⟩ := hw.lst i l1 e1 s1 h
      refine ⟨a, cap, by rw [hτne i hi]; exact h1, h2, h2', fun hlt => ?_⟩
      obtain ⟨b, arr, e1, e0, e2, e3, e4, e5⟩ := h3 hlt
      have hb : b < w.heap.size := hw.xs _ (hw.blk i _ b h (by simp [G.blk, h1, e1, hlt]))
      exact ⟨b, arr, e1, by rw [hσne i hi]; exact e0, (keep _ hb).trans e2, e3, fun o hp => e4 o (hold _ o hp hb), fun k x v hx hv => (e5 k x v hx hv).mono hev.pr⟩
  · intro i x hx
    rcases hget i _ hx with ⟨_, h⟩ | ⟨hi, h⟩
    · cases h
    · obtain ⟨b, h1, h2, h3, h4⟩ := hw.ob i x h
      have hb : b < w.heap.size := hw.xs b (hw.blk i _ b h (.inl h1))
      have hbu : ∀ b', g.υ i b' → b' < w.heap.size := fun b' hu => hw.xs b' (hw.blk i _ b' h (.inr hu))
      exact ⟨b, by rw [hσne i hi]; exact h1, x.st hev.w (hτne i hi) rfl (keep b hb) (fun b' hu => keep b' (hbu b' hu)) h2, fun o hp => h3 o (hold b o hp hb), fun b' o hu hp => h4 b' o hu (hold b' o hp (hbu b' hu))⟩
  · intro i hi
    have : i ≠ res ∧ (H[i]? = some .free ∨ H.length ≤ i) := by
      rcases hi with hi | hi
      · rcases hget i _ hi with ⟨_, h⟩ | ⟨h1, h2⟩
        · cases h
        · exact ⟨h1, .inl h2⟩
      · simp at hi; exact ⟨by omega, .inr (by omega)⟩
    rw [hτne i this.1, hσne i this.1]
    exact hw.free i this.2
  · simp only [resOf] at hr
    cases hr with
    | hs ht heq => exact .hs (by simpa [g2] using ht) heq

section
variable {P : Program} {ρ : Operand → V} {H : List HE} {ty : TypeId}
end

section
variable {P : Program} {ρ : Operand → V} {H : List HE} {ty : TypeId}
theorem op_appendER {x y : Operand} {t e s bytes res : Nat} {l l' : List D} (ht : SlT P t e s bytes) (hx : Is (ρ x) (.ex l)) (hy : As (ρ y) (.sl l')) (hfr : H[res]? = some .free)
    (hs : ∀ x ∈ l ++ l', x.cells.length = s) (hone : ∀ x ∈ l ++ l', ∀ y ∈ x.cells, y.one = true) (hbytes : (l ++ l').length * bytes ≤ 140737488355328) (hlen : (l ++ l').length ≤ 4611686018427387904) :
    OpV P (.call ⟨.builtin .append, #[x, y], #[t, t]⟩) ty ρ H (.tk res (l ++ l')) (H.set res (.tok (l ++ l').length e s)) := by
  intro g w r pos after guard dst hw h
  have h1 := hx.rep (h x (by simp [Op.operands, Call.operands]))
  have h2 := hy.rep (h y (by simp [Op.operands, Call.operands]))
  generalize hrx : r x = vx at h1
  have hfree := hfr
  cases h1 with
  | @ex _ a hd =>
    suffices hgoal : ∃ rv w' g', (Builtin.append_ #[t, t] ty #[.slice a l.length l.length, r y]).run P w = .ok rv w' ∧ WOK g' w' (H.set res (.tok (l ++ l').length e s)) ∧ Evo g w g' w' ∧ Rep g' w' (.tk res (l ++ l')) rv by
      obtain ⟨rv, w', g', e1, e2, e3, e4⟩ := hgoal
      unfold OpRuns
      have : (execOp r ⟨dst, .call ⟨.builtin .append, #[x, y], #[t, t]⟩, ty, pos, after, guard⟩).run P w = .ok (.value rv) w' := by
        simp [execOp, resolve, invoke, builtin, hrx, e1]
      rw [this]
      exact ⟨g', e2, e3, e4⟩
    by_cases hl0 : l' = []
    · subst hl0
      obtain ⟨a', cap', hra, _⟩ := slice_form h2
      rw [hra]
      obtain ⟨g', w1, w2, w3⟩ := hw.tokSame (n := (l ++ []).length) (s := s) (e := e) (a := a) hfree (by omega)
      refine ⟨_, w, g', append_none_run ht (Nat.le_refl _), w1, w2, ?_⟩
      simp only [List.append_nil] at w3 ⊢
      exact .tk (hd.mono w2.pr) w3 (Nat.le_refl _) (fun _ => rfl)
    · have hlpos : 0 < l'.length := List.length_pos_iff.2 hl0
      refine append_grows ht hw hfree (.inl rfl) hd (fun ha => ?_) h2 hl0 hs hone hbytes hlen (by omega)
      cases hd with
      | sl _ _ _ s' f hs' hcap hrow hrep =>
        by_cases hl00 : l = []
        · subst hl00; rfl
        · obtain ⟨b, o, e1, _⟩ := hrow hl00
          rw [e1] at ha; cases ha

theorem op_appendERM {x y : Operand} {t : TypeId} {α : Type} {f : α → D} {l l' r : List α} {e s bytes res : Nat} (ht : SlT P t e s bytes) (hx : Is (ρ x) (.ex (l.map f))) (hy : As (ρ y) (.sl (l'.map f))) (hfr : H[res]? = some .free)
    (hf : En f s) (hv : app bytes l l' = some r) : OpV P (.call ⟨.builtin .append, #[x, y], #[t, t]⟩) ty ρ H (.tk res (r.map f)) (H.set res (.tok r.length e s)) := by
  unfold app at hv
  split at hv
  · rename_i h
    injection hv with hv; subst hv
    have := op_appendER (ty := ty) ht hx hy hfr (by rw [← List.map_append]; exact hf.szL _) (by rw [← List.map_append]; exact hf.oneL _) (by simp only [List.length_append, List.length_map]; exact h.1) (by simp only [List.length_append, List.length_map]; exact h.2)
    rw [← List.map_append, List.length_map] at this
    exact this
  · cases hv

end
end Go.Proofs.YtkdefjliknpliaaGreatDoor.Ab
