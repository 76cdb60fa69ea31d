/- Lists that are made where the order of evaluation is left open; calls that only read the heap. Pieces of lists that are written in place, and 'copy' into them. States told anew, slot by slot. Lists that may have room behind their last element: capacity, a piece into the spare room, copies within a list, zeros that are appended to a piece without room. Comparing rows of plain cells. Maps that are made and written here, and texts that are gone through: what operations on them come to. Conditions: none. -/
import Derived.Test.YtlbiooppadlolaaGreatDoorAb21
import Derived.Scope
import Derived.Lib.Overlaps
import Derived.Lib.AppendZerosOnto
import Derived.Laws.StructEq
import Derived.KernelRfl
import Derived.Maps.RangeRun
import Derived.Maps.Keyed
section
namespace Go.Proofs.YtlbiooppadlolaaGreatDoor.Ab
open Go
section
variable {P : Program} {ρ : Operand → V} {H : List HE} {ty : TypeId}
theorem op_appendHR {x y : Operand} {t e s bytes id res len : Nat} {l l' : List D} (ht : SlT P t e s bytes) (hx : Is (ρ x) (.hs id 0 len s)) (hy : As (ρ y) (.sl l')) (hH : H[id]? = some (.lst l e s)) (hll : l.length = len) (hfr : H[res]? = some .free)
    (hs : ∀ x ∈ l ++ l', x.cells.length = s) (hone : ∀ x ∈ l', ∀ y ∈ x.cells, y.one = true) (hbytes : (l ++ l').length * bytes ≤ 140737488355328) (hlen : (l ++ l').length ≤ 4611686018427387904) :
    OpV P (.call ⟨.builtin .append, #[x, y], #[t, t]⟩) ty ρ H (.hs res 0 (l ++ l').length s) ((H.set id .dead).set res (.lst (l ++ l') e s)) := by
  subst hll
  intro g w r pos after guard dst hw h
  have h1 := hx.rep (h x (by simp [Op.operands, Call.operands]))
  have h2 := hy.rep (h y (by simp [Op.operands, Call.operands]))
  have hidlt : id < H.length := (List.getElem?_eq_some_iff.1 hH).1
  obtain ⟨a, cap, k1, k2, k3, k4⟩ := hw.lst id l e s hH
  generalize hrx : r x = vx at h1
  cases h1 with
  | @hs _ _ _ _ m cap' n0 c0 a' a0 p1 p2 =>
    rw [k1] at p1; injection p1 with p1; injection p1 with p1 p3; injection p3 with p3 p4
    obtain ⟨q1, q2, q3, _⟩ := hs0 (p2 p1.symm)
    subst q1; subst q3; subst p3; subst p4; subst q2
    have hne : res ≠ id := fun h => by subst h; rw [hH] at hfr; cases hfr
    have hrlt : res < H.length := (List.getElem?_eq_some_iff.1 hfr).1
    suffices hgoal : ∃ rv w' g', (Builtin.append_ #[t, t] ty #[.slice a l.length cap, r y]).run P w = .ok rv w' ∧ WOK g' w' ((H.set id .dead).set res (.lst (l ++ l') e s)) ∧ Evo g w g' w' ∧ Rep g' w' (.hs res 0 (l ++ l').length s) rv by
      obtain ⟨rv, w', g', e1, e2, e3, e4⟩ := hgoal
      unfold OpRuns
      have : (execOp r ⟨dst, .call ⟨.builtin .append, #[x, y], #[t, t]⟩, ty, pos, after, guard⟩).run P w = .ok (.value rv) w' := by
        simp [execOp, resolve, invoke, builtin, hrx, e1]
      rw [this]
      exact ⟨g', e2, e3, e4⟩
    by_cases hl0 : l' = []
    · subst hl0
      obtain ⟨a', cap', hra, _⟩ := slice_form h2
      rw [hra]
      obtain ⟨g', w1, w2, w3, _⟩ := hw.moveLst hH hfr
      refine ⟨_, w, g', append_none_run ht k2, by simpa using w1, w2, ?_⟩
      rw [List.append_nil]
      exact .hs (w3.trans k1) (fun _ => ⟨rfl, rfl, rfl, k2⟩)
    · have hlpos : 0 < l'.length := List.length_pos_iff.2 hl0
      obtain ⟨ie, z, hie, hsz, hby, hz1, hz2⟩ := ht.i
      have hsl : ∀ x ∈ l, x.cells.length = s := fun x hx => hs x (by simp [hx])
      have hsl' : ∀ x ∈ l', x.cells.length = s := fun x hx => hs x (by simp [hx])
      obtain ⟨b', o', cap', f', hra, _, hk', hrep', hone'⟩ := h2.slCells hsl' hone hl0
      rw [hra]
      have fl := flat_length hsl
      have hnews : ∀ (j : Nat) v, ((List.range (l'.length * s)).map f')[j]? = some v → w.cell? ((⟨b', o', none⟩ : Addr).add j) = some v := by
        intro j v hv
        have hj : j < l'.length * s := by
          have := (List.getElem?_eq_some_iff.1 hv).1; simpa using this
        rw [range_map_get _ _ _ hj] at hv
        rw [Addr.add_none, (hk' j hj).2]; exact hv
      have hone1 : ∀ u ∈ (List.range (l'.length * s)).map f', u.oneCell' = true := by
        intro u hu
        simp only [List.mem_map, List.mem_range] at hu
        obtain ⟨k, hk, rfl⟩ := hu
        exact hone' k hk
      have hmul : (l.length + l'.length) * s = l.length * s + l'.length * s := Nat.add_mul _ _ _
      -- contents of a row that begins with the old cells and the new ones
      have cont : ∀ (arr2 : List Value), (∀ (k : Nat) x v, (D.flat l)[k]? = some x → arr2[k]? = some v → RepD g.Pr w x v) → (∀ (k : Nat), k < l'.length * s → arr2[l.length * s + k]? = some (f' k)) →
          ∀ (k : Nat) x v, (D.flat (l ++ l'))[k]? = some x → arr2[k]? = some v → RepD g.Pr w x v := by
        intro arr2 c1 c2 k x v hx hv
        rw [flat_append] at hx
        by_cases hkl : k < l.length * s
        · rw [List.getElem?_append_left (by omega)] at hx
          exact c1 k x v hx hv
        · rw [List.getElem?_append_right (by omega), fl] at hx
          have hk2 : k - l.length * s < l'.length * s := by
            have := (List.getElem?_eq_some_iff.1 hx).1
            rw [flat_length hsl'] at this; exact this
          have := c2 (k - l.length * s) hk2
          rw [show l.length * s + (k - l.length * s) = k by omega, hv] at this
          injection this with this; subst this
          exact hrep' _ x hx
      by_cases hroom : l.length + l'.length ≤ cap
      · obtain ⟨b, arr, rfl, hσ, hb, harr, hPr, hcon⟩ := k4 (by omega)
        have hfit : l.length * s + l'.length * s ≤ arr.size := by
          rw [harr, ← hmul]; exact Nat.mul_le_mul_right _ hroom
        have hrun := run_append_room (P := P) w t ty e ie ht.u hie b l.length cap arr hb ⟨b', o', none⟩ l'.length cap' ((List.range (l'.length * s)).map f') (by simp [hsz]) hnews hone1 hroom (by rw [hsz]; simpa using hfit)
        rw [hsz] at hrun
        obtain ⟨g1, w1, w2, w3, w4, w5, _⟩ := hw.moveLst hH hfr
        have key := WOK.storeLst (w' := w.setRow b (arr.toList.take (l.length * s) ++ (List.range (l'.length * s)).map f' ++ arr.toList.drop (l.length * s + ((List.range (l'.length * s)).map f').length)).toArray) (l' := l ++ l')
          (arr' := (arr.toList.take (l.length * s) ++ (List.range (l'.length * s)).map f' ++ arr.toList.drop (l.length * s + ((List.range (l'.length * s)).map f').length)).toArray) (cap := cap) (b := b) w1 (id := res) (by rw [List.getElem?_set_self (by simpa using hrlt)]) (w3.trans k1) (by omega) (w4.trans hσ)
          ⟨rfl, rfl, rfl⟩ (setRow_size w b _) (setRow_heap w b arr _ e _ hb) (fun b'' hne => setRow_other w b b'' _ hne) (by simpa using hroom) (by simp; omega)
          (by
            rw [w5]
            intro k x v hx hv
            rw [List.getElem?_toArray] at hv
            refine cont _ (fun k x v hx hv => ?_) (fun k hk => ?_) k x v hx hv
            · have hkl : k < l.length * s := by rw [← fl]; exact (List.getElem?_eq_some_iff.1 hx).1
              rw [List.append_assoc, List.getElem?_append_left (by simp; omega), List.getElem?_take, if_pos hkl, Array.getElem?_toList] at hv
              exact hcon k x v hx hv
            · rw [List.append_assoc, List.getElem?_append_right (by simp; omega), List.getElem?_append_left (by simp; omega)]
              have : l.length * s + k - (List.take (l.length * s) arr.toList).length = k := by simp; omega
              rw [this]; exact range_map_get f' _ _ hk)
        refine ⟨_, _, g1, hrun, ?_, w2.trans key.2, ?_⟩
        · have := key.1
          rwa [List.set_set] at this
        · exact .hs (w3.trans k1) (fun _ => ⟨rfl, by simp, rfl, by simpa using hroom⟩)
      · simp only [List.length_append] at hbytes hlen
        let need := l.length + l'.length
        let C := grownCap w need cap e
        have hC : need ≤ C := grownCap_ge w need cap e
        have hC2 : C ≤ 9223372036854775807 := by
          have := grownCap_le_maxLen w need cap e (by simp only [maxLen]; omega)
          simpa [maxLen] using this
        have hgrow : cap < l.length + l'.length := by omega
        obtain ⟨olds, hol, hrun, hf2⟩ : ∃ (olds : List Value), olds.length = l.length * s ∧
            (Builtin.append_ #[t, t] ty #[.slice a l.length cap, .slice (some ⟨b', o', none⟩) l'.length cap']).run P w =
              .ok (.slice (some ⟨w.heap.size, 0, none⟩) need C) (w.drew.alloc (.cells (olds.toArray ++ ((List.range (l'.length * s)).map f').toArray ++ Builtin.zeroCells z.cells (C - need)) e)) ∧
            (∀ (k : Nat) x v, (D.flat l)[k]? = some x → olds[k]? = some v → RepD g.Pr w x v) := by
          by_cases hc0 : cap = 0
          · have hln : l = [] := List.eq_nil_of_length_eq_zero (by omega)
            subst hln
            refine ⟨[], by simp, ?_, by simp [D.flat]⟩
            cases a with
            | none =>
              subst hc0
              have := run_append_nil (P := P) w t ty e ie z ht.u hie hz1 ⟨b', o', none⟩ l'.length cap' ((List.range (l'.length * s)).map f') (by simp [hsz]) hnews hlpos (by omega) (by rw [hby]; simp at hbytes; omega)
              simpa [need, C] using this
            | some ad =>
              have := run_append_grow (P := P) w t ty e ie z ht.u hie hz1 ad 0 cap [] (by simp) (by simp) ⟨b', o', none⟩ l'.length cap' ((List.range (l'.length * s)).map f') (by simp [hsz]) hnews
                (by simpa using hgrow) (by simp at hlen ⊢; omega) (growslice_fits (by simpa using hgrow) (by rw [hby]; simpa using hbytes))
              simpa [need, C] using this
          · obtain ⟨b, arr, rfl, hσ, hb, harr, hPr, hcon⟩ := k4 (by omega)
            have hfit : l.length * s ≤ arr.size := by rw [harr]; exact Nat.mul_le_mul_right _ k2
            refine ⟨arr.toList.take (l.length * s), by simp; omega, ?_, fun k x v hx hv => ?_⟩
            · have := run_append_grow (P := P) w t ty e ie z ht.u hie hz1 ⟨b, 0, none⟩ l.length cap (arr.toList.take (l.length * s)) (by simp [hsz]; omega) (fun j v hv => by
                rw [Addr.add_none, Nat.zero_add, cell_of_cells hb]
                rw [List.getElem?_take] at hv
                split at hv
                · rwa [Array.getElem?_toList] at hv
                · cases hv) ⟨b', o', none⟩ l'.length cap' ((List.range (l'.length * s)).map f') (by simp [hsz]) hnews
                (by simpa using hgrow) (by simp at hlen ⊢; omega) (growslice_fits (by simpa using hgrow) (by rw [hby]; simpa using hbytes))
              simpa [need, C] using this
            · have hkl : k < l.length * s := by rw [← fl]; exact (List.getElem?_eq_some_iff.1 hx).1
              rw [List.getElem?_take, if_pos hkl, Array.getElem?_toList] at hv
              exact hcon k x v hx hv
        have hkill := hw.kill hH (by simp)
        have hzs : (Builtin.zeroCells z.cells (C - need)).size = (C - need) * s := by simp [Builtin.zeroCells, hz2]
        obtain ⟨g', w1, w2, w3⟩ := hkill.newLst (w' := w.drew.alloc (.cells (olds.toArray ++ ((List.range (l'.length * s)).map f').toArray ++ Builtin.zeroCells z.cells (C - need)) e)) (id := res) (l := l ++ l') (s := s) (cap := C)
          (arr := olds.toArray ++ ((List.range (l'.length * s)).map f').toArray ++ Builtin.zeroCells z.cells (C - need)) (et := e) (by rw [List.getElem?_set_ne (Ne.symm hne)]; exact hfr) ⟨rfl, rfl, rfl⟩ rfl (by simpa [need] using hC) hC2
          (by
            have hC' : C * s = (l.length * s + l'.length * s) + (C - need) * s := by
              rw [← hmul, ← Nat.add_mul]; congr 1; exact (Nat.add_sub_cancel' hC).symm
            simp only [Array.size_append, List.size_toArray, List.length_map, List.length_range, hol, hzs]
            omega)
          (by
            intro k x v hx hv
            rw [← Array.getElem?_toList] at hv
            refine cont _ (fun k x v hx hv => ?_) (fun k hk => ?_) k x v hx hv
            · have hkl : k < l.length * s := by rw [← fl]; exact (List.getElem?_eq_some_iff.1 hx).1
              simp only [Array.toList_append, List.append_assoc] at hv
              rw [List.getElem?_append_left (by omega)] at hv
              exact hf2 k x v hx hv
            · simp only [Array.toList_append, List.append_assoc]
              rw [List.getElem?_append_right (by omega), hol, Nat.add_sub_cancel_left, List.getElem?_append_left (by simpa using hk)]
              exact range_map_get f' _ _ hk)
        exact ⟨_, _, g', hrun, w1, w2, .hs w3 (fun _ => ⟨rfl, by simp [need], rfl, by simpa [need] using hC⟩)⟩

theorem op_appendHRM {α : Type} {f : α → D} {l l' r : List α} {x y : Operand} {t e s bytes id res len : Nat} (ht : SlT P t e s bytes) (hx : Is (ρ x) (.hs id 0 len s)) (hy : As (ρ y) (.sl (l'.map f))) (hH : H[id]? = some (.lst (l.map f) e s)) (hl : l.length = len) (hfr : H[res]? = some .free)
    (hf : En f s) (hv : app bytes l l' = some r) : OpV P (.call ⟨.builtin .append, #[x, y], #[t, t]⟩) ty ρ H (.hs res 0 r.length s) ((H.set id .dead).set res (.lst (r.map f) e s)) := by
  unfold app at hv
  split at hv
  · rename_i h
    injection hv with hv; subst hv
    have := op_appendHR (ty := ty) ht hx hy hH (by simpa using hl) hfr (by rw [← List.map_append]; exact hf.szL _) (hf.oneL _) (by simp only [List.length_append, List.length_map]; exact h.1) (by simp only [List.length_append, List.length_map]; exact h.2)
    rw [← List.map_append, List.length_map] at this
    exact this
  · cases hv

end

/-- A list under a new number, at the end of the heap. -/
theorem AW.moveL {F : FC} {Q : Exit → St → Prop} {c : Code} {E : Nat → V} {H : List HE} {α : Type} {f : α → D} {l : List α} {e : TypeId} {s len n : Nat} (id : Nat) (ts : List Nat) (hH : H[id]? = some (.lst (l.map f) e s)) (hn : H.length = n)
    (hE : SameE E (.hs id 0 len s) ts) (h : AW F c Q ⟨setE E ts (.hs n 0 len s), H.set id .dead ++ [.lst (l.map f) e s]⟩) : AW F c Q ⟨E, H⟩ := by
  subst hn
  rintro a w ⟨h1, h2, g, h3, h4, h5⟩
  have hidlt : id < H.length := (List.getElem?_eq_some_iff.1 hH).1
  obtain ⟨g', w1, w2, w3, _, _, w6⟩ := h3.addFree.moveLst (id := id) (n := H.length) (by rw [List.getElem?_append_left hidlt]; exact hH) (by simp)
  rw [set_last2 _ _ _ hidlt] at w1
  refine h a w ⟨h1, h2, g', w1, h4.trans w2, fun i => setE_rep ((h5 i).mono w2) (fun hr => ?_) hE⟩
  generalize a.tmps.getD i undef = r at hr ⊢
  cases hr with
  | @hs _ _ _ _ m cap' n0 c0 a' a0' p1 p2 =>
    exact .hs (w3.trans (w6.symm.trans p1)) p2

/-- A function that makes a list: the list has the number of a free entry. -/
theorem FnO.atR {P : Program} {f : FuncId} {ds : List D} {l : List D} {e : TypeId} {s len res : Nat} {H : List HE} (h : ACall P f (ds.map .d) [] fun r H' => r = resOf [.hs 0 0 len s] ∧ H' = [.lst l e s]) (hfr : H[res]? = some .free) :
    ACall P f (ds.map .d) H fun r H' => r = .hs res 0 len s ∧ H' = H.set res (.lst l e s) := by
  intro g w vals hw hs ha
  let g0 : G := { σ := fun _ => none, τ := fun _ => none, υ := fun _ _ => False, X := fun _ => False, Pr := g.Pr }
  have hw0 : WOK g0 w [] := by
    refine ⟨hw.pr, fun b hb => hb.elim, ?_, ?_, ?_, ?_, ?_, ?_, fun _ _ => ⟨rfl, rfl, fun _ h => h⟩, fun x hx => ⟨fun h => h, (hw.kc x hx).2⟩⟩ <;> intros <;> simp_all
  have ha0 : ∀ (i : Nat) x v, (ds.map V.d)[i]? = some x → vals[i]? = some v → Rep g0 w x v := by
    intro i x v hx hv
    have := ha i x v hx hv
    simp only [List.getElem?_map, Option.map_eq_some_iff] at hx
    obtain ⟨y, _, rfl⟩ := hx
    cases this with
    | d hd => exact .d hd
  refine (h g0 w vals hw0 hs ha0).mono ?_
  rintro e' w' ⟨rv, r, g', H', rfl, hw', he, hr, rfl, rfl⟩
  have keep : ∀ b, b < w.heap.size → w'.heap[b]? = w.heap[b]? := fun b hb => he.keep b hb (fun h => h)
  have hreslt : res < H.length := (List.getElem?_eq_some_iff.1 hfr).1
  have hget : ∀ (i : Nat) x, (H.set res (.lst l e s))[i]? = some x → (i = res ∧ x = .lst l e s) ∨ (i ≠ res ∧ H[i]? = some x) := by
    intro i x hx
    by_cases hi : i = res
    · subst hi; rw [List.getElem?_set_self hreslt] at hx; exact .inl ⟨rfl, (Option.some.inj hx).symm⟩
    · rw [List.getElem?_set_ne (Ne.symm hi)] at hx; exact .inr ⟨hi, hx⟩
  obtain ⟨hfσ, hfτ, hfυ⟩ := hw.free res (.inl hfr)
  let g2 : G := { σ := fun i => if i = res then g'.σ 0 else g.σ i, τ := fun i => if i = res then g'.τ 0 else g.τ i, υ := g.υ, X := fun b => g.X b ∨ g'.X b, Pr := g'.Pr }
  have hX' : ∀ b, g'.X b → w.heap.size ≤ b := fun b hb => (he.x b hb).resolve_left (fun h => h)
  have hold : ∀ b o, g'.Pr b o → b < w.heap.size → g.Pr b o := by
    intro b o hp hb
    rcases he.prn b o hp with h1 | h1 | h1
    · exact h1
    · exact h1.elim
    · omega
  have hτne : ∀ i, i ≠ res → g2.τ i = g.τ i := fun i hi => by simp [g2, hi]
  have hσne : ∀ i, i ≠ res → g2.σ i = g.σ i := fun i hi => by simp [g2, hi]
  have hev : Evo g w g2 w' := {
    same := he.same
    size := he.size
    pr := he.pr
    prn := fun b o hp => by
      rcases he.prn b o hp with h1 | h1 | h1
      · exact .inl h1
      · exact h1.elim
      · exact .inr (.inr h1)
    x := fun b hb => hb.imp (fun h => h) (hX' b)
    keep := fun b hb _ => keep b hb
    σ := fun i b h => by
      have hi : i ≠ res := fun e => by subst e; rw [hfσ] at h; cases h
      rw [hσne i hi]; exact h
    τ := fun i m a cap h => by
      have hi : i ≠ res := fun e => by subst e; rw [hfτ] at h; cases h
      exact ⟨m, a, cap, by rw [hτne i hi]; exact h, .inr ⟨rfl, rfl, rfl⟩⟩ }
  have hblk : ∀ (i : Nat) x b, (H.set res (.lst l e s))[i]? = some x → g2.blk i x b →
      (i ≠ res ∧ H[i]? = some x ∧ g.blk i x b ∧ b < w.heap.size) ∨ (i = res ∧ g'.blk 0 (.lst l e s) b ∧ w.heap.size ≤ b) := by
    intro i x b hx hb
    rcases hget i x hx with ⟨rfl, rfl⟩ | ⟨hi, h1⟩
    · have : g'.blk 0 (.lst l e s) b := by simpa [G.blk, g2] using hb
      exact .inr ⟨rfl, this, hX' b (hw'.blk 0 _ b (by simp) this)⟩
    · have : g.blk i x b := by
        cases x <;> simp only [G.blk, hτne i hi, hσne i hi] at hb ⊢ <;> exact hb
      exact .inl ⟨hi, h1, this, hw.xs b (hw.blk i x b h1 this)⟩
  refine ⟨rv, .hs res 0 len s, g2, _, rfl, ⟨hw'.pr, ?_, ?_, ?_, ?_, ?_, ?_, ?_, ?_, hw.kcE hev⟩, hev, ?_, rfl, rfl⟩
  · rintro b (hb | hb)
    · exact Nat.lt_of_lt_of_le (hw.xs b hb) he.size
    · exact hw'.xs b hb
  · intro i x b hx hb
    rcases hblk i x b hx hb with ⟨_, h1, h2, _⟩ | ⟨_, h1, _⟩
    · exact .inl (hw.blk i x b h1 h2)
    · exact .inr (hw'.blk 0 _ b (by simp) h1)
  · intro i i' x x' b hx hx' hb hb'
    rcases hblk i x b hx hb with ⟨_, h1, h2, h3⟩ | ⟨h1, h2, h3⟩ <;> rcases hblk i' x' b hx' hb' with ⟨_, h4, h5, h6⟩ | ⟨h4, h5, h6⟩
    · exact hw.sep i i' x x' b h1 h4 h2 h5
    · omega
    · omega
    · omega
  · intro i c hx
    rcases hget i _ hx with ⟨_, h⟩ | ⟨hi, h⟩
    · cases h
    · obtain ⟨b, arr, et, h1, h2, h3, h4, h5⟩ := hw.row i c h
      have hb : b < w.heap.size := hw.xs b (hw.blk i _ b h h1)
      exact ⟨b, arr, et, by rw [hσne i hi]; exact h1, (keep b hb).trans h2, h3, fun k x v hx hv => (h4 k x v hx hv).mono hev, fun o hp => h5 o (hold b o hp hb)⟩
  · intro i n e1 s1 hx
    rcases hget i _ hx with ⟨_, h⟩ | ⟨hi, h⟩
    · cases h
    · obtain ⟨a, cap, h1, h2, h2', h3⟩ := hw.tok i n e1 s1 h
      refine ⟨a, cap, by rw [hτne i hi]; exact h1, h2, h2', fun hlt => ?_⟩
      obtain ⟨b, arr, e1, e2, e3, e4⟩ := h3 hlt
      have hb : b < w.heap.size := hw.xs _ (hw.blk i _ b h (by simp [G.blk, h1, e1, hlt]))
      exact ⟨b, arr, e1, (keep _ hb).trans e2, e3, fun o hp => e4 o (hold _ o hp hb)⟩
  · intro i l1 e1 s1 hx
    rcases hget i _ hx with ⟨rfl, h⟩ | ⟨hi, h⟩
    · injection h with q1 q2 q3
      subst q1; subst q2; subst q3
      obtain ⟨a, cap, k1, k2, k3, k4⟩ := hw'.lst 0 l1 e1 s1 (by simp)
      refine ⟨a, cap, by simpa [g2] using k1, k2, k3, fun hc => ?_⟩
      obtain ⟨b, arr, p1, p2, p3⟩ := k4 hc
      exact ⟨b, arr, p1, by simpa [g2] using p2, p3⟩
    · obtain ⟨a, cap, h1, h2, h2', h3⟩ := hw.lst i l1 e1 s1 h
      refine ⟨a, cap, by rw [hτne i hi]; exact h1, h2, h2', fun hlt => ?_⟩
      obtain ⟨b, arr, e1, e0, e2, e3, e4, e5⟩ := h3 hlt
      have hb : b < w.heap.size := hw.xs _ (hw.blk i _ b h (by simp [G.blk, h1, e1, hlt]))
      exact ⟨b, arr, e1, by rw [hσne i hi]; exact e0, (keep _ hb).trans e2, e3, fun o hp => e4 o (hold _ o hp hb), fun k x v hx hv => (e5 k x v hx hv).mono hev.pr⟩
  · intro i x hx
    rcases hget i _ hx with ⟨_, h⟩ | ⟨hi, h⟩
    · cases h
    · obtain ⟨b, h1, h2, h3, h4⟩ := hw.ob i x h
      have hb : b < w.heap.size := hw.xs b (hw.blk i _ b h (.inl h1))
      have hbu : ∀ b', g.υ i b' → b' < w.heap.size := fun b' hu => hw.xs b' (hw.blk i _ b' h (.inr hu))
      exact ⟨b, by rw [hσne i hi]; exact h1, x.st hev.w (hτne i hi) rfl (keep b hb) (fun b' hu => keep b' (hbu b' hu)) h2, fun o hp => h3 o (hold b o hp hb), fun b' o hu hp => h4 b' o hu (hold b' o hp (hbu b' hu))⟩
  · intro i hi
    have : i ≠ res ∧ (H[i]? = some .free ∨ H.length ≤ i) := by
      rcases hi with hi | hi
      · rcases hget i _ hi with ⟨_, h⟩ | ⟨h1, h2⟩
        · cases h
        · exact ⟨h1, .inl h2⟩
      · simp at hi; exact ⟨by omega, .inr (by omega)⟩
    rw [hτne i this.1, hσne i this.1]
    exact hw.free i this.2
  · simp only [resOf] at hr
    cases hr with
    | hs ht heq => exact .hs (by simpa [g2] using ht) heq

section
variable {P : Program} {ρ : Operand → V} {H : List HE} {ty : TypeId}
theorem op_callNew {fop : Operand} {f : FuncId} {args : Array Operand} {ts : Array TypeId} {ds : List D} {l : List D} {e : TypeId} {s len res : Nat} (hc : ∀ (a : Array Value) (w : World), (callFunc f a).run P w = .ok (.enter f a) w)
    (hf : Is (ρ fop) (.fn (.func f) [])) (ha : ArgsD ρ args.toList ds) (h : ACall P f (ds.map .d) [] fun r H' => r = resOf [.hs 0 0 len s] ∧ H' = [.lst l e s]) (hfr : H[res]? = some .free) : OpV P (.call ⟨.value fop, args, ts⟩) ty ρ H (.hs res 0 len s) (H.set res (.lst l e s)) :=
  op_callD hc hf ha (FnO.atR h hfr)
end

section
variable {P : Program} {ρ : Operand → V} {H : List HE} {ty : TypeId}
theorem op_appendER {x y : Operand} {t e s bytes res : Nat} {l l' : List D} (ht : SlT P t e s bytes) (hx : Is (ρ x) (.ex l)) (hy : As (ρ y) (.sl l')) (hfr : H[res]? = some .free)
    (hs : ∀ x ∈ l ++ l', x.cells.length = s) (hone : ∀ x ∈ l ++ l', ∀ y ∈ x.cells, y.one = true) (hbytes : (l ++ l').length * bytes ≤ 140737488355328) (hlen : (l ++ l').length ≤ 4611686018427387904) :
    OpV P (.call ⟨.builtin .append, #[x, y], #[t, t]⟩) ty ρ H (.tk res (l ++ l')) (H.set res (.tok (l ++ l').length e s)) := by
  intro g w r pos after guard dst hw h
  have h1 := hx.rep (h x (by simp [Op.operands, Call.operands]))
  have h2 := hy.rep (h y (by simp [Op.operands, Call.operands]))
  generalize hrx : r x = vx at h1
  have hfree := hfr
  cases h1 with
  | @ex _ a hd =>
    suffices hgoal : ∃ rv w' g', (Builtin.append_ #[t, t] ty #[.slice a l.length l.length, r y]).run P w = .ok rv w' ∧ WOK g' w' (H.set res (.tok (l ++ l').length e s)) ∧ Evo g w g' w' ∧ Rep g' w' (.tk res (l ++ l')) rv by
      obtain ⟨rv, w', g', e1, e2, e3, e4⟩ := hgoal
      unfold OpRuns
      have : (execOp r ⟨dst, .call ⟨.builtin .append, #[x, y], #[t, t]⟩, ty, pos, after, guard⟩).run P w = .ok (.value rv) w' := by
        simp [execOp, resolve, invoke, builtin, hrx, e1]
      rw [this]
      exact ⟨g', e2, e3, e4⟩
    by_cases hl0 : l' = []
    · subst hl0
      obtain ⟨a', cap', hra, _⟩ := slice_form h2
      rw [hra]
      obtain ⟨g', w1, w2, w3⟩ := hw.tokSame (n := (l ++ []).length) (s := s) (e := e) (a := a) hfree (by omega)
      refine ⟨_, w, g', append_none_run ht (Nat.le_refl _), w1, w2, ?_⟩
      simp only [List.append_nil] at w3 ⊢
      exact .tk (hd.mono w2.pr) w3 (Nat.le_refl _) (fun _ => rfl)
    · have hlpos : 0 < l'.length := List.length_pos_iff.2 hl0
      refine append_grows ht hw hfree (.inl rfl) hd (fun ha => ?_) h2 hl0 hs hone hbytes hlen (by omega)
      cases hd with
      | sl _ _ _ s' f hs' hcap hrow hrep =>
        by_cases hl00 : l = []
        · subst hl00; rfl
        · obtain ⟨b, o, e1, _⟩ := hrow hl00
          rw [e1] at ha; cases ha

theorem op_appendERM {x y : Operand} {t : TypeId} {α : Type} {f : α → D} {l l' r : List α} {e s bytes res : Nat} (ht : SlT P t e s bytes) (hx : Is (ρ x) (.ex (l.map f))) (hy : As (ρ y) (.sl (l'.map f))) (hfr : H[res]? = some .free)
    (hf : En f s) (hv : app bytes l l' = some r) : OpV P (.call ⟨.builtin .append, #[x, y], #[t, t]⟩) ty ρ H (.tk res (r.map f)) (H.set res (.tok r.length e s)) := by
  unfold app at hv
  split at hv
  · rename_i h
    injection hv with hv; subst hv
    have := op_appendER (ty := ty) ht hx hy hfr (by rw [← List.map_append]; exact hf.szL _) (by rw [← List.map_append]; exact hf.oneL _) (by simp only [List.length_append, List.length_map]; exact h.1) (by simp only [List.length_append, List.length_map]; exact h.2)
    rw [← List.map_append, List.length_map] at this
    exact this
  · cases hv

end
end Go.Proofs.YtlbiooppadlolaaGreatDoor.Ab
end
section
namespace Go.Proofs.YtlbiooppadlolaaGreatDoor.Ab
open Go

theorem slc_le {α : Type} {l r : List α} {lo hi : Int} (h : slc l lo hi = some r) : lo.toNat + r.length ≤ l.length := by
  unfold slc at h
  split at h
  · injection h with h; subst h; simp; omega
  · cases h
section
variable {P : Program} {ρ : Operand → V} {H : List HE} {ty : TypeId}

theorem op_sliceH {α : Type} {f : α → D} {l r : List α} {x : Operand} {t e s bytes id len : Nat} {lo hi : Int} {a b : Option Operand} (hx : Is (ρ x) (.hs id 0 len s)) (hH : H[id]? = some (.lst (l.map f) e s)) (hl : l.length = len) (ht : SlT P t e s bytes) (ha : loM ρ a lo) (hb : hiM ρ len b hi)
    (hv : slc l lo hi = some r) : OpV P (.slice t x a b none) ty ρ H (.hs id lo.toNat r.length s) H := by
  unfold slc at hv
  split at hv
  · rename_i hc
    injection hv with hv
    have hrl : r.length = hi.toNat - lo.toNat := by subst hv; simp; omega
    clear hv
    refine OpV.of_val fun g w rr hw h => ?_
    have h1 := hx.rep (h x (by cases a <;> cases b <;> simp [Op.operands]))
    obtain ⟨ad, cap, k1, k2, k3, _⟩ := hw.lst id _ _ _ hH
    rename_i k4; clear k4
    simp only [List.length_map] at k2
    obtain ⟨ie, z, hie, hsz, _⟩ := ht.i
    generalize hr : rr x = u at h1
    cases h1 with
    | @hs _ _ _ _ m cap' n0 c0 a' a0 p1 p2 =>
      rw [k1] at p1; injection p1 with p1; injection p1 with p1 p3
      injection p3 with p3 p4
      obtain ⟨r1, r2, r3, r4⟩ := hs0 (p2 p1.symm)
      subst r1; subst r3; subst p3; subst p4; subst r2
      have hlo : ∀ (z : Value) (y : Nat), z = .int .i64 lo → lo.toNat ≤ y → (Instr.sliceBound z y .sliceB).run P w = .ok lo.toNat w := fun z y hz hy => by
        subst hz
        simp only [Instr.sliceBound, asIntOf, Sem.run_bind, Sem.run_pure, Result.andThen_ok]
        rw [if_pos (by omega)]; rfl
      have hhi : ∀ (z : Value) (y : Nat), z = .int .i64 hi → hi.toNat ≤ y → (Instr.sliceBound z y .sliceAcap).run P w = .ok hi.toNat w := fun z y hz hy => by
        subst hz
        simp only [Instr.sliceBound, asIntOf, Sem.run_bind, Sem.run_pure, Result.andThen_ok]
        rw [if_pos (by omega)]; rfl
      have hcaphi : hi.toNat ≤ cap := by omega
      have hres : (if cap = lo.toNat then ad else ad.map (·.add (lo.toNat * s))) = subA ad cap lo.toNat s := by
        unfold subA
        by_cases h0 : lo.toNat = 0
        · rw [h0]; simp only [Nat.zero_mul, if_true]
          split
          · rfl
          · cases ad <;> simp [Addr.add]
        · rw [if_neg h0]
      refine ⟨.slice (subA ad cap lo.toNat s) (hi.toNat - lo.toNat) (cap - lo.toNat), fun _ _ _ _ => ?_, ?_⟩
      · cases a with
        | none =>
          have h0 : lo = 0 := ha
          subst h0
          simp only [Int.toNat_zero, Nat.zero_mul] at hres
          cases b with
          | none =>
            have h0 : hi = _ := hb
            subst h0
            simp [execOp, Instr.sliceAt, Instr.slice, Instr.sliceBounds, run_underlying ht.u, hr, run_sizeOf' hie, hsz, hres]
          | some y =>
            have h2 := As.int hb (h y (by simp [Op.operands]))
            simp [execOp, Instr.sliceAt, Instr.slice, Instr.sliceBounds, run_underlying ht.u, hr, run_sizeOf' hie, hsz, hhi _ _ h2 hcaphi, hres]
        | some z =>
          have h1 := As.int ha (h z (by cases b <;> simp [Op.operands]))
          cases b with
          | none =>
            have h0 : hi = _ := hb
            subst h0
            simp [execOp, Instr.sliceAt, Instr.slice, Instr.sliceBounds, run_underlying ht.u, hr, run_sizeOf' hie, hsz, hlo _ _ h1 (show lo.toNat ≤ n0 by omega), hres]
          | some y =>
            have h2 := As.int hb (h y (by simp [Op.operands]))
            simp [execOp, Instr.sliceAt, Instr.slice, Instr.sliceBounds, run_underlying ht.u, hr, run_sizeOf' hie, hsz, hhi _ _ h2 hcaphi, hlo _ _ h1 (show lo.toNat ≤ hi.toNat by omega), hres]
      · exact .hs k1 (fun _ => ⟨rfl, hrl.symm, rfl, by omega⟩)
  · cases hv

end

/- Code whose labels nobody jumps to. -/
section
variable {P : Program} {ρ : Operand → V} {H : List HE} {ty : TypeId}
end

end Go.Proofs.YtlbiooppadlolaaGreatDoor.Ab
end
section
namespace Go.Proofs.YtlbiooppadlolaaGreatDoor.Ab
open Go

def slots (m : List (Nat × V)) : Nat → V := fun i => lookV m i .any
theorem AW.cutS {F : FC} {Q : Exit → St → Prop} {α : Type} {x y : Code} {E : Nat → V} {H : List HE} (n0 : Nat) (I : α → Prop) (m : α → List (Nat × V)) (K : α → List HE)
    (hg : ∀ id, n0 ≤ id → F.g0.σ id = none ∧ F.g0.τ id = none)
    (h1 : AW F x (thenQ (fun s => ∃ z, I z ∧ Meets n0 E [] (m z) (K z) s) Q) ⟨E, H⟩) (h2 : ∀ z, I z → AW F y Q ⟨slots (m z), K z⟩) : AW F (.seq x y) Q ⟨E, H⟩ :=
  AW.cutM n0 I [] m K hg h1 h2
theorem AW.loopS {F : FC} {Q : Exit → St → Prop} {σ τ : Type} {c : Code} {E : Nat → V} {H : List HE} (n0 : Nat) (m : σ → List (Nat × V)) (K : σ → List HE) {f : σ → Option (σ ⊕ τ)} {n : Nat} {s0 : σ} {t : τ}
    (hit : iter n f s0 = some t) (hg : ∀ id, n0 ≤ id → F.g0.σ id = none ∧ F.g0.τ id = none) (h0 : Meets n0 E [] (m s0) (K s0) ⟨E, H⟩)
    (round : ∀ n' s, iter (n' + 1) f s = some t → AW F c (thenQ (fun st => ∃ s', iter n' f s' = some t ∧ Meets n0 (slots (m s)) [] (m s') (K s') st) Q) ⟨slots (m s), K s⟩) : AW F (.loop c) Q ⟨E, H⟩ :=
  AW.loopM n0 [] m K hit hg h0 (fun n' s h => (round n' s h).mono fun e st hq => by
    cases e with
    | normal =>
      obtain ⟨s', h1, S, k1, k2, k3, k4, k5, k6⟩ := hq
      exact ⟨s', h1, S, k1, k2, rfl, k4, trivial, k6⟩
    | _ => exact hq)
theorem AW.reset {F : FC} {Q : Exit → St → Prop} {c : Code} {E : Nat → V} {H : List HE} (n0 : Nat) (m : List (Nat × V)) (K : List HE) (hg : ∀ id, n0 ≤ id → F.g0.σ id = none ∧ F.g0.τ id = none) (h0 : Meets n0 E [] m K ⟨E, H⟩) (k : AW F c Q ⟨slots m, K⟩) : AW F c Q ⟨E, H⟩ :=
  fun a w hs => k a w (meets_sim hg hs h0)
end Go.Proofs.YtlbiooppadlolaaGreatDoor.Ab
end
section
namespace Go.Proofs.YtlbiooppadlolaaGreatDoor.Ab
open Go

section
variable {F : FC} {ρ : Operand → V} {H : List HE} {ty : TypeId}
end

section
variable {P : Program} {ρ : Operand → V} {H : List HE} {ty : TypeId}
end

end Go.Proofs.YtlbiooppadlolaaGreatDoor.Ab
end
section
namespace Go.Proofs.YtlbiooppadlolaaGreatDoor.Ab
open Go

section
variable {P : Program} {ρ : Operand → V} {H : List HE} {ty : TypeId}
/-- The beginning of a list, where the rest is given up. -/
theorem op_truncH {α : Type} {f : α → D} {l r : List α} {x : Operand} {t e s bytes id len : Nat} {hi : Int} {b : Option Operand} (hx : Is (ρ x) (.hs id 0 len s)) (hH : H[id]? = some (.lst (l.map f) e s)) (hl : l.length = len) (ht : SlT P t e s bytes) (hb : hiM ρ len b hi)
    (hv : slc l 0 hi = some r) : OpV P (.slice t x none b none) ty ρ H (.hs id 0 r.length s) (H.set id (.lst (r.map f) e s)) := by
  intro g w rr pos after guard dst hw h
  have h0 := op_sliceH (ty := ty) (a := none) hx hH hl ht rfl hb hv g w rr pos after guard dst hw h
  have hidlt : id < H.length := (List.getElem?_eq_some_iff.1 hH).1
  unfold OpRuns at h0 ⊢
  have hr : r = l.take hi.toNat := by
    unfold slc at hv
    split at hv
    · injection hv with hv; rw [← hv]; simp
    · cases hv
  revert h0
  generalize (execOp rr ⟨dst, .slice t x none b none, ty, pos, after, guard⟩).run P w = res
  have key : ∀ g' w', WOK g' w' H → WOK g' w' (H.set id (.lst (r.map f) e s)) ∧ Evo g' w' g' w' := by
    intro g' w' hw'
    obtain ⟨ad, cap, k1, k2, k3, k4⟩ := hw'.lst id _ _ _ hH
    by_cases hc : cap = 0
    · clear k4
      simp only [List.length_map] at k2
      have hl0 : l = [] := List.eq_nil_of_length_eq_zero (by omega)
      have hset : H.set id (.lst (r.map f) e s) = H := by
        rw [hr, hl0, List.take_nil]
        apply List.ext_getElem?
        intro i
        by_cases hi : i = id
        · subst hi; rw [List.getElem?_set_self hidlt, hH, hl0]
        · rw [List.getElem?_set_ne (Ne.symm hi)]
      rw [hset]; exact ⟨hw', .refl _ _⟩
    · obtain ⟨b, arr, rfl, q0, q2, q3, q4, q5⟩ := k4 (by omega)
      simp only [List.length_map] at k2
      refine WOK.storeLst (w' := w') (arr' := arr) hw' hH k1 (by omega) q0 ⟨rfl, rfl, rfl⟩ rfl q2 (fun _ _ => rfl) (by rw [hr]; simp; omega) q3 (fun k x v hx' hv' => q5 k x v ?_ hv')
      have : l.map f = r.map f ++ (l.drop hi.toNat).map f := by rw [hr, ← List.map_append, List.take_append_drop]
      rw [this, flat_append, List.getElem?_append_left (List.getElem?_eq_some_iff.1 hx').1]
      exact hx'
  cases res with
  | ok nx w' =>
    cases nx with
    | value v => rintro ⟨g', w1, w2, w3⟩; exact ⟨g', (key g' w' w1).1, w2, w3⟩
    | skip => rintro ⟨g', w1, w2, w3⟩; exact ⟨g', (key g' w' w1).1, w2, w3⟩
    | enter f args => intro h; exact h.mono fun e w'' ⟨v, he, g', w1, w2, w3⟩ => ⟨v, he, g', (key g' w'' w1).1, w2, w3⟩
    | _ => exact fun h => h
  | halt x w' => exact fun h => h
end
section
variable {P : Program} {ρ : Operand → V} {H : List HE} {ty : TypeId} {x y : Operand} {t u : TypeId} {k : IntKind} {a b c : Int}
end
theorem w1 {m : Nat} (h : m + 1 ≤ 4611686018427387904) : IntKind.i64.wrap ((m : Int) + ((1 : Nat) : Int)) = ((m + 1 : Nat) : Int) := by
  rw [w64 (by omega) (by omega)]; omega
theorem ws {m i : Nat} (h : m + 1 ≤ 4611686018427387904) (hi : i ≤ m) : IntKind.i64.wrap (((m + 1 : Nat) : Int) - (i : Int)) = ((m + 1 - i : Nat) : Int) := by
  rw [w64 (by omega) (by omega)]; omega
/-- Two values of a type are compared as what they mean. -/
def EqS {α : Type} [DecidableEq α] (P : Program) (t : TypeId) (f : α → D) : Prop :=
  P.eqGuardType P.depth t = false ∧ ∀ Pr w x y a b, RepD Pr w (f x) a → RepD Pr w (f y) b → ∃ xs ys, a = .agg xs ∧ b = .agg ys ∧ ∀ w', (Op.equalIn 10000 t (.agg xs) (.agg ys)).run P w' = .ok (decide (x = y)) w'

inductive RepLL (Pr : Nat → Nat → Prop) (w : World) : List D → List Value → Prop
  | nil : RepLL Pr w [] []
  | cons {x : D} {v : Value} {l : List D} {vs : List Value} : RepD Pr w x v → RepLL Pr w l vs → RepLL Pr w (x :: l) (v :: vs)
theorem RepLL.of {Pr : Nat → Nat → Prop} {w : World} : ∀ {l : List D} {vs : List Value}, vs.length = l.length → (∀ (i : Nat) x v, l[i]? = some x → vs[i]? = some v → RepD Pr w x v) → RepLL Pr w l vs
  | [], [], _, _ => .nil
  | x :: l, v :: vs, h, hh => .cons (hh 0 x v rfl rfl) (RepLL.of (by simpa using h) (fun i y u h1 h2 => hh (i + 1) y u h1 h2))
  | [], _ :: _, h, _ => by simp at h
  | _ :: _, [], h, _ => by simp at h
section
variable {P : Program} {ρ : Operand → V} {H : List HE} {ty : TypeId}
end
theorem OpRuns.mono {P : Program} {o : Oper} {r : Operand → Value} {w : World} {K K' : Value → World → Prop} (h : OpRuns P o r w K) (hk : ∀ v w', K v w' → K' v w') : OpRuns P o r w K' := by
  unfold OpRuns at *
  generalize (execOp r o).run P w = q at *
  cases q with
  | ok n w' =>
    cases n with
    | value v => exact hk _ _ h
    | skip => exact hk _ _ h
    | enter f args => exact Calls.mono h (fun e w'' ⟨v, h1, h2⟩ => ⟨v, h1, hk _ _ h2⟩)
    | _ => exact h
  | halt _ _ => exact h
section
variable {P : Program} {ρ : Operand → V} {H : List HE} {ty : TypeId}
theorem ix_inv {α : Type} {l : List α} {k : Int} {v : α} (h : ix l k = some v) : 0 ≤ k ∧ l[k.toNat]? = some v ∧ k.toNat < l.length := by
  unfold ix at h
  split at h
  · rename_i h0
    exact ⟨h0, h, (List.getElem?_eq_some_iff.1 h).1⟩
  · cases h
theorem OpV.asD {o : Op} {y : V} {x : D} {H' : List HE} (h : OpV P o ty ρ H y H') (hx : y.asD = some x) : OpV P o ty ρ H (.d x) H' := fun g w r pos after guard dst hw hr =>
  OpRuns.mono (h g w r pos after guard dst hw hr) (fun _ _ ⟨g', h1, h2, h3⟩ => ⟨g', h1, h2, .d (h3.asD hx)⟩)
end
end Go.Proofs.YtlbiooppadlolaaGreatDoor.Ab
end
section
namespace Go.Proofs.YtlbiooppadlolaaGreatDoor.Ab
open Go

section
variable {H : List HE}
/-- New memory: an entry that was free. -/
theorem WOK.newOb {g : G} {w : World} {id : Nat} {x0 : OB} {o0 : Obj} (hw : WOK g w H) (hH : H[id]? = some .free)
    (hφ : ∀ g' w', Evo g w g' w' → w'.heap[w.heap.size]? = some o0 → x0.φ g' w' id w.heap.size) :
    ∃ g', WOK g' { w with heap := w.heap.push o0 } (H.set id (.ob x0)) ∧ Evo g w g' { w with heap := w.heap.push o0 } ∧ g'.σ id = some w.heap.size := by
  have hidlt : id < H.length := (List.getElem?_eq_some_iff.1 hH).1
  obtain ⟨hfσ, hfτ, hfυ⟩ := hw.free id (.inl hH)
  let B := w.heap.size
  let w' : World := { w with heap := w.heap.push o0 }
  let g' : G := { σ := fun i => if i = id then some B else g.σ i, τ := g.τ, υ := g.υ, X := fun b => g.X b ∨ b = B, Pr := g.Pr }
  have hold : ∀ b, b < B → w'.heap[b]? = w.heap[b]? := fun b hb => by
    simp only [w', Array.getElem?_push]
    rw [if_neg (by omega)]
  have hnew : w'.heap[B]? = some o0 := by simp [w', B]
  have hsz : w'.heap.size = B + 1 := by simp [w', B]
  have hσ : ∀ i b, g.σ i = some b → i ≠ id := fun i b h e => by subst e; rw [hfσ] at h; cases h
  have hσ' : ∀ i, i ≠ id → g'.σ i = g.σ i := fun i h => by simp [g', h]
  have hev : Evo g w g' w' := {
    same := ⟨rfl, rfl, rfl⟩
    size := by omega
    pr := fun b o hp => ⟨hp, by have := hw.pr b o hp; simp [World.cell?, hold b this]⟩
    prn := fun b o h => .inl h
    x := fun b h => h.imp (fun h => h) (fun e => by omega)
    keep := fun b hb _ => hold b hb
    σ := fun i b h => by rw [hσ' i (hσ i b h)]; exact h
    τ := fun _ m a cap h => ⟨m, a, cap, h, .inr ⟨rfl, rfl, rfl⟩⟩ }
  have hget : ∀ (i : Nat) e, (H.set id (.ob x0))[i]? = some e → (i = id ∧ e = .ob x0) ∨ (i ≠ id ∧ H[i]? = some e) := by
    intro i e he
    by_cases hi : i = id
    · subst hi; rw [List.getElem?_set_self hidlt] at he; exact .inl ⟨rfl, (Option.some.inj he).symm⟩
    · rw [List.getElem?_set_ne (Ne.symm hi)] at he; exact .inr ⟨hi, he⟩
  have hblk : ∀ (i : Nat) e b', (H.set id (.ob x0))[i]? = some e → g'.blk i e b' → (i = id ∧ b' = B) ∨ (i ≠ id ∧ H[i]? = some e ∧ g.blk i e b' ∧ b' < B) := by
    intro i e b' he hb'
    rcases hget i e he with ⟨rfl, rfl⟩ | ⟨hne, h⟩
    · rcases hb' with hb' | hb'
      · simp [g'] at hb'; exact .inl ⟨rfl, hb'.symm⟩
      · exact absurd hb' (hfυ _)
    · have : g.blk i e b' := by
        cases e <;> simp [G.blk, g', hne] at hb' ⊢ <;> exact hb'
      exact .inr ⟨hne, h, this, hw.xs b' (hw.blk i e b' h this)⟩
  refine ⟨g', ⟨fun b o h => by have := hw.pr b o h; show b < w'.heap.size; omega, ?_, ?_, ?_, ?_, ?_, ?_, ?_, ?_, hw.kcE hev⟩, hev, by simp [g', B]⟩
  · intro b h
    show b < w'.heap.size
    rcases h with h | rfl
    · have := hw.xs b h; omega
    · omega
  · intro i e b' he hb'
    rcases hblk i e b' he hb' with ⟨_, rfl⟩ | ⟨_, h1, h2, _⟩
    · exact .inr rfl
    · exact .inl (hw.blk i e b' h1 h2)
  · intro i i' e e' b' he he' hb1 hb2
    rcases hblk i e b' he hb1 with ⟨r1, r2⟩ | ⟨_, h1, h2, h3⟩ <;> rcases hblk i' e' b' he' hb2 with ⟨s1, s2⟩ | ⟨_, h4, h5, h6⟩
    · omega
    · omega
    · omega
    · exact hw.sep i i' e e' b' h1 h4 h2 h5
  · intro i ci hi
    rcases hget i _ hi with ⟨_, he⟩ | ⟨hne, h⟩
    · cases he
    · obtain ⟨b1, arr1, et1, g1, g2, g3, g4, g5⟩ := hw.row i ci h
      have hlt := hw.xs b1 (hw.blk i _ b1 h (by simpa [G.blk] using g1))
      exact ⟨b1, arr1, et1, by rw [hσ' i hne]; exact g1, (hold b1 hlt).trans g2, g3, fun k x v hx hv => (g4 k x v hx hv).mono hev, g5⟩
  · intro i n e s hi
    rcases hget i _ hi with ⟨_, he⟩ | ⟨hne, h⟩
    · cases he
    · obtain ⟨a, cap, g1, g2, g3, g4⟩ := hw.tok i n e s h
      refine ⟨a, cap, g1, g2, g3, fun hlt => ?_⟩
      obtain ⟨b1, arr1, k1, k2, k3, k4⟩ := g4 hlt
      have hlt' := hw.xs b1 (hw.blk i _ b1 h (by simp [G.blk, g1, hlt, k1]))
      exact ⟨b1, arr1, k1, (hold b1 hlt').trans k2, k3, k4⟩
  · intro i l e s hi
    rcases hget i _ hi with ⟨_, he⟩ | ⟨hne, h⟩
    · cases he
    · obtain ⟨a, cap, g1, g2, g3, g4⟩ := hw.lst i l e s h
      refine ⟨a, cap, g1, g2, g3, fun hlt => ?_⟩
      obtain ⟨b1, arr1, k1, k0, k2, k3, k4, k5⟩ := g4 hlt
      have hlt' := hw.xs b1 (hw.blk i _ b1 h (by simp [G.blk, g1, hlt, k1]))
      exact ⟨b1, arr1, k1, by rw [hσ' i hne]; exact k0, (hold b1 hlt').trans k2, k3, k4, fun k x v hx hv => (k5 k x v hx hv).mono hev.pr⟩
  · intro i x hi
    rcases hget i _ hi with ⟨rfl, he⟩ | ⟨hne, h⟩
    · injection he with he; subst he
      exact ⟨B, by simp [g'], hφ g' w' hev hnew, fun o hp => by have := hw.pr B o hp; omega, fun b' o hu => absurd hu (hfυ _)⟩
    · obtain ⟨b1, q1, q2, q3, q4⟩ := hw.ob i x h
      have hlt := hw.xs b1 (hw.blk i _ b1 h (.inl q1))
      exact ⟨b1, by rw [hσ' i hne]; exact q1, x.st hev.w rfl rfl (hold b1 hlt) (fun b' hu => hold b' (hw.xs b' (hw.blk i _ b' h (.inr hu)))) q2, q3, q4⟩
  · intro i hi
    have hne : i ≠ id := by
      rintro rfl
      rcases hi with hi | hi
      · rw [List.getElem?_set_self hidlt] at hi; cases hi
      · simp at hi; omega
    rw [hσ' i hne]
    refine hw.free i ?_
    rcases hi with hi | hi
    · rw [List.getElem?_set_ne (Ne.symm hne)] at hi; exact .inl hi
    · exact .inr (by simpa using hi)
theorem WOK.setOb {g : G} {w w' : World} {id b : Nat} {x0 x1 : OB} (hw : WOK g w H) (hH : H[id]? = some (.ob x0)) (hb : g.σ id = some b)
    (hsame : w'.os = w.os ∧ w'.tape = w.tape ∧ w'.output = w.output) (hsz : w'.heap.size = w.heap.size) (ho : ∀ b', b' ≠ b → w'.heap[b']? = w.heap[b']?)
    (hφ : Evo g w g w' → x1.φ g w' id b) : WOK g w' (H.set id (.ob x1)) ∧ Evo g w g w' := by
  have hidlt : id < H.length := (List.getElem?_eq_some_iff.1 hH).1
  have hX : g.X b := hw.blk id _ b hH (.inl hb)
  obtain ⟨b0, f1, f2, hPr, hPu⟩ := hw.ob id x0 hH
  obtain rfl : b = b0 := by rw [hb] at f1; exact Option.some.inj f1
  have hev : Evo g w g w' := {
    same := hsame
    size := by omega
    pr := fun b' o hp => ⟨hp, by
      have hne : b' ≠ b := fun e => by subst e; exact hPr o hp
      simp [World.cell?, ho b' hne]⟩
    prn := fun b o h => .inl h
    x := fun b h => .inl h
    keep := fun b' _ hx => ho b' (fun e => by subst e; exact hx hX)
    σ := fun _ _ h => h
    τ := fun _ m a cap h => ⟨m, a, cap, h, .inr ⟨rfl, rfl, rfl⟩⟩ }
  have hget : ∀ (i : Nat) e, (H.set id (.ob x1))[i]? = some e → (i = id ∧ e = .ob x1) ∨ (i ≠ id ∧ H[i]? = some e) := by
    intro i e he
    by_cases hi : i = id
    · subst hi; rw [List.getElem?_set_self hidlt] at he; exact .inl ⟨rfl, (Option.some.inj he).symm⟩
    · rw [List.getElem?_set_ne (Ne.symm hi)] at he; exact .inr ⟨hi, he⟩
  have hblk : ∀ (i : Nat) e b', (H.set id (.ob x1))[i]? = some e → g.blk i e b' → ∃ e', H[i]? = some e' ∧ g.blk i e' b' := by
    intro i e b' he hb'
    rcases hget i e he with ⟨rfl, rfl⟩ | ⟨_, h⟩
    · exact ⟨_, hH, hb'⟩
    · exact ⟨e, h, hb'⟩
  refine ⟨⟨fun b o h => by rw [hsz]; exact hw.pr b o h, fun b h => by rw [hsz]; exact hw.xs b h, ?_, ?_, ?_, ?_, ?_, ?_, ?_, hw.kcE hev⟩, hev⟩
  · intro i e b' he hb'
    obtain ⟨e', h1, h2⟩ := hblk i e b' he hb'
    exact hw.blk i e' b' h1 h2
  · intro i i' e e' b' he he' hb1 hb2
    obtain ⟨e1, h1, h2⟩ := hblk i e b' he hb1
    obtain ⟨e3, h3, h4⟩ := hblk i' e' b' he' hb2
    exact hw.sep i i' e1 e3 b' h1 h3 h2 h4
  · intro i ci hi
    rcases hget i _ hi with ⟨_, he⟩ | ⟨hne, h⟩
    · cases he
    · obtain ⟨b1, arr1, et1, g1, g2, g3, g4, g5⟩ := hw.row i ci h
      have hne' : b1 ≠ b := fun e => hne (hw.sep i id _ _ b1 h hH (by simpa [G.blk] using g1) (by rw [e]; exact .inl hb))
      exact ⟨b1, arr1, et1, g1, (ho b1 hne').trans g2, g3, fun k x v hx hv => (g4 k x v hx hv).mono hev, g5⟩
  · intro i n e s hi
    rcases hget i _ hi with ⟨_, he⟩ | ⟨hne, h⟩
    · cases he
    · obtain ⟨a, cap, g1, g2, g3, g4⟩ := hw.tok i n e s h
      refine ⟨a, cap, g1, g2, g3, fun hlt => ?_⟩
      obtain ⟨b1, arr1, k1, k2, k3, k4⟩ := g4 hlt
      have hne' : b1 ≠ b := fun e' => hne (hw.sep i id _ _ b1 h hH (by simp [G.blk, g1, hlt, k1]) (by rw [e']; exact .inl hb))
      exact ⟨b1, arr1, k1, (ho b1 hne').trans k2, k3, k4⟩
  · intro i l e s hi
    rcases hget i _ hi with ⟨_, he⟩ | ⟨hne, h⟩
    · cases he
    · obtain ⟨a, cap, g1, g2, g3, g4⟩ := hw.lst i l e s h
      refine ⟨a, cap, g1, g2, g3, fun hlt => ?_⟩
      obtain ⟨b1, arr1, k1, k0, k2, k3, k4, k5⟩ := g4 hlt
      have hne' : b1 ≠ b := fun e' => hne (hw.sep i id _ _ b1 h hH (by simp [G.blk, g1, hlt, k1]) (by rw [e']; exact .inl hb))
      exact ⟨b1, arr1, k1, k0, (ho b1 hne').trans k2, k3, k4, fun k x v hx hv => (k5 k x v hx hv).mono hev.pr⟩
  · intro i x hi
    rcases hget i _ hi with ⟨rfl, he⟩ | ⟨hne, h⟩
    · injection he with he; subst he
      exact ⟨b, hb, hφ hev, hPr, hPu⟩
    · obtain ⟨b1, q1, q2, q3, q4⟩ := hw.ob i x h
      have hne' : b1 ≠ b := fun e => hne (hw.sep i id _ _ b1 h hH (.inl q1) (by rw [e]; exact .inl hb))
      have hnu : ∀ b', g.υ i b' → b' ≠ b := fun b' hu e => hne (hw.sep i id _ _ b' h hH (.inr hu) (by rw [e]; exact .inl hb))
      exact ⟨b1, q1, x.st hev.w rfl rfl (ho b1 hne') (fun b' hu => ho b' (hnu b' hu)) q2, q3, q4⟩
  · intro i hi
    refine hw.free i ?_
    rcases hi with hi | hi
    · rcases hget i _ hi with ⟨_, he⟩ | ⟨_, h⟩
      · cases he
      · exact .inl h
    · exact .inr (by simpa using hi)
end

/-! ### maps -/
def mfind {κ ν : Type} [DecidableEq κ] : List (κ × ν) → κ → Option Nat
  | [], _ => none
  | x :: m, k => if k = x.1 then some 0 else (mfind m k).map (· + 1)
def mget {κ ν : Type} [DecidableEq κ] (m : List (κ × ν)) (k : κ) : Option ν := (mfind m k).bind fun j => (m[j]?).map (·.2)
def mput {κ ν : Type} [DecidableEq κ] (m : List (κ × ν)) (k : κ) (v : ν) : List (κ × ν) := match mfind m k with
  | some j => m.set j (k, v)
  | none => m ++ [(k, v)]
theorem mfind_lt {κ ν : Type} [DecidableEq κ] {k : κ} : ∀ {m : List (κ × ν)} {j : Nat}, mfind m k = some j → ∃ x, m[j]? = some x ∧ x.1 = k
  | x :: m, j, h => by
    unfold mfind at h
    split at h
    · rename_i e
      injection h with h; subst h
      exact ⟨x, rfl, e.symm⟩
    · cases hm : mfind m k with
      | none => rw [hm] at h; cases h
      | some i =>
        rw [hm] at h
        simp only [Option.map_some, Option.some.injEq] at h
        subst h
        obtain ⟨y, h1, h2⟩ := mfind_lt hm
        exact ⟨y, by simpa using h1, h2⟩

/-- Keys of a map as data. -/
structure KeyF (P : Program) (kt : TypeId) {κ : Type} [DecidableEq κ] (fk : κ → D) (kv : κ → Value) (d : TypeDesc) : Prop where
  ty : P.underlying kt = some d
  isk : ∀ x, MapKept.IsKey d (kv x)
  rep : ∀ {Pr : Nat → Nat → Prop} {w : World} {x : κ} {v : Value}, RepD Pr w (fk x) v → v = kv x
  mkr : ∀ {Pr : Nat → Nat → Prop} {w : World} {x : κ}, RepD Pr w (fk x) (kv x)
  same : ∀ x y, Instr.sameNow d (kv x) (kv y) = some (decide (x = y))
theorem keyInt {P : Program} {kt : TypeId} {k : IntKind} (h : P.underlying kt = some (.int k)) : KeyF P kt (D.int k) (fun n => .int k n) (.int k) where
  ty := h
  isk := fun _ => rfl
  rep := fun h => by cases h; rfl
  mkr := .int _ _
  same := fun x y => by
    simp only [Instr.sameNow, if_pos]
    congr 1

/-- The entries of a map, the first that came first. -/
def MapAt (Pr : Nat → Nat → Prop) (w : World) (b : Nat) (M : List (D × D)) : Prop :=
  ∃ es : Array MapEntry, w.heap[b]? = some (.map es M.length) ∧ es.size = M.length ∧ ∀ (i : Nat) x e, M[i]? = some x → es[i]? = some e → e.born = i ∧ RepD Pr w x.1 e.key ∧ RepD Pr w x.2 e.val
def mpO (M : List (D × D)) : OB where
  φ := fun g w _ b => MapAt g.Pr w b M
  st := fun {g g' w w' _ b} he _ _ hb _ h => by
    obtain ⟨es, h1, h2, h3⟩ := h
    exact ⟨es, hb.trans h1, h2, fun i x e hx hv => by
      obtain ⟨k1, k2, k3⟩ := h3 i x e hx hv
      exact ⟨k1, k2.mono he.pr, k3.mono he.pr⟩⟩
  fr := true
  fre := fun _ {g g' w i j b} hP _ _ h => by rw [hP]; exact h
theorem obR_mp {S : List Nat} {M : List (D × D)} : ObR S (mpO M) (mpO M) := fun _ h => h

section
variable {P : Program} {ρ : Operand → V} {H : List HE} {ty : TypeId} {κ ν : Type} [DecidableEq κ] {fk : κ → D} {fv : ν → D} {kv : κ → Value} {d : TypeDesc}
theorem Is.mp {x : Operand} {id : Nat} {g : G} {w : World} {r : Operand → Value} (hx : Is (ρ x) (.mp id)) (h : Rep g w (ρ x) (r x)) : ∃ b, g.σ id = some b ∧ r x = .map (some b) := by
  have := hx.rep h
  generalize hr : r x = v at this
  cases this with
  | mp hb => exact ⟨_, hb, rfl⟩
theorem find_map {Pr : Nat → Nat → Prop} {w : World} {kt : TypeId} (hK : KeyF P kt fk kv d) (k : κ) : ∀ (m : List (κ × ν)) (es : List MapEntry) (i : Nat), es.length = m.length →
    (∀ (j : Nat) x e, m[j]? = some x → es[j]? = some e → RepD Pr w (fk x.1) e.key) →
    Instr.findNow d (kv k) es i = some (match mfind m k with | some j => (es[j]?).map fun e => (i + j, e.val) | none => none)
  | [], [], i, _, _ => rfl
  | x :: m, e :: es, i, hl, h => by
    have hk := hK.rep (h 0 x e rfl rfl)
    unfold Instr.findNow mfind
    rw [hk, hK.same]
    by_cases he : k = x.1
    · simp [he]
    · rw [decide_eq_false he, if_neg he]
      have := find_map hK k m es (i + 1) (by simpa using hl) (fun j y e' h1 h2 => h (j + 1) y e' (by simpa using h1) (by simpa using h2))
      simp only [this]
      cases mfind m k with
      | none => rfl
      | some j =>
        simp only [Option.map_some, List.getElem?_cons_succ]
        rw [show i + 1 + j = i + (j + 1) by omega]
theorem run_find {w : World} {kt : TypeId} {es : Array MapEntry} {Pr : Nat → Nat → Prop} {m : List (κ × ν)} (hK : KeyF P kt fk kv d) (k : κ) (h2 : es.size = m.length)
    (h3 : ∀ (i : Nat) x e, (m.map fun q => (fk q.1, fv q.2))[i]? = some x → es[i]? = some e → e.born = i ∧ RepD Pr w x.1 e.key ∧ RepD Pr w x.2 e.val) :
    (Instr.findKey kt (kv k) es.toList).run P w = .ok (match mfind m k with | some j => (es[j]?).map fun e => (j, e.val) | none => none) w := by
  refine MapKept.run_findKey hK.ty ?_
  rw [find_map (Pr := Pr) (w := w) hK k m es.toList 0 (by simpa using h2) (fun j x e h1 h4 => (h3 j (fk x.1, fv x.2) e (by rw [List.getElem?_map, h1]; rfl) (by simpa using h4)).2.1)]
  cases mfind m k with
  | none => rfl
  | some j => simp

theorem op_makeMap {t : TypeId} {n : Nat} (hn : H.length = n) : OpV P (.makeMap t none) ty ρ H (.mp n) (H ++ [.ob (mpO [])]) := by
  subst hn
  intro g w r pos after guard dst hw _
  obtain ⟨g', h1, h2, h3⟩ := hw.addFree.newOb (id := H.length) (x0 := mpO []) (o0 := .map #[] 0) (by simp) (fun g' w' _ h => ⟨#[], h, rfl, fun i x e hx => by simp at hx⟩)
  rw [set_last] at h1
  unfold OpRuns
  simp [execOp, Instr.makeMap]
  exact ⟨g', h1, h2, .mp h3⟩
theorem op_lookup {x y : Operand} {t kt et : TypeId} {id : Nat} {m : List (κ × ν)} {k : κ} {z : ν} {zv : Value} (hK : KeyF P kt fk kv d) (ht : P.underlying t = some (.map kt et)) (hx : Is (ρ x) (.mp id)) (hy : As (ρ y) (fk k))
    (hH : H[id]? = some (.ob (mpO (m.map fun q => (fk q.1, fv q.2))))) (hz : ∃ i, P.info? et = some i ∧ i.zero = some zv) (hzv : ∀ Pr w, RepD Pr w (fv z) zv) :
    OpV P (.lookup t x y false) ty ρ H (.d (fv ((mget m k).getD z))) H :=
  OpV.of_val fun g w r hw h => by
    obtain ⟨b, hb, hr⟩ := hx.mp (h x (by simp [Op.operands]))
    have hk := hK.rep (hy.rep (h y (by simp [Op.operands])))
    obtain ⟨b', f1, ⟨es, e1, e2, e3⟩, f3, _⟩ := hw.ob id _ hH
    obtain rfl : b = b' := by rw [hb] at f1; exact Option.some.inj f1
    obtain ⟨inf, z1, z2⟩ := hz
    have hf := run_find (P := P) (Pr := g.Pr) (w := w) (fv := fv) hK k (by simpa using e2) e3
    simp only [List.length_map] at e1 e2
    have hc : ∀ em, (Instr.checkKey em 10000 kt (kv k)).run P w = .ok () w := fun em => MapKept.run_checkKey hK.ty (hK.isk k) em 9999
    unfold mget
    cases hm : mfind m k with
    | none =>
      rw [hm] at hf
      refine ⟨zv, fun _ _ _ _ => ?_, .d (hzv _ _)⟩
      simp [execOp, hr, hk, Instr.lookup, run_underlying ht, MapKept.run_getObj_map e1, hc, hf, Result.andThen, zeroValue, typeInfo, z1, z2]
    | some j =>
      rw [hm] at hf
      obtain ⟨q, q1, q2⟩ := mfind_lt hm
      have hj : j < es.size := by rw [e2]; exact (List.getElem?_eq_some_iff.1 q1).1
      have he : es[j]? = some es[j] := by simp [hj]
      refine ⟨es[j].val, fun _ _ _ _ => ?_, ?_⟩
      · simp only [he, Option.map_some] at hf
        simp [execOp, hr, hk, Instr.lookup, run_underlying ht, MapKept.run_getObj_map e1, hc, hf, Result.andThen]
      · simp only [Option.bind_some, q1, Option.map_some, Option.getD_some]
        exact .d (e3 j _ _ (by simp [q1]; rfl) he).2.2
theorem op_mapUpdate {x y u : Operand} {t kt et : TypeId} {id : Nat} {m : List (κ × ν)} {k : κ} {v : ν} (hK : KeyF P kt fk kv d) (ht : P.underlying t = some (.map kt et)) (hx : Is (ρ x) (.mp id)) (hy : As (ρ y) (fk k)) (hu : As (ρ u) (fv v))
    (hH : H[id]? = some (.ob (mpO (m.map fun q => (fk q.1, fv q.2))))) :
    OpV P (.mapUpdate t x y u) ty ρ H .any (H.set id (.ob (mpO ((mput m k v).map fun q => (fk q.1, fv q.2))))) := by
  intro g w r pos after guard dst hw h
  obtain ⟨b, hb, hr⟩ := hx.mp (h x (by simp [Op.operands]))
  have hk := hK.rep (hy.rep (h y (by simp [Op.operands])))
  have hv := hu.rep (h u (by simp [Op.operands]))
  obtain ⟨b', f1, ⟨es, e1, e2, e3⟩, f3, _⟩ := hw.ob id _ hH
  obtain rfl : b = b' := by rw [hb] at f1; exact Option.some.inj f1
  have hf := run_find (P := P) (Pr := g.Pr) (w := w) (fv := fv) hK k (by simpa using e2) e3
  simp only [List.length_map] at e1 e2
  have hc : (Instr.checkKey false 10000 kt (kv k)).run P w = .ok () w := MapKept.run_checkKey hK.ty (hK.isk k) false 9999
  have hst : (Instr.keyThatStays (kv k) (kv k)).run P w = .ok (kv k) w := MapKept.run_keyThatStays (hK.isk k)
  have hbl : b < w.heap.size := (Array.getElem?_eq_some_iff.1 e1).1
  have fin : ∀ o', (mpO ((mput m k v).map fun q => (fk q.1, fv q.2))).φ g { w with heap := w.heap.setIfInBounds b o' } id b →
      ∃ g', WOK g' { w with heap := w.heap.setIfInBounds b o' } (H.set id (.ob (mpO ((mput m k v).map fun q => (fk q.1, fv q.2))))) ∧ Evo g w g' { w with heap := w.heap.setIfInBounds b o' } ∧ Rep g' { w with heap := w.heap.setIfInBounds b o' } .any undef := fun o' hφ => by
    obtain ⟨k1, k2⟩ := hw.setOb (w' := { w with heap := w.heap.setIfInBounds b o' }) hH hb ⟨rfl, rfl, rfl⟩ (by simp) (fun b' hne => by
      show (w.heap.setIfInBounds b o')[b']? = _
      rw [Array.getElem?_setIfInBounds_ne (Ne.symm hne)]) (fun _ => hφ)
    exact ⟨g, k1, k2, .any⟩
  have hev : ∀ o', ∀ b' o, g.Pr b' o → g.Pr b' o ∧ World.cell? { w with heap := w.heap.setIfInBounds b o' } ⟨b', o, none⟩ = w.cell? ⟨b', o, none⟩ := fun o' b' o hp => ⟨hp, by
    have hne : b' ≠ b := fun e => by subst e; exact f3 o hp
    simp [World.cell?, Array.getElem?_setIfInBounds_ne (Ne.symm hne)]⟩
  unfold OpRuns
  cases hm : mfind m k with
  | none =>
    rw [hm] at hf
    simp [execOp, hr, hk, Instr.mapUpdate, run_underlying ht, MapKept.run_getObj_map e1, hc, hf, Result.andThen, MapKept.run_setObj_map _ e1]
    refine fin _ ⟨es.push ⟨kv k, r u, m.length⟩, ?_, ?_, ?_⟩
    · simp [mput, hm, hbl]
    · simp [mput, hm, e2]
    · intro i x e hx he
      simp only [mput, hm, List.map_append, List.map_cons, List.map_nil] at hx
      by_cases hi : i < m.length
      · rw [List.getElem?_append_left (by simpa using hi)] at hx
        rw [Array.getElem?_push, if_neg (by omega)] at he
        obtain ⟨q1, q2, q3⟩ := e3 i x e hx he
        exact ⟨q1, q2.mono (hev _), q3.mono (hev _)⟩
      · rw [List.getElem?_append_right (by simpa using hi)] at hx
        have hi0 : i - m.length = 0 := by
          have := (List.getElem?_eq_some_iff.1 hx).1
          simp at this; omega
        have : i = m.length := by omega
        subst this
        simp only [List.length_map, Nat.sub_self, List.getElem?_cons_zero, Option.some.injEq] at hx
        subst hx
        rw [Array.getElem?_push, if_pos e2.symm] at he
        injection he with he; subst he
        exact ⟨rfl, hK.mkr, hv.mono (hev _)⟩
  | some j =>
    rw [hm] at hf
    obtain ⟨q, q1, q2⟩ := mfind_lt hm
    have hj : j < es.size := by rw [e2]; exact (List.getElem?_eq_some_iff.1 q1).1
    have hje : es[j]? = some es[j] := by simp [hj]
    have hjk : es[j].key = kv k := by
      have := hK.rep (e3 j _ _ (by simp [q1]; rfl) hje).2.1
      rw [this, q2]
    simp only [hje, Option.map_some] at hf
    simp [execOp, hr, hk, Instr.mapUpdate, run_underlying ht, MapKept.run_getObj_map e1, hc, hf, Result.andThen, MapKept.run_setObj_map _ e1, hje, hjk, hst]
    refine fin _ ⟨es.modify j fun e => { e with key := kv k, val := r u }, ?_, ?_, ?_⟩
    · simp [mput, hm, hbl]
    · simp [mput, hm, e2]
    · intro i x e hx he
      simp only [mput, hm, List.map_set] at hx
      rw [Array.getElem?_modify] at he
      by_cases hij : j = i
      · subst hij
        rw [if_pos rfl, hje] at he
        rw [List.getElem?_set_self (by simpa [e2] using hj)] at hx
        injection hx with hx; subst hx
        simp only [Option.map_some, Option.some.injEq] at he
        subst he
        exact ⟨(e3 j _ _ (by simp [q1]; rfl) hje).1, hK.mkr, hv.mono (hev _)⟩
      · rw [if_neg hij] at he
        rw [List.getElem?_set_ne hij] at hx
        obtain ⟨q1, q2, q3⟩ := e3 i x e hx he
        exact ⟨q1, q2.mono (hev _), q3.mono (hev _)⟩
end
end Go.Proofs.YtlbiooppadlolaaGreatDoor.Ab
end
