/- Plain laws, joined. Conditions: none. -/
import Derived.Test.YtkdefjliknpliaaGreatDoorAb17
namespace Go.Proofs.YtkdefjliknpliaaGreatDoor.Ab
section
/- Lists that are written in place and grow as well. Conditions: none. -/
open Go

/-- A list under a new number. -/
theorem WOK.moveLst {g : G} {w : World} {H : List HE} {id n s : Nat} {l : List D} {e : TypeId} (hw : WOK g w H) (hH : H[id]? = some (.lst l e s)) (hn : H[n]? = some .free) :
    ∃ g', WOK g' w ((H.set id .dead).set n (.lst l e s)) ∧ Evo g w g' w ∧ g'.τ n = g.τ id ∧ g'.σ n = g.σ id ∧ g'.Pr = g.Pr ∧ g'.τ id = g.τ id := by
  have hidlt : id < H.length := (List.getElem?_eq_some_iff.1 hH).1
  have hnlt : n < H.length := (List.getElem?_eq_some_iff.1 hn).1
  have hne : n ≠ id := fun h => by subst h; rw [hH] at hn; cases hn
  obtain ⟨hfσ, hfτ, hfυ⟩ := hw.free n (.inl hn)
  let g' : G := { σ := fun i => if i = n then g.σ id else g.σ i, τ := fun i => if i = n then g.τ id else g.τ i, υ := g.υ, X := g.X, Pr := g.Pr }
  have hσ' : ∀ i, i ≠ n → g'.σ i = g.σ i := fun i h => by simp [g', h]
  have hτ' : ∀ i, i ≠ n → g'.τ i = g.τ i := fun i h => by simp [g', h]
  have hev : Evo g w g' w := {
    same := ⟨rfl, rfl, rfl⟩
    size := Nat.le_refl _
    pr := fun b o hp => ⟨hp, rfl⟩
    prn := fun b o h => .inl h
    x := fun b h => .inl h
    keep := fun b _ _ => rfl
    σ := fun i b h => by
      have : i ≠ n := fun e => by subst e; rw [hfσ] at h; cases h
      rw [hσ' i this]; exact h
    τ := fun i m a cap h => by
      have : i ≠ n := fun e => by subst e; rw [hfτ] at h; cases h
      exact ⟨m, a, cap, by rw [hτ' i this]; exact h, .inr ⟨rfl, rfl, rfl⟩⟩ }
  have hget : ∀ (i : Nat) x, ((H.set id .dead).set n (.lst l e s))[i]? = some x → (i = n ∧ x = .lst l e s) ∨ (i = id ∧ x = .dead) ∨ (i ≠ n ∧ i ≠ id ∧ H[i]? = some x) := by
    intro i x he
    by_cases hi : i = n
    · subst hi; rw [List.getElem?_set_self (by simpa using hnlt)] at he; exact .inl ⟨rfl, (Option.some.inj he).symm⟩
    · rw [List.getElem?_set_ne (Ne.symm hi)] at he
      by_cases hi2 : i = id
      · subst hi2; rw [List.getElem?_set_self hidlt] at he; exact .inr (.inl ⟨rfl, (Option.some.inj he).symm⟩)
      · rw [List.getElem?_set_ne (Ne.symm hi2)] at he; exact .inr (.inr ⟨hi, hi2, he⟩)
  have hblk : ∀ (i : Nat) x b, ((H.set id .dead).set n (.lst l e s))[i]? = some x → g'.blk i x b → ∃ j, H[j]? = some x ∧ g.blk j x b ∧ ((i = n ∧ j = id) ∨ (i ≠ n ∧ j = i ∧ i ≠ id)) := by
    intro i x b he hb
    rcases hget i x he with ⟨rfl, rfl⟩ | ⟨rfl, rfl⟩ | ⟨h1, h2, h3⟩
    · exact ⟨id, hH, by simpa [G.blk, g'] using hb, .inl ⟨rfl, rfl⟩⟩
    · simp [G.blk] at hb
    · refine ⟨i, h3, ?_, .inr ⟨h1, rfl, h2⟩⟩
      cases x <;> simp only [G.blk, hσ' i h1, hτ' i h1] at hb ⊢ <;> exact hb
  refine ⟨g', ⟨hw.pr, hw.xs, ?_, ?_, ?_, ?_, ?_, ?_, ?_, hw.kc⟩, hev, by simp [g'], by simp [g'], rfl, hτ' id (Ne.symm hne)⟩
  · intro i x b he hb
    obtain ⟨j, h1, h2, _⟩ := hblk i x b he hb
    exact hw.blk j x b h1 h2
  · intro i i' x x' b he he' hb hb'
    obtain ⟨j, h1, h2, h3⟩ := hblk i x b he hb
    obtain ⟨j', h4, h5, h6⟩ := hblk i' x' b he' hb'
    have := hw.sep j j' x x' b h1 h4 h2 h5
    omega
  · intro i c he
    rcases hget i _ he with ⟨_, h⟩ | ⟨_, h⟩ | ⟨h1, h2, h3⟩
    · cases h
    · cases h
    · obtain ⟨b1, arr1, et1, k1, k2, k3, k4, k5⟩ := hw.row i c h3
      exact ⟨b1, arr1, et1, by rw [hσ' i h1]; exact k1, k2, k3, fun k x v hx hv => (k4 k x v hx hv).mono hev, k5⟩
  · intro i m e1 s1 he
    rcases hget i _ he with ⟨_, h⟩ | ⟨_, h⟩ | ⟨h1, h2, h3⟩
    · cases h
    · cases h
    · obtain ⟨a, cap, k1, k2⟩ := hw.tok i m e1 s1 h3
      exact ⟨a, cap, by rw [hτ' i h1]; exact k1, k2⟩
  · intro i l1 e1 s1 he
    rcases hget i _ he with ⟨rfl, h⟩ | ⟨_, h⟩ | ⟨h1, h2, h3⟩
    · injection h with q1 q2 q3
      subst q1; subst q2; subst q3
      obtain ⟨a, cap, k1, k2, k3, k4⟩ := hw.lst id l1 e1 s1 hH
      refine ⟨a, cap, by simp [g', k1], k2, k3, fun hc => ?_⟩
      obtain ⟨b, arr, p1, p2, p3⟩ := k4 hc
      exact ⟨b, arr, p1, by simp [g', p2], p3⟩
    · cases h
    · obtain ⟨a, cap, k1, k2, k3, k4⟩ := hw.lst i l1 e1 s1 h3
      refine ⟨a, cap, by rw [hτ' i h1]; exact k1, k2, k3, fun hc => ?_⟩
      obtain ⟨b, arr, p1, p2, p3⟩ := k4 hc
      exact ⟨b, arr, p1, by rw [hσ' i h1]; exact p2, p3⟩
  · intro i x he
    rcases hget i _ he with ⟨_, h⟩ | ⟨_, h⟩ | ⟨h1, h2, h3⟩
    · cases h
    · cases h
    · obtain ⟨b1, k1, k2, k3, k4⟩ := hw.ob i x h3
      exact ⟨b1, by rw [hσ' i h1]; exact k1, x.st hev.w (hτ' i h1) rfl rfl (fun _ _ => rfl) k2, k3, k4⟩
  · intro i hi
    have h1 : i ≠ n := by
      rintro rfl
      rcases hi with hi | hi
      · rw [List.getElem?_set_self (by simpa using hnlt)] at hi; cases hi
      · simp at hi; omega
    rw [hσ' i h1, hτ' i h1]
    refine hw.free i ?_
    rcases hi with hi | hi
    · rcases hget i _ hi with ⟨_, h⟩ | ⟨_, h⟩ | ⟨_, _, h⟩
      · cases h
      · cases h
      · exact .inl h
    · exact .inr (by simpa using hi)

/-- A list is let go. -/
theorem WOK.kill {g : G} {w : World} {H : List HE} {id : Nat} {e0 : HE} (hw : WOK g w H) (hH : H[id]? = some e0) (_h0 : e0 ≠ .free) : WOK g w (H.set id .dead) := by
  have hidlt : id < H.length := (List.getElem?_eq_some_iff.1 hH).1
  have hget : ∀ (i : Nat) x, (H.set id .dead)[i]? = some x → x = .dead ∨ H[i]? = some x := by
    intro i x he
    by_cases hi : i = id
    · subst hi; rw [List.getElem?_set_self hidlt] at he; exact .inl (Option.some.inj he).symm
    · rw [List.getElem?_set_ne (Ne.symm hi)] at he; exact .inr he
  refine ⟨hw.pr, hw.xs, ?_, ?_, ?_, ?_, ?_, ?_, ?_, hw.kc⟩
  · intro i x b he hb
    rcases hget i x he with rfl | h
    · simp [G.blk] at hb
    · exact hw.blk i x b h hb
  · intro i i' x x' b he he' hb hb'
    rcases hget i x he with rfl | h
    · simp [G.blk] at hb
    · rcases hget i' x' he' with rfl | h'
      · simp [G.blk] at hb'
      · exact hw.sep i i' x x' b h h' hb hb'
  · intro i c he
    rcases hget i _ he with h | h
    · cases h
    · exact hw.row i c h
  · intro i m e1 s1 he
    rcases hget i _ he with h | h
    · cases h
    · exact hw.tok i m e1 s1 h
  · intro i l e1 s1 he
    rcases hget i _ he with h | h
    · cases h
    · exact hw.lst i l e1 s1 h
  · intro i x he
    rcases hget i _ he with h | h
    · cases h
    · exact hw.ob i x h
  · intro i hi
    refine hw.free i ?_
    rcases hi with hi | hi
    · rcases hget i _ hi with h | h
      · cases h
      · exact .inl h
    · exact .inr (by simpa using hi)

section
variable {P : Program} {ρ : Operand → V} {H : List HE} {ty : TypeId}

theorem set_last2 (H : List HE) (id : Nat) (e : HE) (h : id < H.length) : (((H ++ [HE.free]).set id .dead).set H.length e) = (H.set id .dead) ++ [e] := by
  rw [List.set_append_left _ _ h]
  have : (H.set id HE.dead).length = H.length := by simp
  rw [← this, set_last]

/-- 'append' to a list that is written in place: it lies where it lay, or elsewhere; it has a new number. -/
theorem op_appendH {x y : Operand} {t e s bytes id n len : Nat} {l l' : List D} (ht : SlT P t e s bytes) (hx : Is (ρ x) (.hs id 0 len s)) (hy : As (ρ y) (.sl l')) (hH : H[id]? = some (.lst l e s)) (hll : l.length = len) (hn : H.length = n)
    (hs : ∀ x ∈ l ++ l', x.cells.length = s) (hone : ∀ x ∈ l', ∀ y ∈ x.cells, y.one = true) (hbytes : (l ++ l').length * bytes ≤ 140737488355328) (hlen : (l ++ l').length ≤ 4611686018427387904) :
    OpV P (.call ⟨.builtin .append, #[x, y], #[t, t]⟩) ty ρ H (.hs n 0 (l ++ l').length s) (H.set id .dead ++ [.lst (l ++ l') e s]) := by
  subst hn; subst hll
  intro g w r pos after guard dst hw h
  have h1 := hx.rep (h x (by simp [Op.operands, Call.operands]))
  have h2 := hy.rep (h y (by simp [Op.operands, Call.operands]))
  have hidlt : id < H.length := (List.getElem?_eq_some_iff.1 hH).1
  obtain ⟨a, cap, k1, k2, k3, k4⟩ := hw.lst id l e s hH
  generalize hrx : r x = vx at h1
  cases h1 with
  | @hs _ _ _ _ m cap' n0 c0 a' a0 p1 p2 =>
    rw [k1] at p1; injection p1 with p1; injection p1 with p1 p3; injection p3 with p3 p4
    obtain ⟨q1, q2, q3, _⟩ := hs0 (p2 p1.symm)
    subst q1; subst q3; subst p3; subst p4; subst q2
    have hH1 : (H ++ [HE.free])[id]? = some (.lst l e s) := by rw [List.getElem?_append_left hidlt]; exact hH
    have hfr : (H ++ [HE.free])[H.length]? = some .free := by simp
    suffices hgoal : ∃ rv w' g', (Builtin.append_ #[t, t] ty #[.slice a l.length cap, r y]).run P w = .ok rv w' ∧ WOK g' w' (((H ++ [HE.free]).set id .dead).set H.length (.lst (l ++ l') e s)) ∧ Evo g w g' w' ∧ Rep g' w' (.hs H.length 0 (l ++ l').length s) rv by
      obtain ⟨rv, w', g', e1, e2, e3, e4⟩ := hgoal
      unfold OpRuns
      have : (execOp r ⟨dst, .call ⟨.builtin .append, #[x, y], #[t, t]⟩, ty, pos, after, guard⟩).run P w = .ok (.value rv) w' := by
        simp [execOp, resolve, invoke, builtin, hrx, e1]
      rw [this]
      rw [set_last2 _ _ _ hidlt] at e2
      exact ⟨g', e2, e3, e4⟩
    by_cases hl0 : l' = []
    · subst hl0
      obtain ⟨a', cap', hra, _⟩ := slice_form h2
      rw [hra]
      obtain ⟨g', w1, w2, w3, _⟩ := hw.addFree.moveLst hH1 hfr
      refine ⟨_, w, g', append_none_run ht k2, by simpa using w1, w2, ?_⟩
      rw [List.append_nil]
      exact .hs (w3.trans k1) (fun _ => ⟨rfl, rfl, rfl, k2⟩)
    · have hlpos : 0 < l'.length := List.length_pos_iff.2 hl0
      obtain ⟨ie, z, hie, hsz, hby, hz1, hz2⟩ := ht.i
      have hsl : ∀ x ∈ l, x.cells.length = s := fun x hx => hs x (by simp [hx])
      have hsl' : ∀ x ∈ l', x.cells.length = s := fun x hx => hs x (by simp [hx])
      obtain ⟨b', o', cap', f', hra, _, hk', hrep', hone'⟩ := h2.slCells hsl' hone hl0
      rw [hra]
      have fl := flat_length hsl
      have hnews : ∀ (j : Nat) v, ((List.range (l'.length * s)).map f')[j]? = some v → w.cell? ((⟨b', o', none⟩ : Addr).add j) = some v := by
        intro j v hv
        have hj : j < l'.length * s := by
          have := (List.getElem?_eq_some_iff.1 hv).1; simpa using this
        rw [range_map_get _ _ _ hj] at hv
        rw [Addr.add_none, (hk' j hj).2]; exact hv
      have hone1 : ∀ u ∈ (List.range (l'.length * s)).map f', u.oneCell' = true := by
        intro u hu
        simp only [List.mem_map, List.mem_range] at hu
        obtain ⟨k, hk, rfl⟩ := hu
        exact hone' k hk
      have hmul : (l.length + l'.length) * s = l.length * s + l'.length * s := Nat.add_mul _ _ _
      -- contents of a row that begins with the old cells and the new ones
      have cont : ∀ (arr2 : List Value), (∀ (k : Nat) x v, (D.flat l)[k]? = some x → arr2[k]? = some v → RepD g.Pr w x v) → (∀ (k : Nat), k < l'.length * s → arr2[l.length * s + k]? = some (f' k)) →
          ∀ (k : Nat) x v, (D.flat (l ++ l'))[k]? = some x → arr2[k]? = some v → RepD g.Pr w x v := by
        intro arr2 c1 c2 k x v hx hv
        rw [flat_append] at hx
        by_cases hkl : k < l.length * s
        · rw [List.getElem?_append_left (by omega)] at hx
          exact c1 k x v hx hv
        · rw [List.getElem?_append_right (by omega), fl] at hx
          have hk2 : k - l.length * s < l'.length * s := by
            have := (List.getElem?_eq_some_iff.1 hx).1
            rw [flat_length hsl'] at this; exact this
          have := c2 (k - l.length * s) hk2
          rw [show l.length * s + (k - l.length * s) = k by omega, hv] at this
          injection this with this; subst this
          exact hrep' _ x hx
      by_cases hroom : l.length + l'.length ≤ cap
      · obtain ⟨b, arr, rfl, hσ, hb, harr, hPr, hcon⟩ := k4 (by omega)
        have hfit : l.length * s + l'.length * s ≤ arr.size := by
          rw [harr, ← hmul]; exact Nat.mul_le_mul_right _ hroom
        have hrun := run_append_room (P := P) w t ty e ie ht.u hie b l.length cap arr hb ⟨b', o', none⟩ l'.length cap' ((List.range (l'.length * s)).map f') (by simp [hsz]) hnews hone1 hroom (by rw [hsz]; simpa using hfit)
        rw [hsz] at hrun
        obtain ⟨g1, w1, w2, w3, w4, w5, _⟩ := hw.addFree.moveLst hH1 hfr
        have key := WOK.storeLst (w' := w.setRow b (arr.toList.take (l.length * s) ++ (List.range (l'.length * s)).map f' ++ arr.toList.drop (l.length * s + ((List.range (l'.length * s)).map f').length)).toArray) (l' := l ++ l')
          (arr' := (arr.toList.take (l.length * s) ++ (List.range (l'.length * s)).map f' ++ arr.toList.drop (l.length * s + ((List.range (l'.length * s)).map f').length)).toArray) (cap := cap) (b := b) w1 (id := H.length) (by rw [List.getElem?_set_self (by simp)]) (w3.trans k1) (by omega) (w4.trans hσ)
          ⟨rfl, rfl, rfl⟩ (setRow_size w b _) (setRow_heap w b arr _ e _ hb) (fun b'' hne => setRow_other w b b'' _ hne) (by simpa using hroom) (by simp; omega)
          (by
            rw [w5]
            intro k x v hx hv
            rw [List.getElem?_toArray] at hv
            refine cont _ (fun k x v hx hv => ?_) (fun k hk => ?_) k x v hx hv
            · have hkl : k < l.length * s := by rw [← fl]; exact (List.getElem?_eq_some_iff.1 hx).1
              rw [List.append_assoc, List.getElem?_append_left (by simp; omega), List.getElem?_take, if_pos hkl, Array.getElem?_toList] at hv
              exact hcon k x v hx hv
            · rw [List.append_assoc, List.getElem?_append_right (by simp; omega), List.getElem?_append_left (by simp; omega)]
              have : l.length * s + k - (List.take (l.length * s) arr.toList).length = k := by simp; omega
              rw [this]; exact range_map_get f' _ _ hk)
        refine ⟨_, _, g1, hrun, ?_, w2.trans key.2, ?_⟩
        · have := key.1
          rwa [List.set_set] at this
        · exact .hs (w3.trans k1) (fun _ => ⟨rfl, by simp, rfl, by simpa using hroom⟩)
      · simp only [List.length_append] at hbytes hlen
        let need := l.length + l'.length
        let C := grownCap w need cap e
        have hC : need ≤ C := grownCap_ge w need cap e
        have hC2 : C ≤ 9223372036854775807 := by
          have := grownCap_le_maxLen w need cap e (by simp only [maxLen]; omega)
          simpa [maxLen] using this
        have hgrow : cap < l.length + l'.length := by omega
        obtain ⟨olds, hol, hrun, hf2⟩ : ∃ (olds : List Value), olds.length = l.length * s ∧
            (Builtin.append_ #[t, t] ty #[.slice a l.length cap, .slice (some ⟨b', o', none⟩) l'.length cap']).run P w =
              .ok (.slice (some ⟨w.heap.size, 0, none⟩) need C) (w.drew.alloc (.cells (olds.toArray ++ ((List.range (l'.length * s)).map f').toArray ++ Builtin.zeroCells z.cells (C - need)) e)) ∧
            (∀ (k : Nat) x v, (D.flat l)[k]? = some x → olds[k]? = some v → RepD g.Pr w x v) := by
          by_cases hc0 : cap = 0
          · have hln : l = [] := List.eq_nil_of_length_eq_zero (by omega)
            subst hln
            refine ⟨[], by simp, ?_, by simp [D.flat]⟩
            cases a with
            | none =>
              subst hc0
              have := run_append_nil (P := P) w t ty e ie z ht.u hie hz1 ⟨b', o', none⟩ l'.length cap' ((List.range (l'.length * s)).map f') (by simp [hsz]) hnews hlpos (by omega) (by rw [hby]; simp at hbytes; omega)
              simpa [need, C] using this
            | some ad =>
              have := run_append_grow (P := P) w t ty e ie z ht.u hie hz1 ad 0 cap [] (by simp) (by simp) ⟨b', o', none⟩ l'.length cap' ((List.range (l'.length * s)).map f') (by simp [hsz]) hnews
                (by simpa using hgrow) (by simp at hlen ⊢; omega) (growslice_fits (by simpa using hgrow) (by rw [hby]; simpa using hbytes))
              simpa [need, C] using this
          · obtain ⟨b, arr, rfl, hσ, hb, harr, hPr, hcon⟩ := k4 (by omega)
            have hfit : l.length * s ≤ arr.size := by rw [harr]; exact Nat.mul_le_mul_right _ k2
            refine ⟨arr.toList.take (l.length * s), by simp; omega, ?_, fun k x v hx hv => ?_⟩
            · have := run_append_grow (P := P) w t ty e ie z ht.u hie hz1 ⟨b, 0, none⟩ l.length cap (arr.toList.take (l.length * s)) (by simp [hsz]; omega) (fun j v hv => by
                rw [Addr.add_none, Nat.zero_add, cell_of_cells hb]
                rw [List.getElem?_take] at hv
                split at hv
                · rwa [Array.getElem?_toList] at hv
                · cases hv) ⟨b', o', none⟩ l'.length cap' ((List.range (l'.length * s)).map f') (by simp [hsz]) hnews
                (by simpa using hgrow) (by simp at hlen ⊢; omega) (growslice_fits (by simpa using hgrow) (by rw [hby]; simpa using hbytes))
              simpa [need, C] using this
            · have hkl : k < l.length * s := by rw [← fl]; exact (List.getElem?_eq_some_iff.1 hx).1
              rw [List.getElem?_take, if_pos hkl, Array.getElem?_toList] at hv
              exact hcon k x v hx hv
        have hkill := hw.addFree.kill hH1 (by simp)
        have hzs : (Builtin.zeroCells z.cells (C - need)).size = (C - need) * s := by simp [Builtin.zeroCells, hz2]
        obtain ⟨g', w1, w2, w3⟩ := hkill.newLst (w' := w.drew.alloc (.cells (olds.toArray ++ ((List.range (l'.length * s)).map f').toArray ++ Builtin.zeroCells z.cells (C - need)) e)) (id := H.length) (l := l ++ l') (s := s) (cap := C)
          (arr := olds.toArray ++ ((List.range (l'.length * s)).map f').toArray ++ Builtin.zeroCells z.cells (C - need)) (et := e) (by rw [List.getElem?_set_ne (by omega)]; exact hfr) ⟨rfl, rfl, rfl⟩ rfl (by simpa [need] using hC) hC2
          (by
            have hC' : C * s = (l.length * s + l'.length * s) + (C - need) * s := by
              rw [← hmul, ← Nat.add_mul]; congr 1; exact (Nat.add_sub_cancel' hC).symm
            simp only [Array.size_append, List.size_toArray, List.length_map, List.length_range, hol, hzs]
            omega)
          (by
            intro k x v hx hv
            rw [← Array.getElem?_toList] at hv
            refine cont _ (fun k x v hx hv => ?_) (fun k hk => ?_) k x v hx hv
            · have hkl : k < l.length * s := by rw [← fl]; exact (List.getElem?_eq_some_iff.1 hx).1
              simp only [Array.toList_append, List.append_assoc] at hv
              rw [List.getElem?_append_left (by omega)] at hv
              exact hf2 k x v hx hv
            · simp only [Array.toList_append, List.append_assoc]
              rw [List.getElem?_append_right (by omega), hol, Nat.add_sub_cancel_left, List.getElem?_append_left (by simpa using hk)]
              exact range_map_get f' _ _ hk)
        exact ⟨_, _, g', hrun, w1, w2, .hs w3 (fun _ => ⟨rfl, by simp [need], rfl, by simpa [need] using hC⟩)⟩

theorem op_appendHM {α : Type} {f : α → D} {l l' r : List α} {x y : Operand} {t e s bytes id n len : Nat} (ht : SlT P t e s bytes) (hx : Is (ρ x) (.hs id 0 len s)) (hy : As (ρ y) (.sl (l'.map f))) (hH : H[id]? = some (.lst (l.map f) e s)) (hl : l.length = len) (hn : H.length = n)
    (hf : En f s) (hv : app bytes l l' = some r) : OpV P (.call ⟨.builtin .append, #[x, y], #[t, t]⟩) ty ρ H (.hs n 0 r.length s) (H.set id .dead ++ [.lst (r.map f) e s]) := by
  unfold app at hv
  split at hv
  · rename_i h
    injection hv with hv; subst hv
    have := op_appendH (ty := ty) ht hx hy hH (by simpa using hl) hn (by rw [← List.map_append]; exact hf.szL _) (hf.oneL _) (by simp only [List.length_append, List.length_map]; exact h.1) (by simp only [List.length_append, List.length_map]; exact h.2)
    rw [← List.map_append, List.length_map] at this
    exact this
  · cases hv
end

/-- An empty list begins as one that is written in place. -/
theorem AW.lstize {F : FC} {Q : Exit → St → Prop} {c : Code} {E : Nat → V} {H : List HE} (t : Nat) (e : TypeId) (s : Nat) {n : Nat} (ht : E t = .ex []) (hn : H.length = n)
    (h : AW F c Q ⟨upd E t (.hs n 0 0 s), H ++ [.lst [] e s]⟩) : AW F c Q ⟨E, H⟩ := by
  subst hn
  rintro a w ⟨h1, h2, g, h3, h4, h5⟩
  have hr := h5 t
  simp only [ht] at hr
  generalize hv : a.tmps.getD t undef = v at hr
  cases hr with
  | @ex _ ad hd =>
    obtain ⟨hfσ, hfτ, hfυ⟩ := h3.free H.length (.inr (Nat.le_refl _))
    let g' : G := { σ := g.σ, τ := fun i => if i = H.length then some (0, ad, 0) else g.τ i, υ := g.υ, X := g.X, Pr := g.Pr }
    have hτ' : ∀ i, i ≠ H.length → g'.τ i = g.τ i := fun i h => by simp [g', h]
    have hτid : g'.τ H.length = some (0, ad, 0) := by simp [g']
    have hev : Evo g w g' w := {
      same := ⟨rfl, rfl, rfl⟩
      size := Nat.le_refl _
      pr := fun b o hp => ⟨hp, rfl⟩
      prn := fun b o h => .inl h
      x := fun b h => .inl h
      keep := fun b _ _ => rfl
      σ := fun i b h => h
      τ := fun i m a c h => by
        have : i ≠ H.length := fun e => by subst e; rw [hfτ] at h; cases h
        exact ⟨m, a, c, by rw [hτ' i this]; exact h, .inr ⟨rfl, rfl, rfl⟩⟩ }
    have hget : ∀ (i : Nat) x, (H ++ [HE.lst [] e s])[i]? = some x → (i = H.length ∧ x = .lst [] e s) ∨ (i ≠ H.length ∧ H[i]? = some x) := by
      intro i x hx
      by_cases hi : i < H.length
      · rw [List.getElem?_append_left hi] at hx; exact .inr ⟨by omega, hx⟩
      · rw [List.getElem?_append_right (by omega)] at hx
        have : i - H.length = 0 := by
          by_cases h0 : i - H.length = 0
          · exact h0
          · rw [List.getElem?_eq_none (by simp; omega)] at hx; cases hx
        rw [this] at hx
        exact .inl ⟨by omega, by simpa using hx.symm⟩
    have hblk : ∀ (i : Nat) x b, (H ++ [HE.lst [] e s])[i]? = some x → g'.blk i x b → H[i]? = some x ∧ g.blk i x b := by
      intro i x b hx hb
      rcases hget i x hx with ⟨rfl, rfl⟩ | ⟨hi, h⟩
      · simp [G.blk, hτid] at hb
      · refine ⟨h, ?_⟩
        cases x <;> simp only [G.blk, hτ' i hi] at hb ⊢ <;> exact hb
    refine h a w ⟨h1, h2, g', ⟨h3.pr, h3.xs, ?_, ?_, ?_, ?_, ?_, ?_, ?_, h3.kcE hev⟩, h4.trans hev, fun i => ?_⟩
    · intro i x b hx hb
      obtain ⟨k1, k2⟩ := hblk i x b hx hb
      exact h3.blk i x b k1 k2
    · intro i i' x x' b hx hx' hb hb'
      obtain ⟨k1, k2⟩ := hblk i x b hx hb
      obtain ⟨k3, k4⟩ := hblk i' x' b hx' hb'
      exact h3.sep i i' x x' b k1 k3 k2 k4
    · intro i c hx
      rcases hget i _ hx with ⟨_, h⟩ | ⟨hi, h⟩
      · cases h
      · obtain ⟨b1, arr1, et1, k1, k2, k3, k4, k5⟩ := h3.row i c h
        exact ⟨b1, arr1, et1, k1, k2, k3, fun k x v hx hv => (k4 k x v hx hv).mono hev, k5⟩
    · intro i m e1 s1 hx
      rcases hget i _ hx with ⟨_, h⟩ | ⟨hi, h⟩
      · cases h
      · obtain ⟨a, cap, k1, k2⟩ := h3.tok i m e1 s1 h
        exact ⟨a, cap, by rw [hτ' i hi]; exact k1, k2⟩
    · intro i l1 e1 s1 hx
      rcases hget i _ hx with ⟨rfl, h⟩ | ⟨hi, h⟩
      · injection h with q1 q2 q3
        subst q1; subst q2; subst q3
        exact ⟨ad, 0, hτid, by simp, by omega, fun h => by omega⟩
      · obtain ⟨a, cap, k1, k2⟩ := h3.lst i l1 e1 s1 h
        exact ⟨a, cap, by rw [hτ' i hi]; exact k1, k2⟩
    · intro i x hx
      rcases hget i _ hx with ⟨_, h⟩ | ⟨hi, h⟩
      · cases h
      · obtain ⟨b1, k1, k2, k3, k4⟩ := h3.ob i x h
        exact ⟨b1, k1, x.st hev.w (hτ' i hi) rfl rfl (fun _ _ => rfl) k2, k3, k4⟩
    · intro i hi
      have hne : i ≠ H.length ∧ (H[i]? = some .free ∨ H.length ≤ i) := by
        rcases hi with hi | hi
        · rcases hget i _ hi with ⟨_, h⟩ | ⟨h1, h⟩
          · cases h
          · exact ⟨h1, .inl h⟩
        · simp at hi; exact ⟨by omega, .inr (by omega)⟩
      rw [hτ' i hne.1]
      exact h3.free i hne.2
    · by_cases hi : i = t
      · subst hi
        simp only [upd_same, hv]
        exact .hs hτid (fun _ => ⟨rfl, rfl, rfl, Nat.le_refl _⟩)
      · simp only [upd_ne _ _ hi]; exact (h5 i).mono hev
end
section
/- What a function comes to over a small heap, it comes to over any heap that has these entries; and functions whose results lie in the heap. Conditions: none. -/
open Go

def V.rn1 (p : Nat → Nat) : V → V
  | .ptr i o => .ptr (p i) o
  | .tk i l => .tk (p i) l
  | .hs i o n s => .hs (p i) o n s
  | .mp i => .mp (p i)
  | v => v
def V.rn (p : Nat → Nat) : V → V
  | .fn f l => .fn f (l.map (V.rn1 p))
  | .agg l => .agg (l.map (V.rn1 p))
  | .tup l => .tup (l.map (V.rn1 p))
  | v => v.rn1 p
def V.flat1 : V → Bool
  | .fn _ _ | .agg _ | .tup _ | .when _ _ => false
  | _ => true
def V.simple : V → Bool
  | .fn _ l | .agg l | .tup l => l.all V.flat1
  | .when _ _ => false
  | _ => true
def HE.rn (p : Nat → Nat) : HE → HE
  | .row c => .row (c.map (V.rn p))
  | e => e
def HE.simple : HE → Bool
  | .row c => c.all V.simple
  | .ob x => x.fr
  | _ => true

theorem rn1_rep {p : Nat → Nat} {g g' : G} {w : World} (hσ : ∀ i, g'.σ (p i) = g.σ i) (hτ : ∀ i, g'.τ (p i) = g.τ i) (hP : g'.Pr = g.Pr) {v : V} {r : Value} (hs : v.flat1 = true) : Rep g w v r ↔ Rep g' w (v.rn1 p) r := by
  cases v <;> simp only [V.flat1, Bool.false_eq_true] at hs <;> simp only [V.rn1]
  case d => exact ⟨fun h => by cases h with | d h => exact .d (hP ▸ h), fun h => by cases h with | d h => exact .d (hP ▸ h)⟩
  case hs => exact ⟨fun h => by cases h with | hs h1 h2 => exact .hs ((hτ _).trans h1) h2, fun h => by cases h with | hs h1 h2 => exact .hs ((hτ _).symm.trans h1) h2⟩
  case ptr => exact ⟨fun h => by cases h with | ptr h1 => exact .ptr ((hσ _).trans h1), fun h => by cases h with | ptr h1 => exact .ptr ((hσ _).symm.trans h1)⟩
  case mp => exact ⟨fun h => by cases h with | mp h1 => exact .mp ((hσ _).trans h1), fun h => by cases h with | mp h1 => exact .mp ((hσ _).symm.trans h1)⟩
  case vp => exact ⟨fun h => by cases h with | vp h1 h2 => exact .vp (by rw [hP]; exact h1) (by rw [hP]; exact h2), fun h => by cases h with | vp h1 h2 => exact .vp (by rw [← hP]; exact h1) (by rw [← hP]; exact h2)⟩
  case tk => exact ⟨fun h => by cases h with | tk h1 h2 h3 h4 => exact .tk (hP ▸ h1) ((hτ _).trans h2) h3 h4, fun h => by cases h with | tk h1 h2 h3 h4 => exact .tk (hP ▸ h1) ((hτ _).symm.trans h2) h3 h4⟩
  case ex => exact ⟨fun h => by cases h with | ex h => exact .ex (hP ▸ h), fun h => by cases h with | ex h => exact .ex (hP ▸ h)⟩
  case nil => exact ⟨fun h => by cases h; exact .nil, fun h => by cases h; exact .nil⟩
  case any => exact ⟨fun _ => .any, fun _ => .any⟩

theorem rn_rep {p : Nat → Nat} {g g' : G} {w : World} (hσ : ∀ i, g'.σ (p i) = g.σ i) (hτ : ∀ i, g'.τ (p i) = g.τ i) (hP : g'.Pr = g.Pr) {v : V} {r : Value} (hs : v.simple = true) : Rep g w v r ↔ Rep g' w (v.rn p) r := by
  have sub : ∀ (l : List V), l.all V.flat1 = true → ∀ (i : Nat) x, (l.map (V.rn1 p))[i]? = some x → ∃ y, l[i]? = some y ∧ x = y.rn1 p ∧ y.flat1 = true := by
    intro l hl i x hx
    simp only [List.getElem?_map, Option.map_eq_some_iff] at hx
    obtain ⟨y, hy, rfl⟩ := hx
    exact ⟨y, hy, rfl, List.all_eq_true.1 hl y (List.mem_of_getElem? hy)⟩
  cases v with
  | fn f l =>
    simp only [V.simple] at hs
    simp only [V.rn]
    constructor
    · intro h
      cases h with
      | fn h1 h2 =>
        refine .fn (by simpa using h1) (fun i x v hx hv => ?_)
        obtain ⟨y, hy, rfl, hf⟩ := sub l hs i x hx
        exact (rn1_rep hσ hτ hP hf).1 (h2 i y v hy hv)
    · intro h
      cases h with
      | fn h1 h2 =>
        refine .fn (by simpa using h1) (fun i x v hx hv => ?_)
        exact (rn1_rep hσ hτ hP (List.all_eq_true.1 hs x (List.mem_of_getElem? hx))).2 (h2 i _ v (by simp [hx]) hv)
  | agg l =>
    simp only [V.simple] at hs
    simp only [V.rn]
    constructor
    · intro h
      cases h with
      | agg h1 h2 =>
        refine .agg (by simpa using h1) (fun i x v hx hv => ?_)
        obtain ⟨y, hy, rfl, hf⟩ := sub l hs i x hx
        exact (rn1_rep hσ hτ hP hf).1 (h2 i y v hy hv)
    · intro h
      cases h with
      | agg h1 h2 =>
        refine .agg (by simpa using h1) (fun i x v hx hv => ?_)
        exact (rn1_rep hσ hτ hP (List.all_eq_true.1 hs x (List.mem_of_getElem? hx))).2 (h2 i _ v (by simp [hx]) hv)
  | tup l =>
    simp only [V.simple] at hs
    simp only [V.rn]
    constructor
    · intro h
      cases h with
      | tup h1 h2 =>
        refine .tup (by simpa using h1) (fun i x v hx hv => ?_)
        obtain ⟨y, hy, rfl, hf⟩ := sub l hs i x hx
        exact (rn1_rep hσ hτ hP hf).1 (h2 i y v hy hv)
    · intro h
      cases h with
      | tup h1 h2 =>
        refine .tup (by simpa using h1) (fun i x v hx hv => ?_)
        exact (rn1_rep hσ hτ hP (List.all_eq_true.1 hs x (List.mem_of_getElem? hx))).2 (h2 i _ v (by simp [hx]) hv)
  | «when» => simp [V.simple] at hs
  | d => exact rn1_rep hσ hτ hP rfl
  | hs => exact rn1_rep hσ hτ hP rfl
  | ptr => exact rn1_rep hσ hτ hP rfl
  | mp => exact rn1_rep hσ hτ hP rfl
  | vp => exact rn1_rep hσ hτ hP rfl
  | tk => exact rn1_rep hσ hτ hP rfl
  | ex => exact rn1_rep hσ hτ hP rfl
  | nil => exact rn1_rep hσ hτ hP rfl
  | any => exact rn1_rep hσ hτ hP rfl

/-- Local numbers and those of the greater heap: the first k are ids, the others come behind its end. -/
def glob (ids : List Nat) (N : Nat) (i : Nat) : Nat := match ids[i]? with
  | some j => j
  | none => N + (i - ids.length)
def locI : List Nat → Nat → Nat → Option Nat
  | [], _, _ => none
  | a :: r, k, j => cond (Nat.beq j a) (some k) (locI r (k + 1) j)
def loc (ids : List Nat) (N : Nat) (j : Nat) : Option Nat := match locI ids 0 j with
  | some i => some i
  | none => if N ≤ j then some (j - N + ids.length) else none
theorem locI_some : ∀ {ids : List Nat} {k j i : Nat}, locI ids k j = some i → k ≤ i ∧ ids[i - k]? = some j
  | a :: r, k, j, i, h => by
    simp only [locI] at h
    cases hb : Nat.beq j a with
    | true =>
      rw [hb] at h; simp at h; subst h
      simp [Nat.eq_of_beq_eq_true hb]
    | false =>
      rw [hb] at h
      obtain ⟨h1, h2⟩ := locI_some (ids := r) (k := k + 1) h
      refine ⟨by omega, ?_⟩
      rw [show i - k = (i - (k + 1)) + 1 by omega]
      simpa using h2
theorem locI_none : ∀ {ids : List Nat} {k j : Nat}, locI ids k j = none → j ∉ ids
  | [], _, _, _ => by simp
  | a :: r, k, j, h => by
    simp only [locI] at h
    cases hb : Nat.beq j a with
    | true => rw [hb] at h; simp at h
    | false =>
      rw [hb] at h
      have h1 := locI_none (ids := r) (k := k + 1) h
      have : j ≠ a := fun e => by subst e; simp at hb
      simp [this, h1]
theorem loc_some {ids : List Nat} {N j i : Nat} (_hN : ∀ x ∈ ids, x < N) (h : loc ids N j = some i) : glob ids N i = j := by
  unfold loc at h
  split at h
  · rename_i i' h1
    injection h with h; subst h
    obtain ⟨_, h2⟩ := locI_some h1
    simp only [Nat.sub_zero] at h2
    simp [glob, h2]
  · split at h
    · injection h with h; subst h
      have : ids[j - N + ids.length]? = none := List.getElem?_eq_none (by omega)
      simp only [glob, this]; omega
    · cases h
theorem loc_none {ids : List Nat} {N j : Nat} (h : loc ids N j = none) : j ∉ ids ∧ j < N := by
  unfold loc at h
  split at h
  · cases h
  · rename_i h1
    split at h
    · cases h
    · exact ⟨locI_none h1, by omega⟩
theorem loc_glob {ids : List Nat} {N i : Nat} (hd : distinct ids = true) (hN : ∀ x ∈ ids, x < N) : loc ids N (glob ids N i) = some i := by
  have hno : ∀ j, N ≤ j → j ∉ ids := fun j hj hm => by have := hN j hm; omega
  by_cases hi : i < ids.length
  · have hg : glob ids N i = ids[i] := by simp [glob, hi]
    rw [hg]
    have hmem : ids[i] ∈ ids := List.getElem_mem hi
    unfold loc
    split
    · rename_i i' h1
      obtain ⟨_, h2⟩ := locI_some h1
      simp only [Nat.sub_zero] at h2
      rw [distinct_inj hd h2 (List.getElem?_eq_getElem hi)]
    · rename_i h1
      exact absurd hmem (locI_none h1)
  · have hg : glob ids N i = N + (i - ids.length) := by
      have : ids[i]? = none := List.getElem?_eq_none (by omega)
      simp [glob, this]
    rw [hg]
    unfold loc
    split
    · rename_i i' h1
      obtain ⟨_, h2⟩ := locI_some h1
      exact absurd (List.mem_of_getElem? h2) (hno _ (by omega))
    · rw [if_pos (by omega)]; congr 1; omega

/-- The greater heap behind the call. -/
def setAll (H : List HE) : List Nat → List HE → List HE
  | id :: ids, e :: es => setAll (H.set id e) ids es
  | _, _ => H
def mergeH (H : List HE) (ids : List Nat) (H0 : List HE) : List HE :=
  setAll H ids ((H0.take ids.length).map (HE.rn (glob ids H.length))) ++ (H0.drop ids.length).map (HE.rn (glob ids H.length))
theorem setAll_length : ∀ (ids : List Nat) (es H : List HE), (setAll H ids es).length = H.length
  | [], _, _ => by simp [setAll]
  | id :: ids, [], H => by simp [setAll]
  | id :: ids, e :: es, H => by rw [setAll, setAll_length]; simp
theorem setAll_other : ∀ (ids : List Nat) (es H : List HE) (j : Nat), j ∉ ids → (setAll H ids es)[j]? = H[j]?
  | [], _, _, _, _ => by simp [setAll]
  | id :: ids, [], H, j, _ => by simp [setAll]
  | id :: ids, e :: es, H, j, h => by
    simp only [List.mem_cons, not_or] at h
    rw [setAll, setAll_other ids es _ j h.2, List.getElem?_set_ne (Ne.symm h.1)]
theorem setAll_at : ∀ (ids : List Nat) (es H : List HE) (i j : Nat), distinct ids = true → es.length = ids.length → ids[i]? = some j → j < H.length → (setAll H ids es)[j]? = es[i]?
  | [], _, _, i, _, _, _, h, _ => by simp at h
  | id :: ids, [], H, i, _, _, hl, _, _ => by simp at hl
  | id :: ids, e :: es, H, 0, j, hd, hl, h, hj => by
    simp at h; subst h
    simp only [distinct, Bool.and_eq_true, Bool.not_eq_true'] at hd
    have hno : id ∉ ids := fun hm => by have := (inB_mem (l := ids)).2 hm; rw [this] at hd; simp at hd
    rw [setAll, setAll_other ids es _ id hno, List.getElem?_set_self hj]; rfl
  | id :: ids, e :: es, H, i + 1, j, hd, hl, h, hj => by
    simp only [distinct, Bool.and_eq_true] at hd
    rw [setAll, setAll_at ids es _ i j hd.2 (by simpa using hl) (by simpa using h) (by simpa using hj)]; simp

theorem mergeH_get {H : List HE} {ids : List Nat} {H0 : List HE} (hd : distinct ids = true) (hN : ∀ x ∈ ids, x < H.length) (hk : ids.length ≤ H0.length) (j : Nat) :
    (mergeH H ids H0)[j]? = match loc ids H.length j with | some i => (H0[i]?).map (HE.rn (glob ids H.length)) | none => H[j]? := by
  have hlen : (setAll H ids ((H0.take ids.length).map (HE.rn (glob ids H.length)))).length = H.length := setAll_length _ _ _
  unfold mergeH
  by_cases hj : j < H.length
  · rw [List.getElem?_append_left (by omega)]
    cases hl : loc ids H.length j with
    | none =>
      exact setAll_other _ _ _ j (loc_none hl).1
    | some i =>
      have hg := loc_some hN hl
      have hi : i < ids.length := by
        rcases Nat.lt_or_ge i ids.length with h | h
        · exact h
        · have : ids[i]? = none := List.getElem?_eq_none h
          simp only [glob, this] at hg; omega
      have hij : ids[i]? = some j := by
        have : ids[i]? = some ids[i] := List.getElem?_eq_getElem hi
        simp only [glob, this] at hg
        rw [this, hg]
      rw [setAll_at _ _ _ i j hd (by simp; omega) hij hj, List.getElem?_map, List.getElem?_take, if_pos hi]
  · rw [List.getElem?_append_right (by omega), hlen, List.getElem?_map, List.getElem?_drop]
    have hl : loc ids H.length j = some (j - H.length + ids.length) := by
      unfold loc
      split
      · rename_i i' h1
        obtain ⟨_, h2⟩ := locI_some h1
        have := hN j (List.mem_of_getElem? h2); omega
      · rw [if_pos (by omega)]
    rw [hl]
    simp only [Nat.add_comm]

theorem ACall.frame {P : Program} {f : FuncId} {args0 : List V} {H0 H : List HE} {R0 : V → List HE → Prop} (ids : List Nat) (h : ACall P f args0 H0 R0) (hk : ids.length = H0.length) (hd : distinct ids = true)
    (hin : ∀ (i : Nat) e, H0[i]? = some e → ∃ id, ids[i]? = some id ∧ H[id]? = some (e.rn (glob ids H.length))) (hs0 : H0.all HE.simple = true) (ha0 : args0.all V.simple = true)
    (hR : ∀ r H', R0 r H' → r.simple = true ∧ H'.all HE.simple = true ∧ ids.length ≤ H'.length) :
    ACall P f (args0.map (V.rn (glob ids H.length))) H fun r H' => ∃ r0 H0', R0 r0 H0' ∧ r = r0.rn (glob ids H.length) ∧ H' = mergeH H ids H0' := by
  intro g w vals hw hs hv
  have hN : ∀ x ∈ ids, x < H.length := by
    intro x hx
    obtain ⟨i, hi, rfl⟩ := List.mem_iff_getElem.1 hx
    obtain ⟨id, h1, h2⟩ := hin i _ (List.getElem?_eq_getElem (by omega))
    rw [List.getElem?_eq_getElem hi] at h1; injection h1 with h1
    rw [h1]; exact (List.getElem?_eq_some_iff.1 h2).1
  have hgl : ∀ i, loc ids H.length (glob ids H.length i) = some i := fun i => loc_glob hd hN
  have hge : ∀ i, ids.length ≤ i → H.length ≤ glob ids H.length i := fun i hi => by
    have : ids[i]? = none := List.getElem?_eq_none hi
    simp [glob, this]
  have hlt : ∀ i, i < ids.length → ids[i]? = some (glob ids H.length i) := fun i hi => by
    have : ids[i]? = some ids[i] := List.getElem?_eq_getElem hi
    simp [glob, this]
  let p := glob ids H.length
  let g0 : G := { σ := fun i => g.σ (p i), τ := fun i => g.τ (p i), υ := fun i => g.υ (p i), X := fun b => ∃ (i : Nat) (e : HE), H0[i]? = some e ∧ g.blk (p i) (e.rn p) b, Pr := g.Pr }
  have hH : ∀ (i : Nat) e, H0[i]? = some e → i < ids.length ∧ H[p i]? = some (e.rn p) := by
    intro i e he
    have hi : i < ids.length := by rw [hk]; exact (List.getElem?_eq_some_iff.1 he).1
    obtain ⟨id, h1, h2⟩ := hin i e he
    rw [hlt i hi] at h1; injection h1 with h1
    subst h1
    exact ⟨hi, h2⟩
  have hblk : ∀ (i : Nat) e b, g0.blk i e b → g.blk (p i) (e.rn p) b := by
    intro i e b hb
    cases e <;> exact hb
  have hinj : ∀ i i', p i = p i' → i = i' := fun i i' h => by
    have h1 := hgl i
    have h2 := hgl i'
    rw [show glob ids H.length i = glob ids H.length i' from h] at h1
    rw [h1] at h2; injection h2
  have hx0 : ∀ b, g0.X b → g.X b := by
    rintro b ⟨i, e, h1, h2⟩
    exact hw.blk _ _ b (hH i e h1).2 h2
  have hsim : ∀ (i : Nat) c, H0[i]? = some (.row c) → c.all V.simple = true := fun i c hc => List.all_eq_true.1 hs0 _ (List.mem_of_getElem? hc)
  have hrepIn : ∀ {v : V} {r : Value}, v.simple = true → Rep g w (v.rn p) r → Rep g0 w v r := fun hv hr => (rn_rep (g := g0) (g' := g) (p := p) (fun _ => rfl) (fun _ => rfl) rfl hv).2 hr
  have hw0 : WOK g0 w H0 := by
    refine ⟨hw.pr, fun b hb => hw.xs b (hx0 b hb), ?_, ?_, ?_, ?_, ?_, ?_, ?_, fun x hx => ⟨fun h => (hw.kc x hx).1 (hx0 _ h), (hw.kc x hx).2⟩⟩
    · intro i e b he hb
      exact ⟨i, e, he, hblk i e b hb⟩
    · intro i i' e e' b he he' hb hb'
      exact hinj _ _ (hw.sep _ _ _ _ b (hH i e he).2 (hH i' e' he').2 (hblk i e b hb) (hblk i' e' b hb'))
    · intro i c hc
      obtain ⟨b, arr, et, k1, k2, k3, k4, k5⟩ := hw.row _ _ (hH i _ hc).2
      refine ⟨b, arr, et, k1, k2, by simpa using k3, fun k x v hx hv => ?_, k5⟩
      exact hrepIn (List.all_eq_true.1 (hsim i c hc) x (List.mem_of_getElem? hx)) (k4 k _ v (by simp [hx]) hv)
    · intro i n e s hc
      exact hw.tok _ n e s (hH i _ hc).2
    · intro i l e s hc
      exact hw.lst _ l e s (hH i _ hc).2
    · intro i x hc
      obtain ⟨b, q1, q2, q3, q4⟩ := hw.ob _ x (hH i _ hc).2
      have hfr : x.fr = true := List.all_eq_true.1 hs0 _ (List.mem_of_getElem? hc)
      exact ⟨b, q1, x.fre hfr (g := g) (g' := g0) rfl rfl rfl q2, q3, q4⟩
    · intro i hi
      refine hw.free _ ?_
      rcases hi with hi | hi
      · exact .inl (hH i _ hi).2
      · exact .inr (hge i (by omega))
  have hrepArgs : ∀ (i : Nat) x v, args0[i]? = some x → vals[i]? = some v → Rep g0 w x v := fun i x v hx hv' =>
    hrepIn (List.all_eq_true.1 ha0 x (List.mem_of_getElem? hx)) (hv i _ v (by simp [hx]; rfl) hv')
  refine (h g0 w vals hw0 (by simpa using hs) hrepArgs).mono ?_
  rintro e w' ⟨rv, r, g', H', rfl, hw', he, hr, hRr⟩
  obtain ⟨hrs, hHs, hkl⟩ := hR r H' hRr
  let L := loc ids H.length
  let g2 : G := { σ := fun j => match L j with | some i => g'.σ i | none => g.σ j, τ := fun j => match L j with | some i => g'.τ i | none => g.τ j, υ := fun j => match L j with | some i => g'.υ i | none => g.υ j, X := fun b => g.X b ∨ g'.X b, Pr := g'.Pr }
  have hget := mergeH_get (H := H) (H0 := H') hd hN hkl
  have hX' : ∀ b, g'.X b → g0.X b ∨ w.heap.size ≤ b := he.x
  have keep : ∀ b, b < w.heap.size → ¬ g0.X b → w'.heap[b]? = w.heap[b]? := he.keep
  have hold : ∀ b o, g'.Pr b o → b < w.heap.size → ¬ g0.X b → g.Pr b o := by
    intro b o hp hb hx
    rcases he.prn b o hp with h1 | h1 | h1
    · exact h1
    · exact (hx h1).elim
    · omega
  have hσL : ∀ i, g2.σ (p i) = g'.σ i := fun i => by simp only [g2, L, p, hgl i]
  have hτL : ∀ i, g2.τ (p i) = g'.τ i := fun i => by simp only [g2, L, p, hgl i]
  have hout : ∀ {v : V} {r : Value}, v.simple = true → Rep g' w' v r → Rep g2 w' (v.rn p) r := fun hv hr => (rn_rep (g := g') (g' := g2) (p := p) hσL hτL rfl hv).1 hr
  have hev : Evo g w g2 w' := {
    same := he.same
    size := he.size
    pr := he.pr
    prn := fun b o hp => by
      rcases he.prn b o hp with h1 | h1 | h1
      · exact .inl h1
      · exact .inr (.inl (hx0 b h1))
      · exact .inr (.inr h1)
    x := fun b hb => by
      rcases hb with hb | hb
      · exact .inl hb
      · rcases hX' b hb with h1 | h1
        · exact .inl (hx0 b h1)
        · exact .inr h1
    keep := fun b hb hx => keep b hb (fun h0 => hx (hx0 b h0))
    σ := fun j b hb => by
      show (match L j with | some i => g'.σ i | none => g.σ j) = some b
      cases hl : L j with
      | none => exact hb
      | some i =>
        have hj : p i = j := loc_some hN hl
        exact he.σ i b (by show g.σ (p i) = some b; rw [hj]; exact hb)
    τ := fun j m a cap ht => by
      show ∃ m' a' cap', (match L j with | some i => g'.τ i | none => g.τ j) = some (m', a', cap') ∧ _
      cases hl : L j with
      | none => exact ⟨m, a, cap, ht, .inr ⟨rfl, rfl, rfl⟩⟩
      | some i =>
        have hj : p i = j := loc_some hN hl
        exact he.τ i m a cap (by show g.τ (p i) = _; rw [hj]; exact ht) }
  -- an entry of the heap: one of the call's, or one that was left alone
  have hent : ∀ (j : Nat) e, (mergeH H ids H')[j]? = some e → (∃ i e0, L j = some i ∧ p i = j ∧ H'[i]? = some e0 ∧ e = e0.rn p) ∨ (L j = none ∧ H[j]? = some e) := by
    intro j e hj
    rw [hget j] at hj
    cases hl : L j with
    | none => rw [show loc ids H.length j = none from hl] at hj; exact .inr ⟨rfl, hj⟩
    | some i =>
      rw [show loc ids H.length j = some i from hl] at hj
      simp only [Option.map_eq_some_iff] at hj
      obtain ⟨e0, h1, h2⟩ := hj
      exact .inl ⟨i, e0, rfl, loc_some hN hl, h1, h2.symm⟩
  have hblkIn : ∀ (j i : Nat) e0 b, L j = some i → g2.blk j (HE.rn p e0) b → g'.blk i e0 b := by
    intro j i e0 b hl hb
    cases e0 <;> simp only [HE.rn, G.blk, g2, hl] at hb ⊢ <;> exact hb
  have hblkOut : ∀ (j : Nat) e b, L j = none → g2.blk j e b → g.blk j e b := by
    intro j e b hl hb
    cases e <;> simp only [G.blk, g2, hl] at hb ⊢ <;> exact hb
  -- what was left alone lies elsewhere
  have hfar : ∀ (j : Nat) e b, L j = none → H[j]? = some e → g.blk j e b → b < w.heap.size ∧ ¬ g0.X b := by
    intro j e b hl he' hb
    refine ⟨hw.xs b (hw.blk j e b he' hb), ?_⟩
    rintro ⟨i, e0, h1, h2⟩
    obtain ⟨hi, h3⟩ := hH i e0 h1
    have := hw.sep _ _ _ _ b h3 he' h2 hb
    have h4 := hgl i
    rw [show glob ids H.length i = j from this] at h4
    rw [show loc ids H.length j = none from hl] at h4
    cases h4
  refine ⟨rv, r.rn p, g2, mergeH H ids H', rfl, ⟨hw'.pr, ?_, ?_, ?_, ?_, ?_, ?_, ?_, ?_, hw.kcE hev⟩, hev, hout hrs hr, r, H', hRr, rfl, rfl⟩
  · rintro b (hb | hb)
    · exact Nat.lt_of_lt_of_le (hw.xs b hb) he.size
    · exact hw'.xs b hb
  · intro j e b hj hb
    rcases hent j e hj with ⟨i, e0, hl, hp, h1, rfl⟩ | ⟨hl, h1⟩
    · exact .inr (hw'.blk i e0 b h1 (hblkIn j i e0 b hl hb))
    · exact .inl (hw.blk j e b h1 (hblkOut j e b hl hb))
  · intro j j' e e' b hj hj' hb hb'
    have mix : ∀ (i : Nat) e0 (j' : Nat) e', H'[i]? = some e0 → g'.blk i e0 b → L j' = none → H[j']? = some e' → g.blk j' e' b → False := by
      intro i e0 j' e' h1 h2 hl h3 h4
      obtain ⟨f1, f2⟩ := hfar j' e' b hl h3 h4
      rcases hX' b (hw'.blk i e0 b h1 h2) with h5 | h5
      · exact f2 h5
      · omega
    rcases hent j e hj with ⟨i, e0, hl, hp, h1, rfl⟩ | ⟨hl, h1⟩ <;> rcases hent j' e' hj' with ⟨i', e0', hl', hp', h1', rfl⟩ | ⟨hl', h1'⟩
    · have := hw'.sep i i' e0 e0' b h1 h1' (hblkIn j i e0 b hl hb) (hblkIn j' i' e0' b hl' hb')
      subst this; rw [← hp, ← hp']
    · exact (mix i e0 j' e' h1 (hblkIn j i e0 b hl hb) hl' h1' (hblkOut j' e' b hl' hb')).elim
    · exact (mix i' e0' j e h1' (hblkIn j' i' e0' b hl' hb') hl h1 (hblkOut j e b hl hb)).elim
    · exact hw.sep j j' e e' b h1 h1' (hblkOut j e b hl hb) (hblkOut j' e' b hl' hb')
  · intro j c hj
    rcases hent j _ hj with ⟨i, e0, hl, hp, h1, h2⟩ | ⟨hl, h1⟩
    · cases e0 with
      | row c0 =>
        simp only [HE.rn, HE.row.injEq] at h2
        subst h2
        obtain ⟨b, arr, et, k1, k2, k3, k4, k5⟩ := hw'.row i c0 h1
        refine ⟨b, arr, et, by rw [← hp, hσL]; exact k1, k2, by simpa using k3, fun k x v hx hv => ?_, k5⟩
        simp only [List.getElem?_map, Option.map_eq_some_iff] at hx
        obtain ⟨y, hy, rfl⟩ := hx
        have := List.all_eq_true.1 hHs _ (List.mem_of_getElem? h1)
        exact hout (List.all_eq_true.1 this y (List.mem_of_getElem? hy)) (k4 k y v hy hv)
      | _ => cases h2
    · obtain ⟨b, arr, et, k1, k2, k3, k4, k5⟩ := hw.row j c h1
      obtain ⟨f1, f2⟩ := hfar j _ b hl h1 k1
      refine ⟨b, arr, et, by show (match L j with | some i => g'.σ i | none => g.σ j) = some b; rw [hl]; exact k1, (keep b f1 f2).trans k2, k3, fun k x v hx hv => (k4 k x v hx hv).mono hev, fun o hp => k5 o (hold b o hp f1 f2)⟩
  · intro j n e s hj
    rcases hent j _ hj with ⟨i, e0, hl, hp, h1, h2⟩ | ⟨hl, h1⟩
    · cases e0 with
      | tok n0 e0 s0 =>
        simp only [HE.rn] at h2
        injection h2 with q1 q2 q3; subst q1; subst q2; subst q3
        obtain ⟨a, cap, k1, k2⟩ := hw'.tok i n e s h1
        exact ⟨a, cap, by rw [← hp, hτL]; exact k1, k2⟩
      | _ => cases h2
    · obtain ⟨a, cap, k1, k2, k3, k4⟩ := hw.tok j n e s h1
      refine ⟨a, cap, by show (match L j with | some i => g'.τ i | none => g.τ j) = _; rw [hl]; exact k1, k2, k3, fun hc => ?_⟩
      obtain ⟨b, arr, q1, q2, q3, q4⟩ := k4 hc
      obtain ⟨f1, f2⟩ := hfar j _ b hl h1 (by simp [G.blk, k1, hc, q1])
      exact ⟨b, arr, q1, (keep b f1 f2).trans q2, q3, fun o hp => q4 o (hold b o hp f1 f2)⟩
  · intro j l e s hj
    rcases hent j _ hj with ⟨i, e0, hl, hp, h1, h2⟩ | ⟨hl, h1⟩
    · cases e0 with
      | lst l0 e0 s0 =>
        simp only [HE.rn] at h2
        injection h2 with q1 q2 q3; subst q1; subst q2; subst q3
        obtain ⟨a, cap, k1, k2, k3, k4⟩ := hw'.lst i l e s h1
        refine ⟨a, cap, by rw [← hp, hτL]; exact k1, k2, k3, fun hc => ?_⟩
        obtain ⟨b, arr, q1, q0, q2⟩ := k4 hc
        exact ⟨b, arr, q1, by rw [← hp, hσL]; exact q0, q2⟩
      | _ => cases h2
    · obtain ⟨a, cap, k1, k2, k3, k4⟩ := hw.lst j l e s h1
      refine ⟨a, cap, by show (match L j with | some i => g'.τ i | none => g.τ j) = _; rw [hl]; exact k1, k2, k3, fun hc => ?_⟩
      obtain ⟨b, arr, q1, q0, q2, q3, q4, q5⟩ := k4 hc
      obtain ⟨f1, f2⟩ := hfar j _ b hl h1 (by simp [G.blk, k1, hc, q1])
      exact ⟨b, arr, q1, by show (match L j with | some i => g'.σ i | none => g.σ j) = some b; rw [hl]; exact q0, (keep b f1 f2).trans q2, q3, fun o hp => q4 o (hold b o hp f1 f2), fun k x v hx hv => (q5 k x v hx hv).mono hev.pr⟩
  · intro j x hj
    rcases hent j _ hj with ⟨i, e0, hl, hp, h1, h2⟩ | ⟨hl, h1⟩
    · cases e0 with
      | ob y =>
        simp only [HE.rn] at h2
        injection h2 with h2; subst h2
        obtain ⟨b, k1, k2, k3, k4⟩ := hw'.ob i _ h1
        have hfr : x.fr = true := List.all_eq_true.1 hHs _ (List.mem_of_getElem? h1)
        have hυ : g2.υ j = g'.υ i := by show (match L j with | some i => g'.υ i | none => g.υ j) = _; rw [hl]
        exact ⟨b, by rw [← hp, hσL]; exact k1, x.fre hfr (g := g') (g' := g2) rfl (by rw [← hp, hτL]) hυ k2, k3, fun b' o hu hp' => k4 b' o (by rwa [hυ] at hu) hp'⟩
      | _ => cases h2
    · obtain ⟨b, k1, k2, k3, k4⟩ := hw.ob j x h1
      obtain ⟨f1, f2⟩ := hfar j _ b hl h1 (.inl k1)
      have hυ : g2.υ j = g.υ j := by show (match L j with | some i => g'.υ i | none => g.υ j) = _; rw [hl]
      have hfu : ∀ b', g.υ j b' → b' < w.heap.size ∧ ¬ g0.X b' := fun b' hu => hfar j _ b' hl h1 (.inr hu)
      exact ⟨b, by show (match L j with | some i => g'.σ i | none => g.σ j) = some b; rw [hl]; exact k1, x.st hev.w (by show (match L j with | some i => g'.τ i | none => g.τ j) = g.τ j; rw [hl]) hυ (keep b f1 f2) (fun b' hu => keep b' (hfu b' hu).1 (hfu b' hu).2) k2, fun o hp => k3 o (hold b o hp f1 f2), fun b' o hu hp => by
        rw [hυ] at hu
        exact k4 b' o hu (hold b' o hp (hfu b' hu).1 (hfu b' hu).2)⟩
  · intro j hj
    cases hl : L j with
    | none =>
      have h1 : g2.σ j = g.σ j ∧ g2.τ j = g.τ j := by simp only [g2, hl]; exact ⟨trivial, trivial⟩
      have hυ : g2.υ j = g.υ j := by simp only [g2, hl]
      rw [h1.1, h1.2, hυ]
      refine hw.free j ?_
      rcases hj with hj | hj
      · rcases hent j _ hj with ⟨i, e0, hl', _⟩ | ⟨_, h2⟩
        · rw [hl] at hl'; cases hl'
        · exact .inl h2
      · have := (loc_none hl).2
        have hlen : (mergeH H ids H').length = H.length + (H'.length - ids.length) := by simp [mergeH, setAll_length]
        omega
    | some i =>
      have hp : p i = j := loc_some hN hl
      have h1 : g2.σ j = g'.σ i ∧ g2.τ j = g'.τ i := by simp only [g2, hl]; exact ⟨trivial, trivial⟩
      have hυ : g2.υ j = g'.υ i := by simp only [g2, hl]
      rw [h1.1, h1.2, hυ]
      refine hw'.free i ?_
      rcases hj with hj | hj
      · rcases hent j _ hj with ⟨i', e0, hl', _, h2, h3⟩ | ⟨hl', _⟩
        · rw [hl] at hl'; injection hl' with hl'; subst hl'
          cases e0 <;> simp only [HE.rn] at h3 <;> first | exact .inl h2 | cases h3
        · rw [hl] at hl'; cases hl'
      · have hlen : (mergeH H ids H').length = H.length + (H'.length - ids.length) := by simp [mergeH, setAll_length]
        refine .inr ?_
        rcases Nat.lt_or_ge i ids.length with hi | hi
        · have := hlt i hi
          have h3 := hN _ (List.mem_of_getElem? this)
          have h4 : p i < H.length := h3
          omega
        · have : ids[i]? = none := List.getElem?_eq_none hi
          have h4 : p i = H.length + (i - ids.length) := by simp [p, glob, this]
          omega
end
end Go.Proofs.YtkdefjliknpliaaGreatDoor.Ab
