/- Lists in the cells of rows: they begin empty, to be written in place; they are given up to be data. Conditions: none. -/
import Derived.Test.YtjinohfopjlgkaaAb20
namespace Go.Proofs.Ytjinohfopjlgkaa.Ab
open Go

/-- The same memory, a row's cells known otherwise. -/
theorem WOK.recell {g : G} {w : World} {H : List HE} {id : Nat} {c d : List V} (hw : WOK g w H) (hH : H[id]? = some (.row c)) (hl : c.length = d.length) (h : ∀ (i : Nat) x y r, c[i]? = some x → d[i]? = some y → Rep g w x r → Rep g w y r) : WOK g w (H.set id (.row d)) := by
  have hidlt : id < H.length := (List.getElem?_eq_some_iff.1 hH).1
  have hget : ∀ (i : Nat) e, (H.set id (.row d))[i]? = some e → (i = id ∧ e = .row d) ∨ (i ≠ id ∧ H[i]? = some e) := by
    intro i e he
    by_cases hi : i = id
    · subst hi; rw [List.getElem?_set_self hidlt] at he; exact .inl ⟨rfl, (Option.some.inj he).symm⟩
    · rw [List.getElem?_set_ne (Ne.symm hi)] at he; exact .inr ⟨hi, he⟩
  have hblk : ∀ (i : Nat) e b', (H.set id (.row d))[i]? = some e → g.blk i e b' → ∃ e', H[i]? = some e' ∧ g.blk i e' b' := by
    intro i e b' he hb'
    rcases hget i e he with ⟨rfl, rfl⟩ | ⟨_, h⟩
    · exact ⟨_, hH, hb'⟩
    · exact ⟨e, h, hb'⟩
  refine ⟨hw.pr, hw.xs, ?_, ?_, ?_, ?_, ?_, ?_, ?_, hw.kc⟩
  · intro i e b he hb
    obtain ⟨e', h1, h2⟩ := hblk i e b he hb
    exact hw.blk i e' b h1 h2
  · intro i i' e e' b he he' hb hb'
    obtain ⟨e1, h1, h2⟩ := hblk i e b he hb
    obtain ⟨e3, h3, h4⟩ := hblk i' e' b he' hb'
    exact hw.sep i i' e1 e3 b h1 h3 h2 h4
  · intro i ci hi
    rcases hget i _ hi with ⟨rfl, he⟩ | ⟨_, h'⟩
    · injection he with he; subst he
      obtain ⟨b, arr, et, k1, k2, k3, k4, k5⟩ := hw.row i c hH
      refine ⟨b, arr, et, k1, k2, by omega, fun k x v hx hv => ?_, k5⟩
      have hk : k < c.length := by rw [hl]; exact (List.getElem?_eq_some_iff.1 hx).1
      exact h k _ x v (List.getElem?_eq_getElem hk) hx (k4 k _ v (List.getElem?_eq_getElem hk) hv)
    · exact hw.row i ci h'
  · intro i n e s hi
    rcases hget i _ hi with ⟨_, he⟩ | ⟨_, h'⟩
    · cases he
    · exact hw.tok i n e s h'
  · intro i l e s hi
    rcases hget i _ hi with ⟨_, he⟩ | ⟨_, h'⟩
    · cases he
    · exact hw.lst i l e s h'
  · intro i x hi
    rcases hget i _ hi with ⟨_, he⟩ | ⟨_, h'⟩
    · cases he
    · exact hw.ob i x h'
  · intro i hi
    refine hw.free i ?_
    rcases hi with hi | hi
    · rcases hget i _ hi with ⟨_, he⟩ | ⟨_, h'⟩
      · cases he
      · exact .inl h'
    · exact .inr (by simpa using hi)

/-- An empty list in a cell begins as one that is written in place. -/
theorem AW.lstizeC {F : FC} {Q : Exit → St → Prop} {c : Code} {E : Nat → V} {H : List HE} {cs : List V} (rid k : Nat) (e : TypeId) (s : Nat) {n : Nat} (hH : H[rid]? = some (.row cs)) (hc : cs[k]? = some (.ex [])) (hn : H.length = n)
    (h : AW F c Q ⟨E, H.set rid (.row (cs.set k (.hs n 0 0 s))) ++ [.lst [] e s]⟩) : AW F c Q ⟨E, H⟩ := by
  subst hn
  rintro a w ⟨h1, h2, g, h3, h4, h5⟩
  have hlt : rid < H.length := (List.getElem?_eq_some_iff.1 hH).1
  -- what the cell holds
  obtain ⟨b, arr, et, k1, k2, k3, k4, _⟩ := h3.row rid cs hH
  have hkl : k < cs.length := (List.getElem?_eq_some_iff.1 hc).1
  have hcell := k4 k _ arr[k] hc (by simp [show k < arr.size by omega])
  generalize hv : arr[k] = v at hcell
  cases hcell with
  | @ex _ ad hd =>
    obtain ⟨g', w1, w2, w3⟩ := WOK.lstize (e := e) (s := s) (ad := ad) h3
    have hH1 : (H ++ [HE.lst [] e s])[rid]? = some (.row cs) := by rw [List.getElem?_append_left hlt]; exact hH
    obtain ⟨b', arr', et', q1, q2, q3, q4, q5⟩ := w1.row rid cs hH1
    have hb : b' = b := by have := w2.σ rid b k1; rw [this] at q1; injection q1 with q1; exact q1.symm
    subst hb
    have harr : arr' = arr := by rw [k2] at q2; injection q2 with q2; injection q2 with q2; exact q2.symm
    subst harr
    -- the row anew
    have hidlt : rid < (H ++ [HE.lst [] e s]).length := by simp; omega
    have key : WOK g' w ((H ++ [HE.lst [] e s]).set rid (.row (cs.set k (.hs H.length 0 0 s)))) := by
      have hget : ∀ (i : Nat) x, ((H ++ [HE.lst [] e s]).set rid (.row (cs.set k (.hs H.length 0 0 s))))[i]? = some x → (i = rid ∧ x = .row (cs.set k (.hs H.length 0 0 s))) ∨ (i ≠ rid ∧ (H ++ [HE.lst [] e s])[i]? = some x) := by
        intro i x he
        by_cases hi : i = rid
        · subst hi; rw [List.getElem?_set_self hidlt] at he; exact .inl ⟨rfl, (Option.some.inj he).symm⟩
        · rw [List.getElem?_set_ne (Ne.symm hi)] at he; exact .inr ⟨hi, he⟩
      have hblk : ∀ (i : Nat) x b', ((H ++ [HE.lst [] e s]).set rid (.row (cs.set k (.hs H.length 0 0 s))))[i]? = some x → g'.blk i x b' → ∃ e', (H ++ [HE.lst [] e s])[i]? = some e' ∧ g'.blk i e' b' := by
        intro i x b' he hb'
        rcases hget i x he with ⟨rfl, rfl⟩ | ⟨_, h⟩
        · exact ⟨_, hH1, hb'⟩
        · exact ⟨x, h, hb'⟩
      refine ⟨w1.pr, w1.xs, ?_, ?_, ?_, ?_, ?_, ?_, ?_, w1.kc⟩
      · intro i x b he hb
        obtain ⟨e', h1, h2⟩ := hblk i x b he hb
        exact w1.blk i e' b h1 h2
      · intro i i' x x' b he he' hb hb'
        obtain ⟨e1, h1, h2⟩ := hblk i x b he hb
        obtain ⟨e3, h3, h4⟩ := hblk i' x' b he' hb'
        exact w1.sep i i' e1 e3 b h1 h3 h2 h4
      · intro i ci hi
        rcases hget i _ hi with ⟨rfl, he⟩ | ⟨_, h'⟩
        · injection he with he; subst he
          refine ⟨b', arr', et', q1, q2, by simpa using q3, fun j x v' hx hv' => ?_, q5⟩
          rw [List.getElem?_set] at hx
          split at hx
          · rename_i hkj
            subst hkj
            try rw [if_pos hkl] at hx
            injection hx with hx; subst hx
            have : v' = arr'[k] := by
              rw [← Option.some_inj, ← hv']; simp [show k < arr'.size by omega]
            rw [this, hv]
            exact .hs w3 (fun _ => ⟨rfl, rfl, rfl, Nat.le_refl _⟩)
          · exact q4 j x v' hx hv'
        · exact w1.row i ci h'
      · intro i n e s hi
        rcases hget i _ hi with ⟨_, he⟩ | ⟨_, h'⟩
        · cases he
        · exact w1.tok i n e s h'
      · intro i l e s hi
        rcases hget i _ hi with ⟨_, he⟩ | ⟨_, h'⟩
        · cases he
        · exact w1.lst i l e s h'
      · intro i x hi
        rcases hget i _ hi with ⟨_, he⟩ | ⟨_, h'⟩
        · cases he
        · exact w1.ob i x h'
      · intro i hi
        refine w1.free i ?_
        rcases hi with hi | hi
        · rcases hget i _ hi with ⟨_, he⟩ | ⟨_, h'⟩
          · cases he
          · exact .inl h'
        · exact .inr (by simpa using hi)
    rw [List.set_append_left _ _ hlt] at key
    exact h a w ⟨h1, h2, g', key, h4.trans w2, fun i => (h5 i).mono w2⟩

/-- A list is given up to be data: slots, and cells of one row, that hold it. -/
theorem AW.freezeC2 {F : FC} {Q : Exit → St → Prop} {c : Code} {E : Nat → V} {H : List HE} {α : Type} {f : α → D} {l : List α} {e : TypeId} {s len : Nat} {cs cs2 : List V} (id : Nat) (ts : List Nat) (rid k rid2 k2 : Nat) (hH : H[id]? = some (.lst (l.map f) e s)) (hl : l.length = len) (hf : En f s)
    (hE : SameE E (.hs id 0 len s) ts) (hR : H[rid]? = some (.row cs)) (hk : cs[k]? = some (.hs id 0 len s)) (hR2 : H[rid2]? = some (.row cs2)) (hk2 : cs2[k2]? = some (.hs id 0 len s)) (hne2 : Nat.beq rid rid2 = false) (h : AW F c Q ⟨setE E ts (.d (.sl (l.map f))), ((H.set id .dead).set rid (.row (cs.set k (.d (.sl (l.map f)))))).set rid2 (.row (cs2.set k2 (.d (.sl (l.map f)))))⟩) : AW F c Q ⟨E, H⟩ := by
  rintro a w ⟨h1, h2, g, h3, h4, h5⟩
  obtain ⟨a0, cap0, k1, _, _⟩ := h3.lst id _ _ _ hH
  obtain ⟨g', w1, w2, w3, w4⟩ := h3.freeze hH (hf.szL l)
  have conv : ∀ r, Rep g' w (.hs id 0 len s) r → Rep g' w (.d (.sl (l.map f))) r := by
    intro r hr
    cases hr with
    | @hs _ _ _ _ m cap' n0 c0 a' a0' p1 p2 =>
      rw [w3, k1] at p1; injection p1 with p1; injection p1 with p1 p3; injection p3 with p3 p4
      obtain ⟨r1, r2, r3, _⟩ := hs0 (p2 p1.symm)
      have := w4 a0 cap0 k1
      subst r1; subst r3; subst p3; subst p4
      rw [r2, ← hl]
      simp only [List.length_map] at this
      exact .d this
  have hne : rid ≠ id := fun e => by subst e; rw [hH] at hR; cases hR
  have key := w1.recell (id := rid) (c := cs) (d := cs.set k (.d (.sl (l.map f)))) (by rw [List.getElem?_set_ne (Ne.symm hne)]; exact hR) (by simp) (fun i x y r hx hy hr => by
    rw [List.getElem?_set] at hy
    split at hy
    · rename_i hki
      subst hki
      rw [hk] at hx; injection hx with hx; subst hx
      split at hy
      · injection hy with hy; subst hy; exact conv r hr
      · cases hy
    · rw [hx] at hy; injection hy with hy; subst hy; exact hr)
  have hne3 : rid2 ≠ id := fun e => by subst e; rw [hH] at hR2; cases hR2
  have hne4 : rid ≠ rid2 := fun e => by subst e; simp at hne2
  have key2 := key.recell (id := rid2) (c := cs2) (d := cs2.set k2 (.d (.sl (l.map f)))) (by rw [List.getElem?_set_ne hne4, List.getElem?_set_ne (Ne.symm hne3)]; exact hR2) (by simp) (fun i x y r hx hy hr => by
    rw [List.getElem?_set] at hy
    split at hy
    · rename_i hki
      subst hki
      rw [hk2] at hx; injection hx with hx; subst hx
      split at hy
      · injection hy with hy; subst hy; exact conv r hr
      · cases hy
    · rw [hx] at hy; injection hy with hy; subst hy; exact hr)
  exact h a w ⟨h1, h2, g', key2, h4.trans w2, fun i => setE_rep ((h5 i).mono w2) (conv _) hE⟩
end Go.Proofs.Ytjinohfopjlgkaa.Ab
