/- Steps keep requests valid; lists of steps in two parts. Conditions: none. -/
import Derived.Test.YtciojlggdnmncaaSv
set_option maxRecDepth 100000
namespace Go.Proofs.Ytciojlggdnmncaa.Ab
open Go 


theorem do_keeps {r : Req} {s : Stp} (h : (doI r s).2 = 0) : validB (doI r s).1 = true := by
  have d := done_of h
  rw [d.eq, val_iff]
  have v := d.val; have rf := d.ref; have tm := d.tm
  have vl := v.lender; have vd := v.due; have vt := inI_iff.1 v.tm
  have ht : inI s.tm 0 1000000 = true := inI_iff.2 (by omega)
  rcases pairs_of d.has with ⟨hs, hk | hk | hk⟩ | ⟨hs, hk | hk | hk⟩ | ⟨hs, hk⟩ | ⟨hs, hk | hk | hk⟩ | ⟨hs, hk⟩ | ⟨hs, hk⟩ <;> rw [hs] at vl vd <;> simp only [inI] at vl vd <;> simp at vl vd <;> simp [refusedI, hk] at rf
  · rw [show stepR r s = ⟨r.id, r.work, r.lib, 2, s.tm, s.lender, r.tried, r.due, r.ren⟩ by simp [stepR, hk]]
    by_cases q : hasS r.tried s.lender = true
    · split at rf <;> simp_all
    · split at rf
      · simp at rf
      · rename_i q2; simp at q2 q
        exact ⟨v.id, v.work, v.lib, rfl, ht, v.tried, by show if inI 2 2 7 = true then _ else _; rw [if_pos (by decide)]; exact ⟨q2.1, q2.2, q⟩, by show if inI 2 4 7 = true then _ else _; rw [if_neg (by decide)]; exact vd⟩
  · rw [show stepR r s = ⟨r.id, r.work, r.lib, 8, s.tm, [], r.tried, r.due, r.ren⟩ by simp [stepR, hk]]
    exact ⟨v.id, v.work, v.lib, rfl, ht, v.tried, by show if inI 8 2 7 = true then _ else _; rw [if_neg (by decide)], by show if inI 8 4 7 = true then _ else _; rw [if_neg (by decide)]; exact vd⟩
  · rw [show stepR r s = ⟨r.id, r.work, r.lib, 9, s.tm, r.lender, r.tried, r.due, r.ren⟩ by simp [stepR, hk]]
    exact ⟨v.id, v.work, v.lib, rfl, ht, v.tried, by show if inI 9 2 7 = true then _ else _; rw [if_neg (by decide)]; exact vl, by show if inI 9 4 7 = true then _ else _; rw [if_neg (by decide)]; exact vd⟩
  · rw [show stepR r s = ⟨r.id, r.work, r.lib, 1, s.tm, [], r.tried ++ [r.lender], r.due, r.ren⟩ by simp [stepR, hk]]
    have hl : r.tried.length < 20 := by have := (validB_ok ((val_iff r).2 v)).tried; omega
    exact ⟨v.id, v.work, v.lib, rfl, ht, tried_snoc v.tried vl.1 vl.2.1 vl.2.2 hl, by show if inI 1 2 7 = true then _ else _; rw [if_neg (by decide)], by show if inI 1 4 7 = true then _ else _; rw [if_neg (by decide)]; exact vd⟩
  · rw [show stepR r s = ⟨r.id, r.work, r.lib, 3, s.tm, r.lender, r.tried, r.due, r.ren⟩ by simp [stepR, hk]]
    exact ⟨v.id, v.work, v.lib, rfl, ht, v.tried, by show if inI 3 2 7 = true then _ else _; rw [if_pos (by decide)]; exact vl, by show if inI 3 4 7 = true then _ else _; rw [if_neg (by decide)]; exact vd⟩
  · rw [show stepR r s = ⟨r.id, r.work, r.lib, 8, s.tm, [], r.tried, r.due, r.ren⟩ by simp [stepR, hk]]
    exact ⟨v.id, v.work, v.lib, rfl, ht, v.tried, by show if inI 8 2 7 = true then _ else _; rw [if_neg (by decide)], by show if inI 8 4 7 = true then _ else _; rw [if_neg (by decide)]; exact vd⟩
  · rw [show stepR r s = ⟨r.id, r.work, r.lib, 4, s.tm, r.lender, r.tried, s.due, r.ren⟩ by simp [stepR, hk]]
    exact ⟨v.id, v.work, v.lib, rfl, ht, v.tried, by show if inI 4 2 7 = true then _ else _; rw [if_pos (by decide)]; exact vl, by show if inI 4 4 7 = true then _ else _; rw [if_pos (by decide)]; exact ⟨fun _ => by show s.tm ≤ s.due; omega, inI_iff.2 (by show 1 ≤ s.due ∧ s.due ≤ 1000000; omega), inI_iff.2 (by show 0 ≤ r.ren ∧ r.ren ≤ 2; omega)⟩⟩
  · rw [show stepR r s = ⟨r.id, r.work, r.lib, r.st, s.tm, r.lender, r.tried, s.due, r.ren + 1⟩ by simp [stepR, hk]]
    exact ⟨v.id, v.work, v.lib, v.st, ht, v.tried, by show if inI r.st 2 7 = true then _ else _; rw [hs, if_pos (by decide)]; exact vl, by show if inI r.st 4 7 = true then _ else _; rw [hs, if_pos (by decide)]; exact ⟨fun _ => by show s.tm ≤ s.due; omega, inI_iff.2 (by show 1 ≤ s.due ∧ s.due ≤ 1000000; omega), inI_iff.2 (by show 0 ≤ r.ren + 1 ∧ r.ren + 1 ≤ 2; omega)⟩⟩
  · rw [show stepR r s = ⟨r.id, r.work, r.lib, 5, s.tm, r.lender, r.tried, min r.due (s.tm + 7), r.ren⟩ by simp [stepR, hk]]
    exact ⟨v.id, v.work, v.lib, rfl, ht, v.tried, by show if inI 5 2 7 = true then _ else _; rw [if_pos (by decide)]; exact vl, by show if inI 5 4 7 = true then _ else _; rw [if_pos (by decide)]; exact ⟨fun _ => by show s.tm ≤ min r.due (s.tm + 7); omega, inI_iff.2 (by show 1 ≤ min r.due (s.tm + 7) ∧ min r.due (s.tm + 7) ≤ 1000000; omega), inI_iff.2 (by show 0 ≤ r.ren ∧ r.ren ≤ 2; omega)⟩⟩
  · rw [show stepR r s = ⟨r.id, r.work, r.lib, 6, s.tm, r.lender, r.tried, r.due, r.ren⟩ by simp [stepR, hk]]
    exact ⟨v.id, v.work, v.lib, rfl, ht, v.tried, by show if inI 6 2 7 = true then _ else _; rw [if_pos (by decide)]; exact vl, by show if inI 6 4 7 = true then _ else _; rw [if_pos (by decide)]; exact ⟨(fun h => by rcases h with h | h; exact absurd (show (6 : Int) = 4 from h) (by decide); exact absurd (show (6 : Int) = 5 from h) (by decide)), inI_iff.2 (by show 1 ≤ r.due ∧ r.due ≤ 1000000; omega), inI_iff.2 (by show 0 ≤ r.ren ∧ r.ren ≤ 2; omega)⟩⟩
  · rw [show stepR r s = ⟨r.id, r.work, r.lib, 6, s.tm, r.lender, r.tried, r.due, r.ren⟩ by simp [stepR, hk]]
    exact ⟨v.id, v.work, v.lib, rfl, ht, v.tried, by show if inI 6 2 7 = true then _ else _; rw [if_pos (by decide)]; exact vl, by show if inI 6 4 7 = true then _ else _; rw [if_pos (by decide)]; exact ⟨(fun h => by rcases h with h | h; exact absurd (show (6 : Int) = 4 from h) (by decide); exact absurd (show (6 : Int) = 5 from h) (by decide)), inI_iff.2 (by show 1 ≤ r.due ∧ r.due ≤ 1000000; omega), inI_iff.2 (by show 0 ≤ r.ren ∧ r.ren ≤ 2; omega)⟩⟩
  · rw [show stepR r s = ⟨r.id, r.work, r.lib, 7, s.tm, r.lender, r.tried, r.due, r.ren⟩ by simp [stepR, hk]]
    exact ⟨v.id, v.work, v.lib, rfl, ht, v.tried, by show if inI 7 2 7 = true then _ else _; rw [if_pos (by decide)]; exact vl, by show if inI 7 4 7 = true then _ else _; rw [if_pos (by decide)]; exact ⟨(fun h => by rcases h with h | h; exact absurd (show (7 : Int) = 4 from h) (by decide); exact absurd (show (7 : Int) = 5 from h) (by decide)), inI_iff.2 (by show 1 ≤ r.due ∧ r.due ≤ 1000000; omega), inI_iff.2 (by show 0 ≤ r.ren ∧ r.ren ≤ 2; omega)⟩⟩
theorem runG_bounds : ∀ {l : List Stp} {r : Req} {i : Int}, i ≤ (runG r l i).2.1 ∧ (runG r l i).2.1 ≤ i + l.length
  | [], r, i => by simp [runG]
  | s :: l, r, i => by
    unfold runG
    split
    · simp; omega
    · have := runG_bounds (l := l) (r := (doI r s).1) (i := i + 1)
      simp only [List.length_cons]; omega
theorem runG_stop : ∀ {l : List Stp} {r : Req} {i : Int}, (runG r l i).2.1 = i → (runG r l i).1 = r
  | [], r, i, _ => rfl
  | s :: l, r, i, h => by
    unfold runG at h ⊢
    split
    · rfl
    · rename_i h1
      rw [if_neg h1] at h
      have := runG_bounds (l := l) (r := (doI r s).1) (i := i + 1)
      omega
theorem runG_done : ∀ {l : List Stp} {r : Req} {i : Int}, (runG r l i).2.2 = 0 → (runG r l i).2.1 = i + l.length
  | [], r, i, _ => by simp [runG]
  | s :: l, r, i, h => by
    unfold runG at h ⊢
    split
    · rename_i h1; rw [if_pos h1] at h; simp at h1; exact absurd h h1
    · rename_i h1
      rw [if_neg h1] at h
      have := runG_done h
      rw [this]; simp only [List.length_cons]; omega
theorem runG_app : ∀ {p q : List Stp} {r : Req} {i : Int}, runG r (p ++ q) i = if (runG r p i).2.2 = 0 then runG (runG r p i).1 q (i + p.length) else runG r p i
  | [], q, r, i => by simp [runG]
  | s :: p, q, r, i => by
    rw [List.cons_append, runG, runG]
    split
    · rename_i h1; simp at h1; rw [if_neg h1]
    · rw [runG_app (p := p)]
      have : i + 1 + (p.length : Int) = i + ((s :: p).length : Int) := by simp only [List.length_cons]; omega
      rw [this]
theorem runG_shift : ∀ {l : List Stp} {r : Req} {i j : Int}, runG r l (i + j) = ((runG r l i).1, (runG r l i).2.1 + j, (runG r l i).2.2)
  | [], r, i, j => rfl
  | s :: l, r, i, j => by
    rw [runG, runG]
    split
    · rfl
    · rw [← runG_shift]; congr 1; omega
theorem runG_keeps : ∀ {l : List Stp} {r : Req} {i : Int}, validB r = true → validB (runG r l i).1 = true
  | [], r, i, h => h
  | s :: l, r, i, h => by
    unfold runG
    split
    · exact h
    · rename_i h1; exact runG_keeps (do_keeps (by simpa using h1))
theorem runI_eq {r : Req} (h : validB r = true) (l : List Stp) : runI r l = runG r l 0 := by simp [runI, h]
theorem run_cut1 {r : Req} (h : validB r = true) {l : List Stp} {m : Nat} (he : (runI r (l.take m)).2.2 ≠ 0) : runI r l = runI r (l.take m) := by
  rw [runI_eq h] at he ⊢
  rw [runI_eq h]
  have := runG_app (p := l.take m) (q := l.drop m) (r := r) (i := 0)
  rw [List.take_append_drop, if_neg he] at this
  exact this
theorem run_cut2 {r : Req} (h : validB r = true) {l : List Stp} {m : Nat} (hm : m ≤ l.length) (he : (runI r (l.take m)).2.2 = 0) :
    (runI r (l.take m)).2.1 = m ∧ runI r l = ((runI (runI r (l.take m)).1 (l.drop m)).1, (runI (runI r (l.take m)).1 (l.drop m)).2.1 + m, (runI (runI r (l.take m)).1 (l.drop m)).2.2) := by
  have e1 := runI_eq h (l.take m)
  rw [e1] at he ⊢
  have hk := runG_keeps (l := l.take m) (i := 0) h
  have hl : (l.take m).length = m := by simp; omega
  refine ⟨by rw [runG_done he, hl]; omega, ?_⟩
  rw [runI_eq hk, runI_eq h]
  have := runG_app (p := l.take m) (q := l.drop m) (r := r) (i := 0)
  rw [List.take_append_drop, if_pos he, hl] at this
  rw [this, runG_shift]


end Go.Proofs.Ytciojlggdnmncaa.Ab
