/- Lists that are written in place and grow as well. Conditions: none. -/
import Derived.Test.YtgcmhhcopeiomaaGreatAb17
namespace Go.Proofs.YtgcmhhcopeiomaaGreat.Ab
open Go

/-- A list under a new number. -/
theorem WOK.moveLst {g : G} {w : World} {H : List HE} {id n s : Nat} {l : List D} {e : TypeId} (hw : WOK g w H) (hH : H[id]? = some (.lst l e s)) (hn : H[n]? = some .free) :
    ∃ g', WOK g' w ((H.set id .dead).set n (.lst l e s)) ∧ Evo g w g' w ∧ g'.τ n = g.τ id ∧ g'.σ n = g.σ id ∧ g'.Pr = g.Pr ∧ g'.τ id = g.τ id := by
  have hidlt : id < H.length := (List.getElem?_eq_some_iff.1 hH).1
  have hnlt : n < H.length := (List.getElem?_eq_some_iff.1 hn).1
  have hne : n ≠ id := fun h => by subst h; rw [hH] at hn; cases hn
  obtain ⟨hfσ, hfτ, hfυ⟩ := hw.free n (.inl hn)
  let g' : G := { σ := fun i => if i = n then g.σ id else g.σ i, τ := fun i => if i = n then g.τ id else g.τ i, υ := g.υ, X := g.X, Pr := g.Pr }
  have hσ' : ∀ i, i ≠ n → g'.σ i = g.σ i := fun i h => by simp [g', h]
  have hτ' : ∀ i, i ≠ n → g'.τ i = g.τ i := fun i h => by simp [g', h]
  have hev : Evo g w g' w := {
    same := ⟨rfl, rfl, rfl⟩
    size := Nat.le_refl _
    pr := fun b o hp => ⟨hp, rfl⟩
    prn := fun b o h => .inl h
    x := fun b h => .inl h
    keep := fun b _ _ => rfl
    σ := fun i b h => by
      have : i ≠ n := fun e => by subst e; rw [hfσ] at h; cases h
      rw [hσ' i this]; exact h
    τ := fun i m a cap h => by
      have : i ≠ n := fun e => by subst e; rw [hfτ] at h; cases h
      exact ⟨m, a, cap, by rw [hτ' i this]; exact h, .inr ⟨rfl, rfl, rfl⟩⟩ }
  have hget : ∀ (i : Nat) x, ((H.set id .dead).set n (.lst l e s))[i]? = some x → (i = n ∧ x = .lst l e s) ∨ (i = id ∧ x = .dead) ∨ (i ≠ n ∧ i ≠ id ∧ H[i]? = some x) := by
    intro i x he
    by_cases hi : i = n
    · subst hi; rw [List.getElem?_set_self (by simpa using hnlt)] at he; exact .inl ⟨rfl, (Option.some.inj he).symm⟩
    · rw [List.getElem?_set_ne (Ne.symm hi)] at he
      by_cases hi2 : i = id
      · subst hi2; rw [List.getElem?_set_self hidlt] at he; exact .inr (.inl ⟨rfl, (Option.some.inj he).symm⟩)
      · rw [List.getElem?_set_ne (Ne.symm hi2)] at he; exact .inr (.inr ⟨hi, hi2, he⟩)
  have hblk : ∀ (i : Nat) x b, ((H.set id .dead).set n (.lst l e s))[i]? = some x → g'.blk i x b → ∃ j, H[j]? = some x ∧ g.blk j x b ∧ ((i = n ∧ j = id) ∨ (i ≠ n ∧ j = i ∧ i ≠ id)) := by
    intro i x b he hb
    rcases hget i x he with ⟨rfl, rfl⟩ | ⟨rfl, rfl⟩ | ⟨h1, h2, h3⟩
    · exact ⟨id, hH, by simpa [G.blk, g'] using hb, .inl ⟨rfl, rfl⟩⟩
    · simp [G.blk] at hb
    · refine ⟨i, h3, ?_, .inr ⟨h1, rfl, h2⟩⟩
      cases x <;> simp only [G.blk, hσ' i h1, hτ' i h1] at hb ⊢ <;> exact hb
  refine ⟨g', ⟨hw.pr, hw.xs, ?_, ?_, ?_, ?_, ?_, ?_, ?_, hw.kc⟩, hev, by simp [g'], by simp [g'], rfl, hτ' id (Ne.symm hne)⟩
  · intro i x b he hb
    obtain ⟨j, h1, h2, _⟩ := hblk i x b he hb
    exact hw.blk j x b h1 h2
  · intro i i' x x' b he he' hb hb'
    obtain ⟨j, h1, h2, h3⟩ := hblk i x b he hb
    obtain ⟨j', h4, h5, h6⟩ := hblk i' x' b he' hb'
    have := hw.sep j j' x x' b h1 h4 h2 h5
    omega
  · intro i c he
    rcases hget i _ he with ⟨_, h⟩ | ⟨_, h⟩ | ⟨h1, h2, h3⟩
    · cases h
    · cases h
    · obtain ⟨b1, arr1, et1, k1, k2, k3, k4, k5⟩ := hw.row i c h3
      exact ⟨b1, arr1, et1, by rw [hσ' i h1]; exact k1, k2, k3, fun k x v hx hv => (k4 k x v hx hv).mono hev, k5⟩
  · intro i m e1 s1 he
    rcases hget i _ he with ⟨_, h⟩ | ⟨_, h⟩ | ⟨h1, h2, h3⟩
    · cases h
    · cases h
    · obtain ⟨a, cap, k1, k2⟩ := hw.tok i m e1 s1 h3
      exact ⟨a, cap, by rw [hτ' i h1]; exact k1, k2⟩
  · intro i l1 e1 s1 he
    rcases hget i _ he with ⟨rfl, h⟩ | ⟨_, h⟩ | ⟨h1, h2, h3⟩
    · injection h with q1 q2 q3
      subst q1; subst q2; subst q3
      obtain ⟨a, cap, k1, k2, k3, k4⟩ := hw.lst id l1 e1 s1 hH
      refine ⟨a, cap, by simp [g', k1], k2, k3, fun hc => ?_⟩
      obtain ⟨b, arr, p1, p2, p3⟩ := k4 hc
      exact ⟨b, arr, p1, by simp [g', p2], p3⟩
    · cases h
    · obtain ⟨a, cap, k1, k2, k3, k4⟩ := hw.lst i l1 e1 s1 h3
      refine ⟨a, cap, by rw [hτ' i h1]; exact k1, k2, k3, fun hc => ?_⟩
      obtain ⟨b, arr, p1, p2, p3⟩ := k4 hc
      exact ⟨b, arr, p1, by rw [hσ' i h1]; exact p2, p3⟩
  · intro i x he
    rcases hget i _ he with ⟨_, h⟩ | ⟨_, h⟩ | ⟨h1, h2, h3⟩
    · cases h
    · cases h
    · obtain ⟨b1, k1, k2, k3, k4⟩ := hw.ob i x h3
      exact ⟨b1, by rw [hσ' i h1]; exact k1, x.st hev (hτ' i h1) rfl rfl (fun _ _ => rfl) k2, k3, k4⟩
  · intro i hi
    have h1 : i ≠ n := by
      rintro rfl
      rcases hi with hi | hi
      · rw [List.getElem?_set_self (by simpa using hnlt)] at hi; cases hi
      · simp at hi; omega
    rw [hσ' i h1, hτ' i h1]
    refine hw.free i ?_
    rcases hi with hi | hi
    · rcases hget i _ hi with ⟨_, h⟩ | ⟨_, h⟩ | ⟨_, _, h⟩
      · cases h
      · cases h
      · exact .inl h
    · exact .inr (by simpa using hi)

/-- A list is let go. -/
theorem WOK.kill {g : G} {w : World} {H : List HE} {id : Nat} {e0 : HE} (hw : WOK g w H) (hH : H[id]? = some e0) (h0 : e0 ≠ .free) : WOK g w (H.set id .dead) := by
  have hidlt : id < H.length := (List.getElem?_eq_some_iff.1 hH).1
  have hget : ∀ (i : Nat) x, (H.set id .dead)[i]? = some x → x = .dead ∨ H[i]? = some x := by
    intro i x he
    by_cases hi : i = id
    · subst hi; rw [List.getElem?_set_self hidlt] at he; exact .inl (Option.some.inj he).symm
    · rw [List.getElem?_set_ne (Ne.symm hi)] at he; exact .inr he
  refine ⟨hw.pr, hw.xs, ?_, ?_, ?_, ?_, ?_, ?_, ?_, hw.kc⟩
  · intro i x b he hb
    rcases hget i x he with rfl | h
    · simp [G.blk] at hb
    · exact hw.blk i x b h hb
  · intro i i' x x' b he he' hb hb'
    rcases hget i x he with rfl | h
    · simp [G.blk] at hb
    · rcases hget i' x' he' with rfl | h'
      · simp [G.blk] at hb'
      · exact hw.sep i i' x x' b h h' hb hb'
  · intro i c he
    rcases hget i _ he with h | h
    · cases h
    · exact hw.row i c h
  · intro i m e1 s1 he
    rcases hget i _ he with h | h
    · cases h
    · exact hw.tok i m e1 s1 h
  · intro i l e1 s1 he
    rcases hget i _ he with h | h
    · cases h
    · exact hw.lst i l e1 s1 h
  · intro i x he
    rcases hget i _ he with h | h
    · cases h
    · exact hw.ob i x h
  · intro i hi
    refine hw.free i ?_
    rcases hi with hi | hi
    · rcases hget i _ hi with h | h
      · cases h
      · exact .inl h
    · exact .inr (by simpa using hi)

section
variable {P : Program} {ρ : Operand → V} {H : List HE} {ty : TypeId}

theorem set_last2 (H : List HE) (id : Nat) (e : HE) (h : id < H.length) : (((H ++ [HE.free]).set id .dead).set H.length e) = (H.set id .dead) ++ [e] := by
  rw [List.set_append_left _ _ h]
  have : (H.set id HE.dead).length = H.length := by simp
  rw [← this, set_last]

end

end Go.Proofs.YtgcmhhcopeiomaaGreat.Ab
