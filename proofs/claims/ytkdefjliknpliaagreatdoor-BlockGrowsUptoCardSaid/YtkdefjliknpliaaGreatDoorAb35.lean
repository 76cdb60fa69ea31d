/- Lists of lists where the order of evaluation is left open: rows that are put in, first appends. Conditions: none. -/
import Derived.Test.YtkdefjliknpliaaGreatDoorAb31
import Derived.Test.YtkdefjliknpliaaGreatDoorAb22
namespace Go.Proofs.YtkdefjliknpliaaGreatDoor.Ab
open Go

section
variable {P : Program} {ρ : Operand → V} {H : List HE} {ty : TypeId}
theorem WOK.lstizeF {g : G} {w : World} {n s : Nat} {e : TypeId} {ad : Option Addr} (hw : WOK g w H) (hn : H[n]? = some .free) :
    ∃ g', WOK g' w (H.set n (.lst [] e s)) ∧ Evo g w g' w ∧ g'.τ n = some (0, ad, 0) := by
  have hnl : n < H.length := (List.getElem?_eq_some_iff.1 hn).1
  obtain ⟨hfσ, hfτ, hfυ⟩ := hw.free n (.inl hn)
  let g' : G := { σ := g.σ, τ := fun i => if i = n then some (0, ad, 0) else g.τ i, υ := g.υ, X := g.X, Pr := g.Pr }
  have hτ' : ∀ i, i ≠ n → g'.τ i = g.τ i := fun i h => by simp [g', h]
  have hτid : g'.τ n = some (0, ad, 0) := by simp [g']
  have hev : Evo g w g' w := {
    same := ⟨rfl, rfl, rfl⟩
    size := Nat.le_refl _
    pr := fun b o hp => ⟨hp, rfl⟩
    prn := fun b o h => .inl h
    x := fun b h => .inl h
    keep := fun b _ _ => rfl
    σ := fun i b h => h
    τ := fun i m a c h => by
      have : i ≠ n := fun e => by subst e; rw [hfτ] at h; cases h
      exact ⟨m, a, c, by rw [hτ' i this]; exact h, .inr ⟨rfl, rfl, rfl⟩⟩ }
  have hget : ∀ (i : Nat) x, (H.set n (HE.lst [] e s))[i]? = some x → (i = n ∧ x = .lst [] e s) ∨ (i ≠ n ∧ H[i]? = some x) := by
    intro i x hx
    by_cases hi : i = n
    · subst hi; rw [List.getElem?_set_self hnl] at hx; exact .inl ⟨rfl, (Option.some.inj hx).symm⟩
    · rw [List.getElem?_set_ne (Ne.symm hi)] at hx; exact .inr ⟨hi, hx⟩
  have hblk : ∀ (i : Nat) x b, (H.set n (HE.lst [] e s))[i]? = some x → g'.blk i x b → H[i]? = some x ∧ g.blk i x b := by
    intro i x b hx hb
    rcases hget i x hx with ⟨rfl, rfl⟩ | ⟨hi, h⟩
    · simp [G.blk, hτid] at hb
    · refine ⟨h, ?_⟩
      cases x <;> simp only [G.blk, hτ' i hi] at hb ⊢ <;> exact hb
  refine ⟨g', ⟨hw.pr, hw.xs, ?_, ?_, ?_, ?_, ?_, ?_, ?_, hw.kc⟩, hev, hτid⟩
  · intro i x b hx hb
    obtain ⟨k1, k2⟩ := hblk i x b hx hb
    exact hw.blk i x b k1 k2
  · intro i i' x x' b hx hx' hb hb'
    obtain ⟨k1, k2⟩ := hblk i x b hx hb
    obtain ⟨k3, k4⟩ := hblk i' x' b hx' hb'
    exact hw.sep i i' x x' b k1 k3 k2 k4
  · intro i c hx
    rcases hget i _ hx with ⟨_, h⟩ | ⟨hi, h⟩
    · cases h
    · obtain ⟨b1, arr1, et1, k1, k2, k3, k4, k5⟩ := hw.row i c h
      exact ⟨b1, arr1, et1, k1, k2, k3, fun k x v hx hv => (k4 k x v hx hv).mono hev, k5⟩
  · intro i m e1 s1 hx
    rcases hget i _ hx with ⟨_, h⟩ | ⟨hi, h⟩
    · cases h
    · obtain ⟨a, cap, k1, k2⟩ := hw.tok i m e1 s1 h
      exact ⟨a, cap, by rw [hτ' i hi]; exact k1, k2⟩
  · intro i l1 e1 s1 hx
    rcases hget i _ hx with ⟨rfl, h⟩ | ⟨hi, h⟩
    · injection h with q1 q2 q3
      subst q1; subst q2; subst q3
      exact ⟨ad, 0, hτid, by simp, by omega, fun h => by omega⟩
    · obtain ⟨a, cap, k1, k2⟩ := hw.lst i l1 e1 s1 h
      exact ⟨a, cap, by rw [hτ' i hi]; exact k1, k2⟩
  · intro i x hx
    rcases hget i _ hx with ⟨_, h⟩ | ⟨hi, h⟩
    · cases h
    · obtain ⟨b1, k1, k2, k3, k4⟩ := hw.ob i x h
      exact ⟨b1, k1, x.st hev.w (hτ' i hi) rfl rfl (fun _ _ => rfl) k2, k3, k4⟩
  · intro i hi
    have hne : i ≠ n ∧ (H[i]? = some .free ∨ H.length ≤ i) := by
      rcases hi with hi | hi
      · rcases hget i _ hi with ⟨_, h⟩ | ⟨h1, h⟩
        · cases h
        · exact ⟨h1, .inl h⟩
      · rw [List.length_set] at hi; exact ⟨by omega, .inr hi⟩
    rw [hτ' i hne.1]
    exact hw.free i hne.2


/-- The first append to an empty list that will be written in place, where the order is open: two entries are kept for it. -/
theorem op_appendEHR {α : Type} {f : α → D} {l' r : List α} {x y : Operand} {t e s bytes r0 r1 : Nat} (ht : SlT P t e s bytes) (hx : Is (ρ x) (.ex [])) (hy : As (ρ y) (.sl (l'.map f))) (hxy : y ≠ x) (h0 : H[r0]? = some .free) (h1 : H[r1]? = some .free) (hne : r0 ≠ r1) (hf : En f s) (hv : app bytes [] l' = some r) :
    OpV P (.call ⟨.builtin .append, #[x, y], #[t, t]⟩) ty ρ H (.hs r1 0 r.length s) ((H.set r0 .dead).set r1 (.lst (r.map f) e s)) := by
  classical
  intro g w rr pos after guard dst hw h
  have hx1 := hx.rep (h x (by simp [Op.operands, Call.operands]))
  have hl0 : r0 < H.length := (List.getElem?_eq_some_iff.1 h0).1
  generalize hrx : rr x = vx at hx1
  cases hx1 with
  | @ex _ ad hd =>
    obtain ⟨g1, w1, w2, w3⟩ := WOK.lstizeF (e := e) (s := s) (ad := ad) hw h0
    have hy2 := hy.rep (h y (by simp [Op.operands, Call.operands]))
    have key := op_appendHRM (P := P) (ty := ty) (ρ := fun z => if z = x then .hs r0 0 0 s else .d (.sl (l'.map f))) (H := H.set r0 (.lst [] e s)) (x := x) (y := y) (l := ([] : List α)) (l' := l') (r := r) (f := f) (id := r0) (len := 0) (res := r1) ht
      (.e (by simp)) (by rw [if_neg hxy]; exact .r rfl) (by rw [List.getElem?_set_self hl0]; rfl) rfl (by rw [List.getElem?_set_ne hne]; exact h1) hf hv g1 w rr pos after guard dst w1 (fun z hz => by
        simp only [Op.operands, Call.operands] at hz
        by_cases hzx : z = x
        · subst hzx
          simp only [if_pos]
          rw [hrx]
          exact .hs w3 (fun _ => ⟨rfl, rfl, rfl, Nat.le_refl _⟩)
        · simp only [if_neg hzx]
          have : z = y := by simp at hz; rcases hz with hz | hz; exact absurd hz hzx; exact hz
          subst this
          exact .d (hy2.mono w2.pr))
    rw [List.set_set] at key
    unfold OpRuns at key ⊢
    revert key
    generalize (execOp rr ⟨dst, .call ⟨.builtin .append, #[x, y], #[t, t]⟩, ty, pos, after, guard⟩).run P w = res
    have fin : ∀ {rv : Value} {w' : World}, (∃ g', WOK g' w' ((H.set r0 .dead).set r1 (.lst (r.map f) e s)) ∧ Evo g1 w g' w' ∧ Rep g' w' (.hs r1 0 r.length s) rv) →
        ∃ g', WOK g' w' ((H.set r0 .dead).set r1 (.lst (r.map f) e s)) ∧ Evo g w g' w' ∧ Rep g' w' (.hs r1 0 r.length s) rv := by
      rintro rv w' ⟨g', q1, q2, q3⟩
      exact ⟨g', q1, w2.trans q2, q3⟩
    cases res with
    | ok n w' =>
      cases n <;> simp only <;> intro k
      case value v => exact fin k
      case skip => exact fin k
      case enter f0 args => exact k.mono fun e w'' ⟨v, h1, h2⟩ => ⟨v, h1, fin h2⟩
      all_goals exact k
    | halt x w' => exact fun k => k
end
section
variable {P : Program} {ρ : Operand → V} {H : List HE} {ty : TypeId} {α : Type} {f : α → D} {M : List (Bool × List α)} {e eo N : Nat}
end
end Go.Proofs.YtkdefjliknpliaaGreatDoor.Ab
