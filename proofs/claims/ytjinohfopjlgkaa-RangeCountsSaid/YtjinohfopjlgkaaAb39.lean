/- Calls that take a list over and hand one back, where the order is open. Conditions: none. -/
import Derived.Test.YtjinohfopjlgkaaAb38
namespace Go.Proofs.Ytjinohfopjlgkaa.Ab
open Go Go.RowKit

/-- A function that takes a list over and hands one back: it has the number of a free entry. -/
theorem FnT.atR {P : Program} {f : FuncId} {ds : List D} {l l2 : List D} {e e2 : TypeId} {s s2 len len2 id res : Nat} {H : List HE} (h : ACall P f (.hs 0 0 len s :: ds.map .d) [.lst l e s] fun r H' => r = resOf [.hs 1 0 len2 s2] ∧ H' = [.dead, .lst l2 e2 s2])
    (hid : H[id]? = some (.lst l e s)) (hfr : H[res]? = some .free) :
    ACall P f (.hs id 0 len s :: ds.map .d) H fun r H' => r = .hs res 0 len2 s2 ∧ H' = (H.set id .dead).set res (.lst l2 e2 s2) := by
  intro g w vals hw hs ha
  let g0 : G := { σ := fun i => if i = 0 then g.σ id else none, τ := fun i => if i = 0 then g.τ id else none, υ := fun _ _ => False, X := fun b => g.blk id (.lst l e s) b, Pr := g.Pr }
  have hgX : ∀ b, g0.X b → g.X b := fun b hb => hw.blk id _ b hid hb
  have hz : ∀ {i : Nat} {x : HE}, [HE.lst l e s][i]? = some x → i = 0 ∧ x = .lst l e s := fun {i x} hx => by
    rcases i with _ | i
    · exact ⟨rfl, by simpa using hx.symm⟩
    · simp at hx
  have hw0 : WOK g0 w [.lst l e s] := by
    refine ⟨hw.pr, fun b hb => hw.xs b (hgX b hb), fun i x b hx hb => ?_, fun i i' x x' b hx hx' _ _ => ?_, fun i c hx => ?_, fun i n e1 s1 hx => ?_, fun i l1 e1 s1 hx => ?_, fun i x hx => ?_, fun i hi => ?_, fun x hx => ⟨fun hc => (hw.kc x hx).1 (hgX _ hc), (hw.kc x hx).2⟩⟩
    · obtain ⟨rfl, rfl⟩ := hz hx
      simpa [G.blk, g0] using hb
    · rw [(hz hx).1, (hz hx').1]
    · cases (hz hx).2
    · cases (hz hx).2
    · obtain ⟨rfl, hq⟩ := hz hx
      injection hq with q1 q2 q3
      subst q1; subst q2; subst q3
      obtain ⟨a, cap, k1, k2, k3, k4⟩ := hw.lst id _ _ _ hid
      refine ⟨a, cap, by simpa [g0] using k1, k2, k3, fun hc => ?_⟩
      obtain ⟨b, arr, p1, p2, p3⟩ := k4 hc
      exact ⟨b, arr, p1, by simpa [g0] using p2, p3⟩
    · cases (hz hx).2
    · have : i ≠ 0 := by
        rcases hi with hi | hi
        · intro h0; subst h0; simp at hi
        · simp at hi; omega
      simp [g0, this]
  have ha0 : ∀ (i : Nat) x v, (V.hs 0 0 len s :: ds.map V.d)[i]? = some x → vals[i]? = some v → Rep g0 w x v := by
    intro i x v hx hv
    rcases i with _ | i
    · have := ha 0 _ v rfl hv
      simp only [List.getElem?_cons_zero, Option.some.injEq] at hx
      subst hx
      cases this with
      | hs ht heq => exact .hs (by simpa [g0] using ht) heq
    · have := ha (i + 1) x v (by simpa using hx) hv
      simp only [List.getElem?_cons_succ, List.getElem?_map, Option.map_eq_some_iff] at hx
      obtain ⟨y, _, rfl⟩ := hx
      cases this with
      | d hd => exact .d hd
  refine (h g0 w vals hw0 (by simpa using hs) ha0).mono ?_
  rintro e' w' ⟨rv, r, g', H', rfl, hw', he, hr, rfl, rfl⟩
  have keep : ∀ b, b < w.heap.size → ¬ g0.X b → w'.heap[b]? = w.heap[b]? := fun b hb hx => he.keep b hb hx
  have hreslt : res < H.length := (List.getElem?_eq_some_iff.1 hfr).1
  have hidlt : id < H.length := (List.getElem?_eq_some_iff.1 hid).1
  have hne : id ≠ res := fun e => by subst e; rw [hfr] at hid; cases hid
  have hget : ∀ (i : Nat) x, ((H.set id .dead).set res (.lst l2 e2 s2))[i]? = some x → (i = res ∧ x = .lst l2 e2 s2) ∨ (i = id ∧ x = .dead) ∨ (i ≠ res ∧ i ≠ id ∧ H[i]? = some x) := by
    intro i x hx
    by_cases hi : i = res
    · subst hi; rw [List.getElem?_set_self (by simpa using hreslt)] at hx; exact .inl ⟨rfl, (Option.some.inj hx).symm⟩
    · rw [List.getElem?_set_ne (Ne.symm hi)] at hx
      by_cases hi2 : i = id
      · subst hi2; rw [List.getElem?_set_self hidlt] at hx; exact .inr (.inl ⟨rfl, (Option.some.inj hx).symm⟩)
      · rw [List.getElem?_set_ne (Ne.symm hi2)] at hx; exact .inr (.inr ⟨hi, hi2, hx⟩)
  obtain ⟨hfσ, hfτ, hfυ⟩ := hw.free res (.inl hfr)
  let g2 : G := { σ := fun i => if i = res then g'.σ 1 else g.σ i, τ := fun i => if i = res then g'.τ 1 else g.τ i, υ := g.υ, X := fun b => g.X b ∨ g'.X b, Pr := g'.Pr }
  have hX' : ∀ b, g'.X b → g0.X b ∨ w.heap.size ≤ b := fun b hb => he.x b hb
  have hold : ∀ b o, g'.Pr b o → b < w.heap.size → ¬ g0.X b → g.Pr b o := by
    intro b o hp hb hx
    rcases he.prn b o hp with h1 | h1 | h1
    · exact h1
    · exact (hx h1).elim
    · omega
  have hτne : ∀ i, i ≠ res → g2.τ i = g.τ i := fun i hi => by simp [g2, hi]
  have hσne : ∀ i, i ≠ res → g2.σ i = g.σ i := fun i hi => by simp [g2, hi]
  have hsep : ∀ (i : Nat) x b, i ≠ id → H[i]? = some x → g.blk i x b → ¬ g0.X b := fun i x b hi hx hb hc => hi (hw.sep i id x _ b hx hid hb hc)
  have hev : Evo g w g2 w' := {
    same := he.same
    size := he.size
    pr := he.pr
    prn := fun b o hp => by
      rcases he.prn b o hp with h1 | h1 | h1
      · exact .inl h1
      · exact .inr (.inl (hgX b h1))
      · exact .inr (.inr h1)
    x := fun b hb => by
      rcases hb with hb | hb
      · exact .inl hb
      · exact (hX' b hb).imp (hgX b) (fun h => h)
    keep := fun b hb hx => keep b hb (fun hc => hx (hgX b hc))
    σ := fun i b h => by
      have hi : i ≠ res := fun e => by subst e; rw [hfσ] at h; cases h
      rw [hσne i hi]; exact h
    τ := fun i m a cap h => by
      have hi : i ≠ res := fun e => by subst e; rw [hfτ] at h; cases h
      exact ⟨m, a, cap, by rw [hτne i hi]; exact h, .inr ⟨rfl, rfl, rfl⟩⟩ }
  have hblk : ∀ (i : Nat) x b, ((H.set id .dead).set res (.lst l2 e2 s2))[i]? = some x → g2.blk i x b →
      (i ≠ res ∧ H[i]? = some x ∧ g.blk i x b ∧ b < w.heap.size ∧ ¬ g0.X b) ∨ (i = res ∧ g'.blk 1 (.lst l2 e2 s2) b ∧ g'.X b) := by
    intro i x b hx hb
    rcases hget i x hx with ⟨rfl, rfl⟩ | ⟨rfl, rfl⟩ | ⟨hi, hi2, h1⟩
    · have : g'.blk 1 (.lst l2 e2 s2) b := by simpa [G.blk, g2] using hb
      exact .inr ⟨rfl, this, hw'.blk 1 _ b (by simp) this⟩
    · simp [G.blk] at hb
    · have : g.blk i x b := by
        cases x <;> simp only [G.blk, hτne i hi, hσne i hi] at hb ⊢ <;> exact hb
      exact .inl ⟨hi, h1, this, hw.xs b (hw.blk i x b h1 this), hsep i x b hi2 h1 this⟩
  have hfar : ∀ b, g'.X b → b < w.heap.size → g0.X b := fun b hb hlt => (hX' b hb).resolve_right (by omega)
  refine ⟨rv, .hs res 0 len2 s2, g2, _, rfl, ⟨hw'.pr, ?_, ?_, ?_, ?_, ?_, ?_, ?_, ?_, hw.kcE hev⟩, hev, ?_, rfl, rfl⟩
  · rintro b (hb | hb)
    · exact Nat.lt_of_lt_of_le (hw.xs b hb) he.size
    · exact hw'.xs b hb
  · intro i x b hx hb
    rcases hblk i x b hx hb with ⟨_, h1, h2, _⟩ | ⟨_, _, h1⟩
    · exact .inl (hw.blk i x b h1 h2)
    · exact .inr h1
  · intro i i' x x' b hx hx' hb hb'
    rcases hblk i x b hx hb with ⟨_, h1, h2, h3, h4⟩ | ⟨h1, h2, h3⟩ <;> rcases hblk i' x' b hx' hb' with ⟨_, k1, k2, k3, k4⟩ | ⟨k1, k2, k3⟩
    · exact hw.sep i i' x x' b h1 k1 h2 k2
    · exact (h4 (hfar b k3 h3)).elim
    · exact (k4 (hfar b h3 k3)).elim
    · omega
  · intro i c hx
    rcases hget i _ hx with ⟨_, h⟩ | ⟨_, h⟩ | ⟨hi, hi2, h⟩
    · cases h
    · cases h
    · obtain ⟨b, arr, et, h1, h2, h3, h4, h5⟩ := hw.row i c h
      have hB : g.blk i (.row c) b := h1
      have hb : b < w.heap.size := hw.xs b (hw.blk i _ b h hB)
      have hx := hsep i _ b hi2 h hB
      exact ⟨b, arr, et, by rw [hσne i hi]; exact h1, (keep b hb hx).trans h2, h3, fun k x v hx hv => (h4 k x v hx hv).mono hev, fun o hp => h5 o (hold b o hp hb hx)⟩
  · intro i n e1 s1 hx
    rcases hget i _ hx with ⟨_, h⟩ | ⟨_, h⟩ | ⟨hi, hi2, h⟩
    · cases h
    · cases h
    · obtain ⟨a, cap, h1, h2, h2', h3⟩ := hw.tok i n e1 s1 h
      refine ⟨a, cap, by rw [hτne i hi]; exact h1, h2, h2', fun hlt => ?_⟩
      obtain ⟨b, arr, u1, u2, u3, u4⟩ := h3 hlt
      have hB : g.blk i (.tok n e1 s1) b := by simp [G.blk, h1, u1, hlt]
      have hb : b < w.heap.size := hw.xs _ (hw.blk i _ b h hB)
      have hx := hsep i _ b hi2 h hB
      exact ⟨b, arr, u1, (keep _ hb hx).trans u2, u3, fun o hp => u4 o (hold _ o hp hb hx)⟩
  · intro i l1 e1 s1 hx
    rcases hget i _ hx with ⟨rfl, h⟩ | ⟨_, h⟩ | ⟨hi, hi2, h⟩
    · injection h with q1 q2 q3
      subst q1; subst q2; subst q3
      obtain ⟨a, cap, k1, k2, k3, k4⟩ := hw'.lst 1 l1 e1 s1 (by simp)
      refine ⟨a, cap, by simpa [g2] using k1, k2, k3, fun hc => ?_⟩
      obtain ⟨b, arr, p1, p2, p3⟩ := k4 hc
      exact ⟨b, arr, p1, by simpa [g2] using p2, p3⟩
    · cases h
    · obtain ⟨a, cap, h1, h2, h2', h3⟩ := hw.lst i l1 e1 s1 h
      refine ⟨a, cap, by rw [hτne i hi]; exact h1, h2, h2', fun hlt => ?_⟩
      obtain ⟨b, arr, u1, u0, u2, u3, u4, u5⟩ := h3 hlt
      have hB : g.blk i (.lst l1 e1 s1) b := by simp [G.blk, h1, u1, hlt]
      have hb : b < w.heap.size := hw.xs _ (hw.blk i _ b h hB)
      have hx := hsep i _ b hi2 h hB
      exact ⟨b, arr, u1, by rw [hσne i hi]; exact u0, (keep _ hb hx).trans u2, u3, fun o hp => u4 o (hold _ o hp hb hx), fun k x v hx hv => (u5 k x v hx hv).mono hev.pr⟩
  · intro i x hx
    rcases hget i _ hx with ⟨_, h⟩ | ⟨_, h⟩ | ⟨hi, hi2, h⟩
    · cases h
    · cases h
    · obtain ⟨b, h1, h2, h3, h4⟩ := hw.ob i x h
      have hB : g.blk i (.ob x) b := .inl h1
      have hb : b < w.heap.size := hw.xs b (hw.blk i _ b h hB)
      have hx := hsep i _ b hi2 h hB
      have hbu : ∀ b', g.υ i b' → b' < w.heap.size := fun b' hu => hw.xs b' (hw.blk i _ b' h (.inr hu))
      have hxu : ∀ b', g.υ i b' → ¬ g0.X b' := fun b' hu => hsep i _ b' hi2 h (.inr hu)
      exact ⟨b, by rw [hσne i hi]; exact h1, x.st hev (hτne i hi) rfl (keep b hb hx) (fun b' hu => keep b' (hbu b' hu) (hxu b' hu)) h2, fun o hp => h3 o (hold b o hp hb hx), fun b' o hu hp => h4 b' o hu (hold b' o hp (hbu b' hu) (hxu b' hu))⟩
  · intro i hi
    have : i ≠ res ∧ (H[i]? = some .free ∨ H.length ≤ i) := by
      rcases hi with hi | hi
      · rcases hget i _ hi with ⟨_, h⟩ | ⟨_, h⟩ | ⟨h1, _, h2⟩
        · cases h
        · cases h
        · exact ⟨h1, .inl h2⟩
      · simp at hi; exact ⟨by omega, .inr (by omega)⟩
    rw [hτne i this.1, hσne i this.1]
    exact hw.free i this.2
  · simp only [resOf] at hr
    cases hr with
    | hs ht heq => exact .hs (by simpa [g2] using ht) heq

section
variable {P : Program} {ρ : Operand → V} {H : List HE} {ty : TypeId}
theorem op_callOwn {fop : Operand} {f : FuncId} {x : Operand} {xs : List Operand} {ts : Array TypeId} {ds : List D} {l l2 : List D} {e e2 : TypeId} {s s2 len len2 id res : Nat} (hc : ∀ (a : Array Value) (w : World), (callFunc f a).run P w = .ok (.enter f a) w)
    (hf : Is (ρ fop) (.fn (.func f) [])) (hx : Is (ρ x) (.hs id 0 len s)) (ha : ArgsW ρ xs (ds.map .d)) (h : ACall P f (.hs 0 0 len s :: ds.map .d) [.lst l e s] fun r H' => r = resOf [.hs 1 0 len2 s2] ∧ H' = [.dead, .lst l2 e2 s2])
    (hid : H[id]? = some (.lst l e s)) (hfr : H[res]? = some .free) : OpV P (.call ⟨.value fop, (x :: xs).toArray, ts⟩) ty ρ H (.hs res 0 len2 s2) ((H.set id .dead).set res (.lst l2 e2 s2)) :=
  op_callW hc hf (.i hx ha) (FnT.atR h hid hfr)
end
end Go.Proofs.Ytjinohfopjlgkaa.Ab
