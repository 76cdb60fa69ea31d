/- Lists that are made where the order of evaluation is left open; calls that only read the heap. Conditions: none. -/
import Derived.Test.YtjinohfopjlgkaaAb21
namespace Go.Proofs.Ytjinohfopjlgkaa.Ab
open Go
section
variable {P : Program} {ρ : Operand → V} {H : List HE} {ty : TypeId}
end

/-- A list under a new number, at the end of the heap. -/
theorem AW.moveL {F : FC} {Q : Exit → St → Prop} {c : Code} {E : Nat → V} {H : List HE} {α : Type} {f : α → D} {l : List α} {e : TypeId} {s len n : Nat} (id : Nat) (ts : List Nat) (hH : H[id]? = some (.lst (l.map f) e s)) (hn : H.length = n)
    (hE : SameE E (.hs id 0 len s) ts) (h : AW F c Q ⟨setE E ts (.hs n 0 len s), H.set id .dead ++ [.lst (l.map f) e s]⟩) : AW F c Q ⟨E, H⟩ := by
  subst hn
  rintro a w ⟨h1, h2, g, h3, h4, h5⟩
  have hidlt : id < H.length := (List.getElem?_eq_some_iff.1 hH).1
  obtain ⟨g', w1, w2, w3, _, _, w6⟩ := h3.addFree.moveLst (id := id) (n := H.length) (by rw [List.getElem?_append_left hidlt]; exact hH) (by simp)
  rw [set_last2 _ _ _ hidlt] at w1
  refine h a w ⟨h1, h2, g', w1, h4.trans w2, fun i => setE_rep ((h5 i).mono w2) (fun hr => ?_) hE⟩
  generalize a.tmps.getD i undef = r at hr ⊢
  cases hr with
  | @hs _ _ _ _ m cap' n0 c0 a' a0' p1 p2 =>
    exact .hs (w3.trans (w6.symm.trans p1)) p2

/-- A function that makes a list: the list has the number of a free entry. -/
theorem FnO.atR {P : Program} {f : FuncId} {ds : List D} {l : List D} {e : TypeId} {s len res : Nat} {H : List HE} (h : ACall P f (ds.map .d) [] fun r H' => r = resOf [.hs 0 0 len s] ∧ H' = [.lst l e s]) (hfr : H[res]? = some .free) :
    ACall P f (ds.map .d) H fun r H' => r = .hs res 0 len s ∧ H' = H.set res (.lst l e s) := by
  intro g w vals hw hs ha
  let g0 : G := { σ := fun _ => none, τ := fun _ => none, υ := fun _ _ => False, X := fun _ => False, Pr := g.Pr }
  have hw0 : WOK g0 w [] := by
    refine ⟨hw.pr, fun b hb => hb.elim, ?_, ?_, ?_, ?_, ?_, ?_, fun _ _ => ⟨rfl, rfl, fun _ h => h⟩, fun x hx => ⟨fun h => h, (hw.kc x hx).2⟩⟩ <;> intros <;> simp_all
  have ha0 : ∀ (i : Nat) x v, (ds.map V.d)[i]? = some x → vals[i]? = some v → Rep g0 w x v := by
    intro i x v hx hv
    have := ha i x v hx hv
    simp only [List.getElem?_map, Option.map_eq_some_iff] at hx
    obtain ⟨y, _, rfl⟩ := hx
    cases this with
    | d hd => exact .d hd
  refine (h g0 w vals hw0 hs ha0).mono ?_
  rintro e' w' ⟨rv, r, g', H', rfl, hw', he, hr, rfl, rfl⟩
  have keep : ∀ b, b < w.heap.size → w'.heap[b]? = w.heap[b]? := fun b hb => he.keep b hb (fun h => h)
  have hreslt : res < H.length := (List.getElem?_eq_some_iff.1 hfr).1
  have hget : ∀ (i : Nat) x, (H.set res (.lst l e s))[i]? = some x → (i = res ∧ x = .lst l e s) ∨ (i ≠ res ∧ H[i]? = some x) := by
    intro i x hx
    by_cases hi : i = res
    · subst hi; rw [List.getElem?_set_self hreslt] at hx; exact .inl ⟨rfl, (Option.some.inj hx).symm⟩
    · rw [List.getElem?_set_ne (Ne.symm hi)] at hx; exact .inr ⟨hi, hx⟩
  obtain ⟨hfσ, hfτ, hfυ⟩ := hw.free res (.inl hfr)
  let g2 : G := { σ := fun i => if i = res then g'.σ 0 else g.σ i, τ := fun i => if i = res then g'.τ 0 else g.τ i, υ := g.υ, X := fun b => g.X b ∨ g'.X b, Pr := g'.Pr }
  have hX' : ∀ b, g'.X b → w.heap.size ≤ b := fun b hb => (he.x b hb).resolve_left (fun h => h)
  have hold : ∀ b o, g'.Pr b o → b < w.heap.size → g.Pr b o := by
    intro b o hp hb
    rcases he.prn b o hp with h1 | h1 | h1
    · exact h1
    · exact h1.elim
    · omega
  have hτne : ∀ i, i ≠ res → g2.τ i = g.τ i := fun i hi => by simp [g2, hi]
  have hσne : ∀ i, i ≠ res → g2.σ i = g.σ i := fun i hi => by simp [g2, hi]
  have hev : Evo g w g2 w' := {
    same := he.same
    size := he.size
    pr := he.pr
    prn := fun b o hp => by
      rcases he.prn b o hp with h1 | h1 | h1
      · exact .inl h1
      · exact h1.elim
      · exact .inr (.inr h1)
    x := fun b hb => hb.imp (fun h => h) (hX' b)
    keep := fun b hb _ => keep b hb
    σ := fun i b h => by
      have hi : i ≠ res := fun e => by subst e; rw [hfσ] at h; cases h
      rw [hσne i hi]; exact h
    τ := fun i m a cap h => by
      have hi : i ≠ res := fun e => by subst e; rw [hfτ] at h; cases h
      exact ⟨m, a, cap, by rw [hτne i hi]; exact h, .inr ⟨rfl, rfl, rfl⟩⟩ }
  have hblk : ∀ (i : Nat) x b, (H.set res (.lst l e s))[i]? = some x → g2.blk i x b →
      (i ≠ res ∧ H[i]? = some x ∧ g.blk i x b ∧ b < w.heap.size) ∨ (i = res ∧ g'.blk 0 (.lst l e s) b ∧ w.heap.size ≤ b) := by
    intro i x b hx hb
    rcases hget i x hx with ⟨rfl, rfl⟩ | ⟨hi, h1⟩
    · have : g'.blk 0 (.lst l e s) b := by simpa [G.blk, g2] using hb
      exact .inr ⟨rfl, this, hX' b (hw'.blk 0 _ b (by simp) this)⟩
    · have : g.blk i x b := by
        cases x <;> simp only [G.blk, hτne i hi, hσne i hi] at hb ⊢ <;> exact hb
      exact .inl ⟨hi, h1, this, hw.xs b (hw.blk i x b h1 this)⟩
  refine ⟨rv, .hs res 0 len s, g2, _, rfl, ⟨hw'.pr, ?_, ?_, ?_, ?_, ?_, ?_, ?_, ?_, hw.kcE hev⟩, hev, ?_, rfl, rfl⟩
  · rintro b (hb | hb)
    · exact Nat.lt_of_lt_of_le (hw.xs b hb) he.size
    · exact hw'.xs b hb
  · intro i x b hx hb
    rcases hblk i x b hx hb with ⟨_, h1, h2, _⟩ | ⟨_, h1, _⟩
    · exact .inl (hw.blk i x b h1 h2)
    · exact .inr (hw'.blk 0 _ b (by simp) h1)
  · intro i i' x x' b hx hx' hb hb'
    rcases hblk i x b hx hb with ⟨_, h1, h2, h3⟩ | ⟨h1, h2, h3⟩ <;> rcases hblk i' x' b hx' hb' with ⟨_, h4, h5, h6⟩ | ⟨h4, h5, h6⟩
    · exact hw.sep i i' x x' b h1 h4 h2 h5
    · omega
    · omega
    · omega
  · intro i c hx
    rcases hget i _ hx with ⟨_, h⟩ | ⟨hi, h⟩
    · cases h
    · obtain ⟨b, arr, et, h1, h2, h3, h4, h5⟩ := hw.row i c h
      have hb : b < w.heap.size := hw.xs b (hw.blk i _ b h h1)
      exact ⟨b, arr, et, by rw [hσne i hi]; exact h1, (keep b hb).trans h2, h3, fun k x v hx hv => (h4 k x v hx hv).mono hev, fun o hp => h5 o (hold b o hp hb)⟩
  · intro i n e1 s1 hx
    rcases hget i _ hx with ⟨_, h⟩ | ⟨hi, h⟩
    · cases h
    · obtain ⟨a, cap, h1, h2, h2', h3⟩ := hw.tok i n e1 s1 h
      refine ⟨a, cap, by rw [hτne i hi]; exact h1, h2, h2', fun hlt => ?_⟩
      obtain ⟨b, arr, e1, e2, e3, e4⟩ := h3 hlt
      have hb : b < w.heap.size := hw.xs _ (hw.blk i _ b h (by simp [G.blk, h1, e1, hlt]))
      exact ⟨b, arr, e1, (keep _ hb).trans e2, e3, fun o hp => e4 o (hold _ o hp hb)⟩
  · intro i l1 e1 s1 hx
    rcases hget i _ hx with ⟨rfl, h⟩ | ⟨hi, h⟩
    · injection h with q1 q2 q3
      subst q1; subst q2; subst q3
      obtain ⟨a, cap, k1, k2, k3, k4⟩ := hw'.lst 0 l1 e1 s1 (by simp)
      refine ⟨a, cap, by simpa [g2] using k1, k2, k3, fun hc => ?_⟩
      obtain ⟨b, arr, p1, p2, p3⟩ := k4 hc
      exact ⟨b, arr, p1, by simpa [g2] using p2, p3⟩
    · obtain ⟨a, cap, h1, h2, h2', h3⟩ := hw.lst i l1 e1 s1 h
      refine ⟨a, cap, by rw [hτne i hi]; exact h1, h2, h2', fun hlt => ?_⟩
      obtain ⟨b, arr, e1, e0, e2, e3, e4, e5⟩ := h3 hlt
      have hb : b < w.heap.size := hw.xs _ (hw.blk i _ b h (by simp [G.blk, h1, e1, hlt]))
      exact ⟨b, arr, e1, by rw [hσne i hi]; exact e0, (keep _ hb).trans e2, e3, fun o hp => e4 o (hold _ o hp hb), fun k x v hx hv => (e5 k x v hx hv).mono hev.pr⟩
  · intro i x hx
    rcases hget i _ hx with ⟨_, h⟩ | ⟨hi, h⟩
    · cases h
    · obtain ⟨b, h1, h2, h3, h4⟩ := hw.ob i x h
      have hb : b < w.heap.size := hw.xs b (hw.blk i _ b h (.inl h1))
      have hbu : ∀ b', g.υ i b' → b' < w.heap.size := fun b' hu => hw.xs b' (hw.blk i _ b' h (.inr hu))
      exact ⟨b, by rw [hσne i hi]; exact h1, x.st hev (hτne i hi) rfl (keep b hb) (fun b' hu => keep b' (hbu b' hu)) h2, fun o hp => h3 o (hold b o hp hb), fun b' o hu hp => h4 b' o hu (hold b' o hp (hbu b' hu))⟩
  · intro i hi
    have : i ≠ res ∧ (H[i]? = some .free ∨ H.length ≤ i) := by
      rcases hi with hi | hi
      · rcases hget i _ hi with ⟨_, h⟩ | ⟨h1, h2⟩
        · cases h
        · exact ⟨h1, .inl h2⟩
      · simp at hi; exact ⟨by omega, .inr (by omega)⟩
    rw [hτne i this.1, hσne i this.1]
    exact hw.free i this.2
  · simp only [resOf] at hr
    cases hr with
    | hs ht heq => exact .hs (by simpa [g2] using ht) heq

section
variable {P : Program} {ρ : Operand → V} {H : List HE} {ty : TypeId}
theorem op_callNew {fop : Operand} {f : FuncId} {args : Array Operand} {ts : Array TypeId} {ds : List D} {l : List D} {e : TypeId} {s len res : Nat} (hc : ∀ (a : Array Value) (w : World), (callFunc f a).run P w = .ok (.enter f a) w)
    (hf : Is (ρ fop) (.fn (.func f) [])) (ha : ArgsD ρ args.toList ds) (h : ACall P f (ds.map .d) [] fun r H' => r = resOf [.hs 0 0 len s] ∧ H' = [.lst l e s]) (hfr : H[res]? = some .free) : OpV P (.call ⟨.value fop, args, ts⟩) ty ρ H (.hs res 0 len s) (H.set res (.lst l e s)) :=
  op_callD hc hf ha (FnO.atR h hfr)
end

section
variable {P : Program} {ρ : Operand → V} {H : List HE} {ty : TypeId}
end
end Go.Proofs.Ytjinohfopjlgkaa.Ab
