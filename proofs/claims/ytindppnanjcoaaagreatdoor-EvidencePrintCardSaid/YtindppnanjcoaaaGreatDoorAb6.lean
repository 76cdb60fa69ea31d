/- Growing lists: append; and the entry of a function and its results. Conditions: none. -/
import Derived.Test.YtindppnanjcoaaaGreatDoorAb5
namespace Go.Proofs.YtindppnanjcoaaaGreatDoor.Ab
open Go

section
variable {P : Program} {ρ : Operand → V} {H : List HE} {ty : TypeId}

/-- A growing list has moved to new memory. -/
theorem WOK.tokNew {g : G} {w w' : World} {id n cap s : Nat} {e : TypeId} {e0 : HE} {arr : Array Value} (hw : WOK g w H) (hH : H[id]? = some e0) (he0 : e0 = .free ∨ ∃ m, e0 = .tok m e s ∧ m < n)
    (hsame : w'.os = w.os ∧ w'.tape = w.tape ∧ w'.output = w.output) (hh : w'.heap = w.heap.push (.cells arr e (0, 0))) (harr : arr.size = cap * s) (hnc : n ≤ cap) (hcap : cap ≤ 9223372036854775807) :
    ∃ g', WOK g' w' (H.set id (.tok n e s)) ∧ Evo g w g' w' ∧ g'.τ id = some (n, some ⟨w.heap.size, 0, none⟩, cap) ∧ (∀ o, o < n * s → g'.Pr w.heap.size o) ∧ w'.heap[w.heap.size]? = some (.cells arr e (0, 0)) := by
  have hidlt : id < H.length := (List.getElem?_eq_some_iff.1 hH).1
  let B := w.heap.size
  let g' : G := { σ := g.σ, τ := fun i => if i = id then some (n, some ⟨B, 0, none⟩, cap) else g.τ i, υ := g.υ, X := fun b => g.X b ∨ b = B, Pr := fun b o => g.Pr b o ∨ (b = B ∧ o < n * s) }
  have hold : ∀ b, b < B → w'.heap[b]? = w.heap[b]? := fun b hb => by
    rw [hh, Array.getElem?_push, if_neg (by omega)]
  have hnew : w'.heap[B]? = some (.cells arr e (0, 0)) := by simp [hh, B]
  have hsz : w'.heap.size = B + 1 := by simp [hh, B]
  have hτ' : ∀ i, i ≠ id → g'.τ i = g.τ i := fun i h => by simp [g', h]
  have hτid : g'.τ id = some (n, some ⟨B, 0, none⟩, cap) := by simp [g']
  have hτold : ∀ m a c, g.τ id = some (m, a, c) → m < n := fun m a c h => by
    rcases he0 with rfl | ⟨m', rfl, hlt⟩
    · have := (hw.free id (.inl hH)).2.1; rw [this] at h; cases h
    · obtain ⟨a', c', h1, _⟩ := hw.tok id m' e s hH
      rw [h1] at h; injection h with h; injection h with h; omega
  have hev : Evo g w g' w' := {
    same := hsame
    size := by omega
    pr := fun b o hp => ⟨.inl hp, by have := hw.pr b o hp; simp [World.cell?, hold b this]⟩
    prn := fun b o h => by
      rcases h with h | ⟨rfl, _⟩
      · exact .inl h
      · exact .inr (.inr (Nat.le_refl _))
    x := fun b h => h.imp (fun h => h) (fun e => by omega)
    keep := fun b hb _ => hold b hb
    σ := fun i b h => h
    τ := fun i m a c h => by
      by_cases hi : i = id
      · subst hi; exact ⟨n, _, cap, hτid, .inl (hτold m a c h)⟩
      · exact ⟨m, a, c, by rw [hτ' i hi]; exact h, .inr ⟨rfl, rfl, rfl⟩⟩ }
  have hget : ∀ (i : Nat) x, (H.set id (.tok n e s))[i]? = some x → (i = id ∧ x = .tok n e s) ∨ (i ≠ id ∧ H[i]? = some x) := by
    intro i x he
    by_cases hi : i = id
    · subst hi; rw [List.getElem?_set_self hidlt] at he; exact .inl ⟨rfl, (Option.some.inj he).symm⟩
    · rw [List.getElem?_set_ne (Ne.symm hi)] at he; exact .inr ⟨hi, he⟩
  have hblk : ∀ (i : Nat) x b', (H.set id (.tok n e s))[i]? = some x → g'.blk i x b' → (i = id ∧ b' = B) ∨ (i ≠ id ∧ H[i]? = some x ∧ g.blk i x b' ∧ b' < B) := by
    intro i x b' he hb'
    rcases hget i x he with ⟨rfl, rfl⟩ | ⟨hne, h⟩
    · simp only [G.blk, hτid, Option.bind_some] at hb'
      split at hb' <;> simp at hb'
      exact .inl ⟨rfl, hb'.symm⟩
    · have : g.blk i x b' := by
        cases x with
        | tok m e1 s1 => simp only [G.blk, hτ' i hne] at hb' ⊢; exact hb'
        | row c => exact hb'
        | free => exact hb'
        | dead => exact hb'
        | lst l1 e1 s1 => simp only [G.blk, hτ' i hne] at hb' ⊢; exact hb'
        | ob => exact hb'
      exact .inr ⟨hne, h, this, hw.xs b' (hw.blk i x b' h this)⟩
  refine ⟨g', ⟨?_, ?_, ?_, ?_, ?_, ?_, ?_, ?_, ?_, hw.kcE hev⟩, hev, hτid, fun o ho => .inr ⟨rfl, ho⟩, hnew⟩
  · intro b o h
    rcases h with h | ⟨rfl, _⟩
    · have := hw.pr b o h; omega
    · omega
  · intro b h
    rcases h with h | rfl
    · have := hw.xs b h; omega
    · omega
  · intro i x b' he hb'
    rcases hblk i x b' he hb' with ⟨_, rfl⟩ | ⟨_, h1, h2, _⟩
    · exact .inr rfl
    · exact .inl (hw.blk i x b' h1 h2)
  · intro i i' x x' b' he he' hb1 hb2
    rcases hblk i x b' he hb1 with ⟨r1, r2⟩ | ⟨_, h1, h2, h3⟩ <;> rcases hblk i' x' b' he' hb2 with ⟨s1, s2⟩ | ⟨_, h4, h5, h6⟩
    · omega
    · omega
    · omega
    · exact hw.sep i i' x x' b' h1 h4 h2 h5
  · intro i ci hi
    rcases hget i _ hi with ⟨_, he⟩ | ⟨hne, h⟩
    · cases he
    · obtain ⟨b1, arr1, et1, g1, g2, g3, g4, g5⟩ := hw.row i ci h
      have hlt := hw.xs b1 (hw.blk i _ b1 h (by simpa [G.blk] using g1))
      refine ⟨b1, arr1, et1, g1, (hold b1 hlt).trans g2, g3, fun k x v hx hv => (g4 k x v hx hv).mono hev, fun o hp => ?_⟩
      rcases hp with hp | ⟨rfl, _⟩
      · exact g5 o hp
      · omega
  · intro i m e1 s1 hi
    rcases hget i _ hi with ⟨rfl, he⟩ | ⟨hne, h⟩
    · injection he with h1 h2 h3
      subst h1; subst h2; subst h3
      refine ⟨_, cap, hτid, hnc, hcap, fun _ => ⟨B, arr, rfl, hnew, harr, fun o hp => ?_⟩⟩
      rcases hp with hp | ⟨_, hp⟩
      · have := hw.pr B o hp; omega
      · exact hp
    · obtain ⟨a, c, g1, g2, g3, g4⟩ := hw.tok i m e1 s1 h
      refine ⟨a, c, by rw [hτ' i hne]; exact g1, g2, g3, fun hlt => ?_⟩
      obtain ⟨b1, arr1, k1, k2, k3, k4⟩ := g4 hlt
      have hlt' := hw.xs b1 (hw.blk i _ b1 h (by simp [G.blk, g1, hlt, k1]))
      refine ⟨b1, arr1, k1, (hold b1 hlt').trans k2, k3, fun o hp => ?_⟩
      rcases hp with hp | ⟨rfl, _⟩
      · exact k4 o hp
      · omega
  · intro i l e1 s1 hi
    rcases hget i _ hi with ⟨rfl, he⟩ | ⟨hne, h⟩
    · cases he
    · obtain ⟨a, c, g1, g2, g3, g4⟩ := hw.lst i l e1 s1 h
      refine ⟨a, c, by rw [hτ' i hne]; exact g1, g2, g3, fun hlt => ?_⟩
      obtain ⟨b1, arr1, k1, k0, k2, k3, k4, k5⟩ := g4 hlt
      have hlt' := hw.xs b1 (hw.blk i _ b1 h (by simp [G.blk, g1, hlt, k1]))
      refine ⟨b1, arr1, k1, k0, (hold b1 hlt').trans k2, k3, fun o hp => ?_, fun k x v hx hv => (k5 k x v hx hv).mono hev.pr⟩
      rcases hp with hp | ⟨rfl, _⟩
      · exact k4 o hp
      · omega
  · intro i x hi
    rcases hget i _ hi with ⟨_, he⟩ | ⟨hne, h⟩
    · cases he
    · obtain ⟨b1, q1, q2, q3, q4⟩ := hw.ob i x h
      have hlt := hw.xs b1 (hw.blk i _ b1 h (.inl q1))
      have hlu : ∀ b', g.υ i b' → b' < w.heap.size := fun b' hu => hw.xs b' (hw.blk i _ b' h (.inr hu))
      refine ⟨b1, q1, x.st hev.w (hτ' i hne) rfl (hold b1 hlt) (fun b' hu => hold b' (hlu b' hu)) q2, fun o hp => ?_, fun b' o hu hp => ?_⟩
      · rcases hp with hp | ⟨rfl, _⟩
        · exact q3 o hp
        · omega
      · have := hlu b' hu
        rcases hp with hp | ⟨rfl, _⟩
        · exact q4 b' o hu hp
        · omega
  · intro i hi
    have hne : i ≠ id := by
      rintro rfl
      rcases hi with hi | hi
      · rw [List.getElem?_set_self hidlt] at hi; cases hi
      · simp at hi; omega
    rw [hτ' i hne]
    refine hw.free i ?_
    rcases hi with hi | hi
    · rw [List.getElem?_set_ne (Ne.symm hne)] at hi; exact .inl hi
    · exact .inr (by simpa using hi)

/-- A growing list has grown where it lies. -/
theorem WOK.tokIn {g : G} {w w' : World} {id n m cap s b : Nat} {e : TypeId} {arr arr' : Array Value} (hw : WOK g w H) (hH : H[id]? = some (.tok n e s))
    (ht : g.τ id = some (n, some ⟨b, 0, none⟩, cap)) (hb : w.heap[b]? = some (.cells arr e (0, 0))) (hbn : n < cap) (hsame : w'.os = w.os ∧ w'.tape = w.tape ∧ w'.output = w.output) (hsz : w'.heap.size = w.heap.size) (hn : w'.heap[b]? = some (.cells arr' e (0, 0)))
    (ho : ∀ b', b' ≠ b → w'.heap[b']? = w.heap[b']?) (harr : arr'.size = cap * s) (hmc : n + m ≤ cap) (hm : 0 < m) (hkeep : ∀ k, k < n * s → arr'[k]? = arr[k]?) :
    ∃ g', WOK g' w' (H.set id (.tok (n + m) e s)) ∧ Evo g w g' w' ∧ g'.τ id = some (n + m, some ⟨b, 0, none⟩, cap) ∧ (∀ o, o < (n + m) * s → g'.Pr b o) := by
  have hidlt : id < H.length := (List.getElem?_eq_some_iff.1 hH).1
  have hX : g.X b := hw.blk id _ b hH (by simp [G.blk, ht, hbn])
  obtain ⟨a0, cap0, f1, f2, f3, f4⟩ := hw.tok id n e s hH
  rw [ht] at f1
  injection f1 with f1; injection f1 with f1 f5; injection f5 with f5 f6
  subst f5; subst f6
  obtain ⟨b0, arr0, k1, k2, k3, k4⟩ := f4 hbn
  obtain rfl : b = b0 := by injection k1 with k1; injection k1
  let g' : G := { σ := g.σ, τ := fun i => if i = id then some (n + m, some ⟨b, 0, none⟩, cap) else g.τ i, υ := g.υ, X := g.X, Pr := fun b' o => g.Pr b' o ∨ (b' = b ∧ o < (n + m) * s) }
  have hτ' : ∀ i, i ≠ id → g'.τ i = g.τ i := fun i h => by simp [g', h]
  have hτid : g'.τ id = some (n + m, some ⟨b, 0, none⟩, cap) := by simp [g']
  have hev : Evo g w g' w' := {
    same := hsame
    size := by omega
    pr := fun b' o hp => ⟨.inl hp, by
      by_cases hbb : b' = b
      · subst hbb
        have hlt := k4 o hp
        simp only [World.cell?, hn, hb]
        exact hkeep o hlt
      · simp [World.cell?, ho b' hbb]⟩
    prn := fun b' o h => by
      rcases h with h | ⟨rfl, _⟩
      · exact .inl h
      · exact .inr (.inl hX)
    x := fun b h => .inl h
    keep := fun b' _ hx => ho b' (fun e => by subst e; exact hx hX)
    σ := fun i b h => h
    τ := fun i m' a c h => by
      by_cases hi : i = id
      · subst hi
        rw [ht] at h; injection h with h; injection h with h h'
        exact ⟨n + m, _, cap, hτid, .inl (by omega)⟩
      · exact ⟨m', a, c, by rw [hτ' i hi]; exact h, .inr ⟨rfl, rfl, rfl⟩⟩ }
  have hget : ∀ (i : Nat) x, (H.set id (.tok (n + m) e s))[i]? = some x → (i = id ∧ x = .tok (n + m) e s) ∨ (i ≠ id ∧ H[i]? = some x) := by
    intro i x he
    by_cases hi : i = id
    · subst hi; rw [List.getElem?_set_self hidlt] at he; exact .inl ⟨rfl, (Option.some.inj he).symm⟩
    · rw [List.getElem?_set_ne (Ne.symm hi)] at he; exact .inr ⟨hi, he⟩
  have hblkid : g.blk id (.tok n e s) b := by simp [G.blk, ht, hbn]
  have hblk : ∀ (i : Nat) x b', (H.set id (.tok (n + m) e s))[i]? = some x → g'.blk i x b' → ∃ x', H[i]? = some x' ∧ g.blk i x' b' := by
    intro i x b' he hb'
    rcases hget i x he with ⟨rfl, rfl⟩ | ⟨hne, h⟩
    · simp only [G.blk, hτid, Option.bind_some] at hb'
      split at hb' <;> simp at hb'
      subst hb'; exact ⟨_, hH, hblkid⟩
    · refine ⟨x, h, ?_⟩
      cases x with
      | tok m e1 s1 => simp only [G.blk, hτ' i hne] at hb' ⊢; exact hb'
      | row c => exact hb'
      | free => exact hb'
      | dead => exact hb'
      | lst l1 e1 s1 => simp only [G.blk, hτ' i hne] at hb' ⊢; exact hb'
      | ob => exact hb'
  have hne' : ∀ (i : Nat) x b', i ≠ id → H[i]? = some x → g.blk i x b' → b' ≠ b := fun i x b' hi hx hbx hc => by
    subst hc; exact hi (hw.sep i id _ _ b' hx hH hbx hblkid)
  refine ⟨g', ⟨?_, fun b h => by rw [hsz]; exact hw.xs b h, ?_, ?_, ?_, ?_, ?_, ?_, ?_, hw.kcE hev⟩, hev, hτid, fun o ho => .inr ⟨rfl, ho⟩⟩
  · intro b' o h
    rw [hsz]
    rcases h with h | ⟨rfl, _⟩
    · exact hw.pr b' o h
    · exact hw.xs _ hX
  · intro i x b' he hb'
    obtain ⟨x', h1, h2⟩ := hblk i x b' he hb'
    exact hw.blk i x' b' h1 h2
  · intro i i' x x' b' he he' hb1 hb2
    obtain ⟨y, h1, h2⟩ := hblk i x b' he hb1
    obtain ⟨y', h3, h4⟩ := hblk i' x' b' he' hb2
    exact hw.sep i i' y y' b' h1 h3 h2 h4
  · intro i ci hi
    rcases hget i _ hi with ⟨_, he⟩ | ⟨hne, h⟩
    · cases he
    · obtain ⟨b1, arr1, et1, g1, g2, g3, g4, g5⟩ := hw.row i ci h
      have hn1 := hne' i _ b1 hne h (by simpa [G.blk] using g1)
      refine ⟨b1, arr1, et1, g1, (ho b1 hn1).trans g2, g3, fun k x v hx hv => (g4 k x v hx hv).mono hev, fun o hp => ?_⟩
      rcases hp with hp | ⟨hc, _⟩
      · exact g5 o hp
      · exact hn1 hc
  · intro i m1 e1 s1 hi
    rcases hget i _ hi with ⟨rfl, he⟩ | ⟨hne, h⟩
    · injection he with h1 h2 h3
      subst h1; subst h2; subst h3
      refine ⟨_, cap, hτid, hmc, f3, fun _ => ⟨b, arr', rfl, hn, harr, fun o hp => ?_⟩⟩
      rcases hp with hp | ⟨_, hp⟩
      · have := k4 o hp
        rw [Nat.add_mul]; omega
      · exact hp
    · obtain ⟨a, c, g1, g2, g3, g4⟩ := hw.tok i m1 e1 s1 h
      refine ⟨a, c, by rw [hτ' i hne]; exact g1, g2, g3, fun hlt => ?_⟩
      obtain ⟨b1, arr1, j1, j2, j3, j4⟩ := g4 hlt
      have hn1 := hne' i _ b1 hne h (by simp [G.blk, g1, hlt, j1])
      refine ⟨b1, arr1, j1, (ho b1 hn1).trans j2, j3, fun o hp => ?_⟩
      rcases hp with hp | ⟨hc, _⟩
      · exact j4 o hp
      · exact absurd hc hn1
  · intro i l e1 s1 hi
    rcases hget i _ hi with ⟨rfl, he⟩ | ⟨hne, h⟩
    · cases he
    · obtain ⟨a, c, g1, g2, g3, g4⟩ := hw.lst i l e1 s1 h
      refine ⟨a, c, by rw [hτ' i hne]; exact g1, g2, g3, fun hlt => ?_⟩
      obtain ⟨b1, arr1, j1, j0, j2, j3, j4, j5⟩ := g4 hlt
      have hn1 := hne' i _ b1 hne h (by simp [G.blk, g1, hlt, j1])
      refine ⟨b1, arr1, j1, j0, (ho b1 hn1).trans j2, j3, fun o hp => ?_, fun k x v hx hv => (j5 k x v hx hv).mono hev.pr⟩
      rcases hp with hp | ⟨hc, _⟩
      · exact j4 o hp
      · exact absurd hc hn1
  · intro i x hi
    rcases hget i _ hi with ⟨_, he⟩ | ⟨hne, h⟩
    · cases he
    · obtain ⟨b1, q1, q2, q3, q4⟩ := hw.ob i x h
      have hn1 := hne' i _ b1 hne h (.inl q1)
      have hnu : ∀ b', g.υ i b' → b' ≠ b := fun b' hu => hne' i _ b' hne h (.inr hu)
      refine ⟨b1, q1, x.st hev.w (hτ' i hne) rfl (ho b1 hn1) (fun b' hu => ho b' (hnu b' hu)) q2, fun o hp => ?_, fun b' o hu hp => ?_⟩
      · rcases hp with hp | ⟨hc, _⟩
        · exact q3 o hp
        · exact hn1 hc
      · rcases hp with hp | ⟨hc, _⟩
        · exact q4 b' o hu hp
        · exact hnu b' hu hc
  · intro i hi
    have hne : i ≠ id := by
      rintro rfl
      rcases hi with hi | hi
      · rw [List.getElem?_set_self hidlt] at hi; cases hi
      · simp at hi; omega
    rw [hτ' i hne]
    refine hw.free i ?_
    rcases hi with hi | hi
    · rw [List.getElem?_set_ne (Ne.symm hne)] at hi; exact .inl hi
    · exact .inr (by simpa using hi)

/-- A slice without room behind it is taken for a growing list. -/
theorem WOK.tokSame {g : G} {w : World} {id n s : Nat} {e : TypeId} {a : Option Addr} (hw : WOK g w H) (hH : H[id]? = some .free) (hn : n ≤ 9223372036854775807) :
    ∃ g', WOK g' w (H.set id (.tok n e s)) ∧ Evo g w g' w ∧ g'.τ id = some (n, a, n) := by
  have hidlt : id < H.length := (List.getElem?_eq_some_iff.1 hH).1
  let g' : G := { σ := g.σ, τ := fun i => if i = id then some (n, a, n) else g.τ i, υ := g.υ, X := g.X, Pr := g.Pr }
  have hτ' : ∀ i, i ≠ id → g'.τ i = g.τ i := fun i h => by simp [g', h]
  have hτid : g'.τ id = some (n, a, n) := by simp [g']
  have hev : Evo g w g' w := {
    same := ⟨rfl, rfl, rfl⟩
    size := Nat.le_refl _
    pr := fun b o hp => ⟨hp, rfl⟩
    prn := fun b o h => .inl h
    x := fun b h => .inl h
    keep := fun b _ _ => rfl
    σ := fun i b h => h
    τ := fun i m a c h => by
      by_cases hi : i = id
      · subst hi; have := (hw.free i (.inl hH)).2.1; rw [this] at h; cases h
      · exact ⟨m, a, c, by rw [hτ' i hi]; exact h, .inr ⟨rfl, rfl, rfl⟩⟩ }
  have hget : ∀ (i : Nat) x, (H.set id (.tok n e s))[i]? = some x → (i = id ∧ x = .tok n e s) ∨ (i ≠ id ∧ H[i]? = some x) := by
    intro i x he
    by_cases hi : i = id
    · subst hi; rw [List.getElem?_set_self hidlt] at he; exact .inl ⟨rfl, (Option.some.inj he).symm⟩
    · rw [List.getElem?_set_ne (Ne.symm hi)] at he; exact .inr ⟨hi, he⟩
  have hblk : ∀ (i : Nat) x b', (H.set id (.tok n e s))[i]? = some x → g'.blk i x b' → i ≠ id ∧ H[i]? = some x ∧ g.blk i x b' := by
    intro i x b' he hb'
    rcases hget i x he with ⟨rfl, rfl⟩ | ⟨hne, h⟩
    · simp [G.blk, hτid] at hb'
    · refine ⟨hne, h, ?_⟩
      cases x with
      | tok m e1 s1 => simp only [G.blk, hτ' i hne] at hb' ⊢; exact hb'
      | row c => exact hb'
      | free => exact hb'
      | dead => exact hb'
      | lst l1 e1 s1 => simp only [G.blk, hτ' i hne] at hb' ⊢; exact hb'
      | ob => exact hb'
  refine ⟨g', ⟨hw.pr, hw.xs, ?_, ?_, ?_, ?_, ?_, ?_, ?_, hw.kc⟩, hev, hτid⟩
  · intro i x b' he hb'
    obtain ⟨_, h1, h2⟩ := hblk i x b' he hb'
    exact hw.blk i x b' h1 h2
  · intro i i' x x' b' he he' hb1 hb2
    obtain ⟨_, h1, h2⟩ := hblk i x b' he hb1
    obtain ⟨_, h3, h4⟩ := hblk i' x' b' he' hb2
    exact hw.sep i i' x x' b' h1 h3 h2 h4
  · intro i ci hi
    rcases hget i _ hi with ⟨_, he⟩ | ⟨hne, h⟩
    · cases he
    · obtain ⟨b1, arr1, et1, g1, g2, g3, g4, g5⟩ := hw.row i ci h
      exact ⟨b1, arr1, et1, g1, g2, g3, fun k x v hx hv => (g4 k x v hx hv).mono hev, g5⟩
  · intro i m1 e1 s1 hi
    rcases hget i _ hi with ⟨rfl, he⟩ | ⟨hne, h⟩
    · injection he with h1 h2 h3
      subst h1; subst h2; subst h3
      exact ⟨a, m1, hτid, Nat.le_refl _, hn, fun hlt => by omega⟩
    · obtain ⟨a, c, g1, g2, g3, g4⟩ := hw.tok i m1 e1 s1 h
      exact ⟨a, c, by rw [hτ' i hne]; exact g1, g2, g3, g4⟩
  · intro i l e1 s1 hi
    rcases hget i _ hi with ⟨rfl, he⟩ | ⟨hne, h⟩
    · cases he
    · obtain ⟨a, c, g1, g2, g3, g4⟩ := hw.lst i l e1 s1 h
      exact ⟨a, c, by rw [hτ' i hne]; exact g1, g2, g3, g4⟩
  · intro i x hi
    rcases hget i _ hi with ⟨_, he⟩ | ⟨hne, h⟩
    · cases he
    · obtain ⟨b1, q1, q2, q3, q4⟩ := hw.ob i x h
      exact ⟨b1, q1, x.st hev.w (hτ' i hne) rfl rfl (fun _ _ => rfl) q2, q3, q4⟩
  · intro i hi
    have hne : i ≠ id := by
      rintro rfl
      rcases hi with hi | hi
      · rw [List.getElem?_set_self hidlt] at hi; cases hi
      · simp at hi; omega
    rw [hτ' i hne]
    refine hw.free i ?_
    rcases hi with hi | hi
    · rw [List.getElem?_set_ne (Ne.symm hne)] at hi; exact .inl hi
    · exact .inr (by simpa using hi)

/-- The cells of a slice that is read as data. -/
theorem RepD.slCells {Pr : Nat → Nat → Prop} {w : World} {l : List D} {r : Value} {s : Nat} (h : RepD Pr w (.sl l) r) (hs : ∀ x ∈ l, x.cells.length = s) (hone : ∀ x ∈ l, ∀ y ∈ x.cells, y.one = true) (hne : l ≠ []) :
    ∃ (b o cap : Nat) (f : Nat → Value), r = .slice (some ⟨b, o, none⟩) l.length cap ∧ l.length ≤ cap ∧ (∀ k, k < l.length * s → Pr b (o + k) ∧ w.cell? ⟨b, o + k, none⟩ = some (f k)) ∧ (∀ k x, (D.flat l)[k]? = some x → RepD Pr w x (f k)) ∧
      (∀ k, k < l.length * s → (f k).oneCell' = true) := by
  cases h with
  | sl _ a cap s' f hs' hcap hrow hrep =>
    obtain ⟨b, o, rfl, hk⟩ := hrow hne
    obtain ⟨x0, hx0⟩ := List.exists_mem_of_ne_nil l hne
    have hss : s' = s := by rw [← hs' x0 hx0, hs x0 hx0]
    subst hss
    refine ⟨b, o, cap, f, rfl, hcap, hk, hrep, fun k hkl => ?_⟩
    have hlt : k < (D.flat l).length := by rw [flat_length hs]; exact hkl
    have hmem := List.getElem_mem hlt
    simp only [D.flat, List.mem_flatMap] at hmem
    obtain ⟨x, hx, hy⟩ := hmem
    exact (hrep k _ (List.getElem?_eq_getElem hlt)).one (hone x hx _ hy)

theorem flat_append (a b : List D) : D.flat (a ++ b) = D.flat a ++ D.flat b := by simp [D.flat]

/-- The list that an append gives, once its cells are known. -/
theorem RepD.ofCells {Pr Pr' : Nat → Nat → Prop} {w w' : World} {l l' : List D} {s b cap : Nat} {arr : Array Value} {et : TypeId} {f f' : Nat → Value}
    (hmono : ∀ {x : D} {r : Value}, RepD Pr w x r → RepD Pr' w' x r) (hs : ∀ x ∈ l ++ l', x.cells.length = s) (hcap : (l ++ l').length ≤ cap)
    (hPr : ∀ o, o < (l ++ l').length * s → Pr' b o) (hb : w'.heap[b]? = some (.cells arr et (0, 0)))
    (h1 : ∀ k, k < l.length * s → arr[k]? = some (f k)) (h2 : ∀ k, k < l'.length * s → arr[l.length * s + k]? = some (f' k))
    (r1 : ∀ k x, (D.flat l)[k]? = some x → RepD Pr w x (f k)) (r2 : ∀ k x, (D.flat l')[k]? = some x → RepD Pr w x (f' k)) :
    RepD Pr' w' (.sl (l ++ l')) (.slice (some ⟨b, 0, none⟩) (l ++ l').length cap) := by
  have hsl : ∀ x ∈ l, x.cells.length = s := fun x hx => hs x (by simp [hx])
  have hsl' : ∀ x ∈ l', x.cells.length = s := fun x hx => hs x (by simp [hx])
  have fl := flat_length hsl
  have hmul : (l ++ l').length * s = l.length * s + l'.length * s := by rw [List.length_append, Nat.add_mul]
  refine .sl _ _ cap s (fun k => arr.getD k undef) hs hcap (fun _ => ⟨b, 0, rfl, fun k hk => ?_⟩) (fun k x hx => ?_)
  · have hc : arr[k]? = some (arr.getD k undef) := by
      by_cases hkl : k < l.length * s
      · simp [Array.getD_eq_getD_getElem?, h1 k hkl]
      · have := h2 (k - l.length * s) (by omega)
        rw [show l.length * s + (k - l.length * s) = k by omega] at this
        simp [Array.getD_eq_getD_getElem?, this]
    exact ⟨by simpa using hPr k hk, by rw [Nat.zero_add, cell_of_cells hb]; exact hc⟩
  · rw [flat_append] at hx
    by_cases hkl : k < l.length * s
    · rw [List.getElem?_append_left (by omega)] at hx
      simp only [Array.getD_eq_getD_getElem?, h1 k hkl, Option.getD_some]
      exact hmono (r1 k x hx)
    · rw [List.getElem?_append_right (by omega), fl] at hx
      have hk2 : k - l.length * s < l'.length * s := by
        have := (List.getElem?_eq_some_iff.1 hx).1
        rw [flat_length hsl'] at this; exact this
      have := h2 (k - l.length * s) hk2
      rw [show l.length * s + (k - l.length * s) = k by omega] at this
      simp only [Array.getD_eq_getD_getElem?, this, Option.getD_some]
      exact hmono (r2 _ x hx)


theorem range_map_get (f : Nat → Value) (n k : Nat) (h : k < n) : ((List.range n).map f)[k]? = some (f k) := by simp [h]

/-- 'append' to memory that lies elsewhere: whatever the first slice is, it has no room for what comes. -/
theorem append_grows {t e s bytes : Nat} (ht : SlT P t e s bytes) {g : G} {w : World} {l l' : List D} {a : Option Addr} {cap id : Nat} {e0 : HE} {ra : Value} (hw : WOK g w H) (hH : H[id]? = some e0)
    (he0 : e0 = .free ∨ e0 = .tok l.length e s) (hl : RepD g.Pr w (.sl l) (.slice a l.length cap)) (ha0 : a = none → cap = 0) (hl' : RepD g.Pr w (.sl l') ra) (hne : l' ≠ [])
    (hs : ∀ x ∈ l ++ l', x.cells.length = s) (hone : ∀ x ∈ l ++ l', ∀ y ∈ x.cells, y.one = true) (hbytes : (l ++ l').length * bytes ≤ 140737488355328) (hlen : (l ++ l').length ≤ 4611686018427387904) (hgrow : cap < l.length + l'.length) :
    ∃ rv w' g', (Builtin.append_ #[t, t] ty #[.slice a l.length cap, ra]).run P w = .ok rv w' ∧ WOK g' w' (H.set id (.tok (l ++ l').length e s)) ∧ Evo g w g' w' ∧ Rep g' w' (.tk id (l ++ l')) rv := by
  obtain ⟨ie, z, hie, hsz, hby, hz1, hz2⟩ := ht.i
  have hsl : ∀ x ∈ l, x.cells.length = s := fun x hx => hs x (by simp [hx])
  have hsl' : ∀ x ∈ l', x.cells.length = s := fun x hx => hs x (by simp [hx])
  obtain ⟨b', o', cap', f', rfl, _, hk', hrep', hone'⟩ := hl'.slCells hsl' (fun x hx => hone x (by simp [hx])) hne
  have hlpos : 0 < l'.length := List.length_pos_iff.2 hne
  simp only [List.length_append] at hbytes hlen
  let need := l.length + l'.length
  let C := grownCap w need cap e
  have hC : need ≤ C := grownCap_ge w need cap e
  have hC2 : C ≤ 9223372036854775807 := by
    have := grownCap_le_maxLen w need cap e (by simp only [maxLen]; omega)
    simpa [maxLen] using this
  have hnews : ∀ (j : Nat) v, ((List.range (l'.length * s)).map f')[j]? = some v → w.cell? ((⟨b', o', none⟩ : Addr).add j) = some v := by
    intro j v hv
    have hj : j < l'.length * s := by
      have := (List.getElem?_eq_some_iff.1 hv).1; simpa using this
    rw [range_map_get _ _ _ hj] at hv
    rw [Addr.add_none, (hk' j hj).2]; exact hv
  -- the old cells
  obtain ⟨f, olds, hol, hrun, hf1, hf2⟩ : ∃ (f : Nat → Value) (olds : List Value), olds.length = l.length * s ∧
      (Builtin.append_ #[t, t] ty #[.slice a l.length cap, .slice (some ⟨b', o', none⟩) l'.length cap']).run P w =
        .ok (.slice (some ⟨w.heap.size, 0, none⟩) need C) (w.drew.alloc (.cells (olds.toArray ++ ((List.range (l'.length * s)).map f').toArray ++ Builtin.zeroCells z.cells (C - need)) e)) ∧
      (∀ k, k < l.length * s → olds[k]? = some (f k)) ∧ (∀ k x, (D.flat l)[k]? = some x → RepD g.Pr w x (f k)) := by
    by_cases hl0 : l = []
    · subst hl0
      refine ⟨fun _ => undef, [], by simp, ?_, by simp, by simp [D.flat]⟩
      cases a with
      | none =>
        obtain rfl : cap = 0 := ha0 rfl
        have := run_append_nil (P := P) w t ty e ie z ht.u hie hz1 ⟨b', o', none⟩ l'.length cap' ((List.range (l'.length * s)).map f') (by simp [hsz]) hnews hlpos (by omega) (by rw [hby]; simp at hbytes; omega)
        simpa [need, C] using this
      | some ad =>
        have := run_append_grow (P := P) w t ty e ie z ht.u hie hz1 ad 0 cap [] (by simp) (by simp) ⟨b', o', none⟩ l'.length cap' ((List.range (l'.length * s)).map f') (by simp [hsz]) hnews
          (by simpa using hgrow) (by simp at hlen ⊢; omega) (growslice_fits (by simpa using hgrow) (by rw [hby]; simpa using hbytes))
        simpa [need, C] using this
    · obtain ⟨b, o, cap2, f, e1, _, hk, hrep, hone2⟩ := hl.slCells hsl (fun x hx => hone x (by simp [hx])) hl0
      injection e1 with e1 _ _
      subst e1
      have holds : ∀ (j : Nat) v, ((List.range (l.length * s)).map f)[j]? = some v → w.cell? ((⟨b, o, none⟩ : Addr).add j) = some v := by
        intro j v hv
        have hj : j < l.length * s := by
          have := (List.getElem?_eq_some_iff.1 hv).1; simpa using this
        rw [range_map_get _ _ _ hj] at hv
        rw [Addr.add_none, (hk j hj).2]; exact hv
      refine ⟨f, (List.range (l.length * s)).map f, by simp, ?_, fun k hk => range_map_get _ _ _ hk, hrep⟩
      exact run_append_grow (P := P) w t ty e ie z ht.u hie hz1 ⟨b, o, none⟩ l.length cap ((List.range (l.length * s)).map f) (by simp [hsz]) holds ⟨b', o', none⟩ l'.length cap' ((List.range (l'.length * s)).map f') (by simp [hsz]) hnews
          hgrow (by omega) (growslice_fits hgrow (by rw [hby]; exact hbytes))
  have hcells : (olds.toArray ++ ((List.range (l'.length * s)).map f').toArray ++ Builtin.zeroCells z.cells (C - need)).size = C * s := by
    simp only [Array.size_append, List.size_toArray, hol, List.length_map, List.length_range, size_zeroCells, hz2]
    rw [← Nat.add_mul, ← Nat.add_mul]; congr 1; omega
  obtain ⟨g', h1, h2, h3, h4, h5⟩ := hw.tokNew (w' := w.drew.alloc (.cells (olds.toArray ++ ((List.range (l'.length * s)).map f').toArray ++ Builtin.zeroCells z.cells (C - need)) e)) (n := need) (e := e) hH
    (he0.imp (fun h => h) (fun h => ⟨_, h, by omega⟩)) ⟨rfl, rfl, rfl⟩ rfl hcells hC hC2
  refine ⟨_, _, g', hrun, by simpa [need] using h1, h2, ?_⟩
  have hRep := RepD.ofCells (Pr' := g'.Pr) (w' := w.drew.alloc (.cells (olds.toArray ++ ((List.range (l'.length * s)).map f').toArray ++ Builtin.zeroCells z.cells (C - need)) e)) (l := l) (l' := l') (s := s) (b := w.heap.size) (cap := C) (f := f) (f' := f')
    (fun h => h.mono h2.pr) hs (by simpa [need] using hC) (fun o ho => h4 o (by simpa [need] using ho)) h5
    (fun k hk => by
      rw [Array.append_assoc, Array.getElem?_append_left (by simp; omega)]; simpa using hf1 k hk)
    (fun k hk => by
      rw [Array.append_assoc, Array.getElem?_append_right (by simp; omega), Array.getElem?_append_left (by simp; omega)]
      have : l.length * s + k - olds.toArray.size = k := by simp; omega
      rw [this]; simpa using range_map_get f' _ _ hk) hf2 hrep'
  simp only [List.length_append] at hRep
  refine .tk hRep h3 (by simp [need]) (fun _ => rfl)

theorem append_none_run {t e s bytes : Nat} (ht : SlT P t e s bytes) {w : World} {a a' : Option Addr} {n cap cap' : Nat} (hn : n ≤ cap) :
    (Builtin.append_ #[t, t] ty #[.slice a n cap, .slice a' 0 cap']).run P w = .ok (.slice a n cap) w := by
  obtain ⟨ie, z, hie, hsz, hby, hz1, hz2⟩ := ht.i
  have hf : (Builtin.firstCells ie.size 0 (.slice a' 0 cap')).run P w = .ok #[] w := by
    cases a' <;> simp [Builtin.firstCells, loadCells, loadCellsFrom]
  cases a <;> simp [Builtin.append_, run_underlying ht.u, sizeOf, typeInfo, hie, Builtin.lenOf, hn, hf, storeCells]

theorem slice_form {Pr : Nat → Nat → Prop} {w : World} {l : List D} {r : Value} (h : RepD Pr w (.sl l) r) : ∃ a cap, r = .slice a l.length cap ∧ l.length ≤ cap := by
  cases h with
  | sl _ a cap s f h1 h2 => exact ⟨a, cap, rfl, h2⟩

theorem op_append {x y : Operand} {t e s bytes id : Nat} {l l' : List D} (ht : SlT P t e s bytes) (hx : Is (ρ x) (.tk id l)) (hy : As (ρ y) (.sl l')) (hH : H[id]? = some (.tok l.length e s))
    (hs : ∀ x ∈ l ++ l', x.cells.length = s) (hone : ∀ x ∈ l ++ l', ∀ y ∈ x.cells, y.one = true) (hbytes : (l ++ l').length * bytes ≤ 140737488355328) (hlen : (l ++ l').length ≤ 4611686018427387904) :
    OpV P (.call ⟨.builtin .append, #[x, y], #[t, t]⟩) ty ρ H (.tk id (l ++ l')) (H.set id (.tok (l ++ l').length e s)) := by
  intro g w r pos after guard dst hw h
  have h1 := hx.rep (h x (by simp [Op.operands, Call.operands]))
  have h2 := hy.rep (h y (by simp [Op.operands, Call.operands]))
  obtain ⟨a, cap, k1, k2, k3, k4⟩ := hw.tok id l.length e s hH
  have h1' := h1
  generalize hrx : r x = vx at h1 h1'
  cases h1 with
  | @tk _ _ _ m cap0 a0 hd hτ hle heq =>
    rw [k1] at hτ
    injection hτ with hτ; injection hτ with hm hτ; injection hτ with ha hc
    subst hm; subst ha; subst hc
    have hr := heq rfl
    subst hr
    have hidlt : id < H.length := (List.getElem?_eq_some_iff.1 hH).1
    suffices hgoal : ∃ rv w' g', (Builtin.append_ #[t, t] ty #[.slice a l.length cap, r y]).run P w = .ok rv w' ∧ WOK g' w' (H.set id (.tok (l ++ l').length e s)) ∧ Evo g w g' w' ∧ Rep g' w' (.tk id (l ++ l')) rv by
      obtain ⟨rv, w', g', e1, e2, e3, e4⟩ := hgoal
      unfold OpRuns
      have : (execOp r ⟨dst, .call ⟨.builtin .append, #[x, y], #[t, t]⟩, ty, pos, after, guard⟩).run P w = .ok (.value rv) w' := by
        simp [execOp, resolve, invoke, builtin, hrx, e1]
      rw [this]
      exact ⟨g', e2, e3, e4⟩
    by_cases hl0 : l' = []
    · subst hl0
      obtain ⟨a', cap', hra, _⟩ := slice_form h2
      rw [hra]
      refine ⟨_, w, g, append_none_run ht k2, ?_, .refl _ _, ?_⟩
      · have : H.set id (.tok (l ++ []).length e s) = H := by
          apply List.ext_getElem?
          intro i
          by_cases hi : i = id
          · subst hi; rw [List.getElem?_set_self hidlt, List.append_nil, hH]
          · rw [List.getElem?_set_ne (Ne.symm hi)]
        rw [this]; exact hw
      · rw [List.append_nil]; exact h1'
    · have hlpos : 0 < l'.length := List.length_pos_iff.2 hl0
      by_cases hroom : l.length + l'.length ≤ cap
      · obtain ⟨b, arr, rfl, hb, harr, hPr⟩ := k4 (by omega)
        obtain ⟨ie, z, hie, hsz, hby, hz1, hz2⟩ := ht.i
        have hsl : ∀ x ∈ l, x.cells.length = s := fun x hx => hs x (by simp [hx])
        have hsl' : ∀ x ∈ l', x.cells.length = s := fun x hx => hs x (by simp [hx])
        obtain ⟨b', o', cap', f', hra, _, hk', hrep', hone'⟩ := h2.slCells hsl' (fun x hx => hone x (by simp [hx])) hl0
        rw [hra]
        have hnews : ∀ (j : Nat) v, ((List.range (l'.length * s)).map f')[j]? = some v → w.cell? ((⟨b', o', none⟩ : Addr).add j) = some v := by
          intro j v hv
          have hj : j < l'.length * s := by
            have := (List.getElem?_eq_some_iff.1 hv).1; simpa using this
          rw [range_map_get _ _ _ hj] at hv
          rw [Addr.add_none, (hk' j hj).2]; exact hv
        have hone1 : ∀ u ∈ (List.range (l'.length * s)).map f', u.oneCell' = true := by
          intro u hu
          simp only [List.mem_map, List.mem_range] at hu
          obtain ⟨k, hk, rfl⟩ := hu
          exact hone' k hk
        have hmul : (l.length + l'.length) * s = l.length * s + l'.length * s := Nat.add_mul _ _ _
        have hfit : l.length * s + l'.length * s ≤ arr.size := by
          rw [harr, ← hmul]; exact Nat.mul_le_mul_right _ hroom
        have hrun := run_append_room (P := P) w t ty e ie ht.u hie b l.length cap arr hb ⟨b', o', none⟩ l'.length cap' ((List.range (l'.length * s)).map f') (by simp [hsz]) hnews hone1 hroom (by rw [hsz]; simpa using hfit)
        rw [hsz] at hrun
        have hold : ∀ k, k < l.length * s → ((arr.toList.take (l.length * s) ++ (List.range (l'.length * s)).map f' ++ arr.toList.drop (l.length * s + ((List.range (l'.length * s)).map f').length)).toArray)[k]? = arr[k]? := fun k hk => by
          rw [List.getElem?_toArray, List.append_assoc, List.getElem?_append_left (by simp; omega), List.getElem?_take, if_pos hk, Array.getElem?_toList]
        have hnewc : ∀ k, k < l'.length * s → ((arr.toList.take (l.length * s) ++ (List.range (l'.length * s)).map f' ++ arr.toList.drop (l.length * s + ((List.range (l'.length * s)).map f').length)).toArray)[l.length * s + k]? = some (f' k) := fun k hk => by
          have hlt : (List.take (l.length * s) arr.toList).length = l.length * s := by simp; omega
          rw [List.getElem?_toArray, List.append_assoc, List.getElem?_append_right (by omega), List.getElem?_append_left (by simp; omega)]
          rw [hlt, show l.length * s + k - l.length * s = k by omega]
          exact range_map_get _ _ _ hk
        obtain ⟨g', w1, w2, w3, w4⟩ := hw.tokIn (m := l'.length) (w' := w.setRow b _) hH k1 hb (by omega) ⟨rfl, rfl, rfl⟩ (setRow_size w b _) (setRow_heap w b arr _ e _ hb) (fun b' hne => setRow_other w b b' _ hne)
          (by simp; omega) hroom hlpos hold
        refine ⟨_, _, g', hrun, by simpa using w1, w2, ?_⟩
        have hfold : ∃ f : Nat → Value, (∀ k, k < l.length * s → arr[k]? = some (f k)) ∧ (∀ k x, (D.flat l)[k]? = some x → RepD g.Pr w x (f k)) := by
          by_cases hl00 : l = []
          · subst hl00; exact ⟨fun _ => undef, by simp, by simp [D.flat]⟩
          · obtain ⟨b2, o2, cap2, f, e1, _, hk, hrep, _⟩ := hd.slCells hsl (fun x hx => hone x (by simp [hx])) hl00
            injection e1 with e1 _ _
            injection e1 with e1
            injection e1 with e1 e2
            subst e1; subst e2
            refine ⟨f, fun k hkl => ?_, hrep⟩
            have := (hk k hkl).2
            rw [Nat.zero_add, cell_of_cells hb] at this; exact this
        obtain ⟨f, hf1, hf2⟩ := hfold
        have hRep := RepD.ofCells (Pr' := g'.Pr) (w' := w.setRow b _) (l := l) (l' := l') (s := s) (b := b) (cap := cap) (f := f) (f' := f') (fun h => h.mono w2.pr) hs (by simpa using hroom) (fun o ho => w4 o (by simpa using ho)) (setRow_heap w b arr _ e _ hb)
          (fun k hk => by rw [hold k hk]; exact hf1 k hk) hnewc hf2 hrep'
        simp only [List.length_append] at hRep
        exact .tk hRep w3 (by simp) (fun _ => rfl)
      · refine append_grows ht hw hH (.inr rfl) hd (fun ha => ?_) h2 hl0 hs hone hbytes hlen (by omega)
        by_cases hlt : l.length < cap
        · obtain ⟨b, arr, e1, _⟩ := k4 hlt
          rw [e1] at ha; cases ha
        · cases hd with
          | sl _ _ _ s' f hs' hcap hrow hrep =>
            by_cases hl00 : l = []
            · subst hl00; simp at hlt; omega
            · obtain ⟨b, o, e1, _⟩ := hrow hl00
              rw [e1] at ha; cases ha

end
end Go.Proofs.YtindppnanjcoaaaGreatDoor.Ab
