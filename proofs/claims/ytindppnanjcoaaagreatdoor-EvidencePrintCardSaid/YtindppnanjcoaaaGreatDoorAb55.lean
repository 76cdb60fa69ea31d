/- Slices whose rows are lists of their own: what holds for a list of heads holds for them. Slices of growing lists. Maps of growing lists. Maps of growing lists: operations. Maps of growing lists: rows put in, and all given up. Going through a map of growing lists, each of which is written. Containers of lists where ways meet; a list that is taken from in front. A list that is taken from in front: pieces and what is put behind. A list that is told out and is one of its own. Tables: lists of rows that hold a text and a list that grows. Tables: rows put in, made one by one, taken one by one. Tables whose lists are made one by one, or taken one by one. Calls that are handed tables, where the order is open too; a table under a new number. Loops that are unrolled, pointers that are there where no error is, arrays of lists, lists of lists under the length of what they hold. Conditions: none. -/
import Derived.Test.YtindppnanjcoaaaGreatDoorAb41
import Derived.ArgAppend
section
namespace Go.Proofs.YtindppnanjcoaaaGreatDoor.Ab
open Go

/-- What may be written is told otherwise. -/
theorem WOK.reX {g : G} {w : World} {H : List HE} (hw : WOK g w H) {X' : Nat → Prop} (h1 : ∀ i e b, H[i]? = some e → g.blk i e b → X' b) (h2 : ∀ b, X' b → b < w.heap.size) (h3 : ∀ x ∈ KC, ¬ X' x.1) : WOK { g with X := X' } w H := by
  have he : EvoW g w { g with X := X' } w := ⟨fun b o h => ⟨h, rfl⟩, fun _ _ h => h, fun id m a cap h => ⟨m, a, cap, h, .inr ⟨rfl, rfl, rfl⟩⟩⟩
  have hb : ∀ i e b, G.blk { g with X := X' } i e b ↔ g.blk i e b := fun i e b => by cases e <;> exact Iff.rfl
  refine ⟨hw.pr, h2, fun i e b hi h => h1 i e b hi ((hb i e b).1 h), fun i i' e e' b hi hi' h h' => hw.sep i i' e e' b hi hi' ((hb i e b).1 h) ((hb i' e' b).1 h'), fun i c hi => ?_, hw.tok, hw.lst, fun i x hi => ?_, hw.free, fun x hx => ?_⟩
  · obtain ⟨b, arr, et, e1, e2, e3, e4, e5⟩ := hw.row i c hi
    exact ⟨b, arr, et, e1, e2, e3, fun k x v hx hv => (e4 k x v hx hv).monoW he, e5⟩
  · obtain ⟨b, q1, q2, q3, q4⟩ := hw.ob i x hi
    exact ⟨b, q1, x.st he rfl rfl rfl (fun _ _ => rfl) q2, q3, q4⟩
  · obtain ⟨_, q2, q3⟩ := hw.kc x hx
    exact ⟨h3 x hx, q2, q3⟩

/-- A slice of heads, or of rows that hold a head. -/
def slC (eo : TypeId) (s : Nat) (L : List Hd → List D) : Cont where
  C := fun g w id b Vs => ∃ cap arr, g.τ id = some (0, some ⟨b, 0, none⟩, cap) ∧ (L Vs).length ≤ cap ∧ 0 < cap ∧ cap ≤ 9223372036854775807 ∧ w.heap[b]? = some (.cells arr eo (0, 0)) ∧ arr.size = cap * s ∧ ∀ (k : Nat) x v, (D.flat (L Vs))[k]? = some x → arr[k]? = some v → RepD g.Pr w x v
  st := fun he ht hb ⟨cap, arr, h1, h2, h3, h4, h5, h6, h7⟩ => ⟨cap, arr, ht.trans h1, h2, h3, h4, hb.trans h5, h6, fun k x v hx hv => (h7 k x v hx hv).mono he.pr⟩
  fr := true
  fre := fun _ {g g' w i j b Vs} hP hτ ⟨cap, arr, h1, h2⟩ => ⟨cap, arr, hτ.trans h1, by rw [hP]; exact h2⟩

section
variable {H : List HE} {e eo : TypeId} {s : Nat} {L : List Hd → List D} {R : List RowD}
/-- The rows are put out of sight: what is left is a list of heads. -/
theorem WOK.hide {g : G} {w : World} {id : Nat} (hw : WOK g w H) (hH : H[id]? = some (.ob (cO (slC eo s L) e R))) :
    ∃ b Vs g1, g.σ id = some b ∧ CAt (slC eo s L) e R g w id b Vs ∧ WOK g1 w (H.set id (.lst (L Vs) eo s)) ∧ g1.Pr = g.Pr ∧ g1.σ = g.σ ∧ g1.τ = g.τ ∧ ∀ b', g1.X b' ↔ g.X b' ∧ ¬ g.υ id b' := by
  have hidlt : id < H.length := (List.getElem?_eq_some_iff.1 hH).1
  obtain ⟨b, k1, ⟨Vs, k2⟩, k3, k4⟩ := hw.ob id _ hH
  obtain ⟨cap, arr, c1, c2, c3, c4, c5, c6, c7⟩ := k2.c
  let g0 : G := { g with υ := fun i b' => i ≠ id ∧ g.υ i b' }
  have hev : Evo g w g0 w := {
    same := ⟨rfl, rfl, rfl⟩
    size := Nat.le_refl _
    pr := fun b o hp => ⟨hp, rfl⟩
    prn := fun b o h => .inl h
    x := fun b h => .inl h
    keep := fun b _ _ => rfl
    σ := fun _ _ h => h
    τ := fun _ m a cap h => ⟨m, a, cap, h, .inr ⟨rfl, rfl, rfl⟩⟩ }
  have hblk : ∀ b', g0.blk id (.lst (L Vs) eo s) b' → b' = b := fun b' h => by
    have h' : ((g.τ id).bind fun t => if 0 < t.2.2 then t.2.1.map (·.block) else none) = some b' := h
    rw [c1] at h'
    simp [c3] at h'
    exact h'.symm
  have w0 : WOK g0 w (H.set id (.lst (L Vs) eo s)) := by
    refine WOK.chg2 (fun i => i = id) hw hev (by simp) (fun i h => h ▸ hidlt) (fun i h => List.getElem?_set_ne (Ne.symm h)) (fun i h => ⟨rfl, rfl, by funext b'; simp [g0, h]⟩) (fun i e b _ h1 h2 => hw.blk i e b h1 h2) hw.xs hw.pr (fun _ _ _ _ _ _ => ⟨rfl, fun _ h => h⟩) ?_ (fun i i' _ _ _ h h' _ _ _ _ => h.trans h'.symm) ?_
    · rintro i x b' rfl h1 h2
      rcases set_cases hidlt h1 with ⟨_, rfl⟩ | ⟨h, _⟩
      · rw [hblk b' h2]
        exact ⟨hw.blk i _ b hH (.inl k1), i, _, rfl, hH, .inl k1⟩
      · exact absurd rfl h
    · rintro i x rfl h1
      rcases set_cases hidlt h1 with ⟨_, rfl⟩ | ⟨h, _⟩
      · exact .inr (.inr ⟨_, _, _, rfl, some ⟨b, 0, none⟩, cap, c1, c2, c4, fun _ => ⟨b, arr, rfl, k1, c5, c6, k3, c7⟩⟩)
      · exact absurd rfl h
  refine ⟨b, Vs, { g0 with X := fun b' => g.X b' ∧ ¬ g.υ id b' }, k1, k2, w0.reX (fun i x b' hi hb => ⟨w0.blk i x b' hi hb, fun hu => ?_⟩) (fun b' h => hw.xs b' h.1) (fun x hx h => (hw.kc x hx).1 h.1), rfl, rfl, rfl, fun _ => Iff.rfl⟩
  rcases set_cases hidlt hi with ⟨rfl, rfl⟩ | ⟨hne, hi⟩
  · rw [hblk b' hb] at hu; exact k2.nob hu
  · have hb' : g.blk i x b' := by
      cases x <;> simp only [G.blk, g0] at hb ⊢ <;> first | exact hb | exact hb.imp (fun h => h) fun h => h.2
    exact hne (hw.sep i id x _ b' hi hH hb' (.inr hu))

/-- The rows are seen again. -/
theorem WOK.unhide {g g1 g' : G} {w w' : World} {id n b : Nat} {Vs Vs' : List Hd} {L' : List Hd → List D} {R' : List RowD} {H' : List HE} (hw : WOK g w H) (hH : H[id]? = some (.ob (cO (slC eo s L) e R)))
    (hC : CAt (slC eo s L) e R g w id b Vs) (p1 : g1.Pr = g.Pr) (p2 : g1.σ = g.σ) (p3 : g1.τ = g.τ) (p4 : ∀ b', g1.X b' ↔ g.X b' ∧ ¬ g.υ id b') (hw' : WOK g' w' H') (he : Evo g1 w g' w') (hn : H'[n]? = some (.lst (L' Vs') eo s)) (hne : L' Vs' ≠ [])
    (hlen : Vs'.length = R'.length)
    (hrow : ∀ (k : Nat) r v, R'[k]? = some r → Vs'[k]? = some v → (∃ k0 : Nat, R[k0]? = some r ∧ Vs[k0]? = some v) ∨ (r = .own [] ∧ v = (none, 0, 0)) ∨ (∃ nn len, r = .lent nn len ∧ RowV g w id b e r v))
    (hdis : ∀ (k k' : Nat) l l' v v' B, k ≠ k' → R'[k]? = some (.own l) → R'[k']? = some (.own l') → Vs'[k]? = some v → Vs'[k']? = some v' → bigB v = some B → bigB v' = some B → False) :
    ∃ g2, WOK g2 w' (H'.set n (.ob (cO (slC eo s L') e R'))) ∧ Evo g w g2 w' ∧ EvoW g' w' g2 w' ∧ EvoW g w g2 w' := by
  have hnlt : n < H'.length := (List.getElem?_eq_some_iff.1 hn).1
  have hUX : ∀ b', g.υ id b' → g.X b' := fun b' h => hw.blk id _ b' hH (.inr h)
  have hUs : ∀ b', g.υ id b' → b' < w.heap.size := fun b' h => hw.xs b' (hUX b' h)
  have hUn : ∀ b', g.υ id b' → ¬ g'.X b' := fun b' h hx => by
    rcases he.x b' hx with h2 | h2
    · exact ((p4 b').1 h2).2 h
    · have := hUs b' h; omega
  have hUh : ∀ b', g.υ id b' → w'.heap[b']? = w.heap[b']? := fun b' h => he.keep b' (hUs b' h) (fun hx => ((p4 b').1 hx).2 h)
  have hUp : ∀ b' o, g.υ id b' → ¬ g'.Pr b' o := fun b' o h hp => by
    rcases he.prn b' o hp with h2 | h2 | h2
    · rw [p1] at h2
      obtain ⟨_, _, _, _, q4⟩ := hw.ob id _ hH
      exact q4 b' o h h2
    · exact ((p4 b').1 h2).2 h
    · have := hUs b' h; omega
  have w1 : WOK { g' with X := fun b' => g'.X b' ∨ g.υ id b' } w' H' := hw'.reX (fun i x b' hi hb => .inl (hw'.blk i x b' hi hb)) (fun b' h => by
    rcases h with h | h
    · exact hw'.xs b' h
    · exact Nat.lt_of_lt_of_le (hUs b' h) he.size) (fun x hx h => by
    rcases h with h | h
    · exact (hw'.kc x hx).1 h
    · exact (hw.kc x hx).1 (hUX _ h))
  obtain ⟨a, cap, f1, f2, f3, f4⟩ := hw'.lst n _ _ _ hn
  have hpos := List.length_pos_iff.2 hne
  obtain ⟨b0, arr, rfl, q0, q2, q3, q4, q5⟩ := f4 (by omega)
  have hb0X : g'.X b0 := hw'.blk n _ b0 hn (by simp [G.blk, f1, show 0 < cap by omega])
  have hb0U : ¬ g.υ id b0 := fun h => hUn b0 h hb0X
  let g2 : G := { g' with X := fun b' => g'.X b' ∨ g.υ id b', υ := fun i b' => if i = n then g.υ id b' else g'.υ i b' }
  have hev : Evo { g' with X := fun b' => g'.X b' ∨ g.υ id b' } w' g2 w' := {
    same := ⟨rfl, rfl, rfl⟩
    size := Nat.le_refl _
    pr := fun b o hp => ⟨hp, rfl⟩
    prn := fun b o h => .inl h
    x := fun b h => .inl h
    keep := fun b _ _ => rfl
    σ := fun _ _ h => h
    τ := fun _ m a cap h => ⟨m, a, cap, h, .inr ⟨rfl, rfl, rfl⟩⟩ }
  have hE1 : Evo g w g2 w' := {
    same := he.same
    size := he.size
    pr := fun b o hp => he.pr b o (by rw [p1]; exact hp)
    prn := fun b o h => by
      rcases he.prn b o h with h2 | h2 | h2
      · exact .inl (by rw [← p1]; exact h2)
      · exact .inr (.inl ((p4 b).1 h2).1)
      · exact .inr (.inr h2)
    x := fun b h => by
      rcases h with h | h
      · rcases he.x b h with h2 | h2
        · exact .inl ((p4 b).1 h2).1
        · exact .inr h2
      · exact .inl (hUX b h)
    keep := fun b hs hx => he.keep b hs (fun h => hx ((p4 b).1 h).1)
    σ := fun i b h => he.σ i b (by rw [p2]; exact h)
    τ := fun i m a cap h => he.τ i m a cap (by rw [p3]; exact h) }
  refine ⟨g2, ?_, hE1, ⟨fun b o h => ⟨h, rfl⟩, fun _ _ h => h, fun _ m a cap h => ⟨m, a, cap, h, .inr ⟨rfl, rfl, rfl⟩⟩⟩, hE1.w⟩
  have hblkn : ∀ b', g2.blk n (.ob (cO (slC eo s L') e R')) b' → b' = b0 ∨ g.υ id b' := fun b' h => by
    rcases h with h | h
    · have h' : g'.σ n = some b' := h
      rw [q0] at h'; exact .inl (Option.some.inj h').symm
    · simp only [g2] at h; exact .inr h
  refine WOK.chg3 (fun i => i = n) w1 hev (by simp) (fun i h => h ▸ hnlt) (fun i h => List.getElem?_set_ne (Ne.symm h)) (fun i h => ⟨rfl, rfl, by funext b'; simp [g2, h]⟩) (fun i e b _ h1 h2 => w1.blk i e b h1 h2) w1.xs w1.pr (fun _ _ _ _ _ _ => ⟨rfl, fun _ h => h⟩) ?_ (fun i i' _ _ _ h h' _ _ _ _ => h.trans h'.symm) ?_
  · rintro i x b' rfl h1 h2
    rcases set_cases hnlt h1 with ⟨_, rfl⟩ | ⟨h, _⟩
    rotate_left
    · exact absurd rfl h
    have hx : g2.X b' := by
      rcases hblkn b' h2 with rfl | h
      · exact .inl hb0X
      · exact .inr h
    refine ⟨hx, fun i0 e0 hi0 h3 h4 => ?_⟩
    have h4' : g'.blk i0 e0 b' := by cases e0 <;> exact h4
    rcases hblkn b' h2 with rfl | h
    · exact hi0 (hw'.sep i0 i e0 _ b' h3 hn h4' (by simp [G.blk, f1, show 0 < cap by omega]))
    · exact hUn b' h (hw'.blk i0 e0 b' h3 h4')
  · rintro i x rfl h1
    rcases set_cases hnlt h1 with ⟨_, rfl⟩ | ⟨h, _⟩
    rotate_left
    · exact absurd rfl h
    refine .inr (.inl ⟨_, rfl, b0, q0, ⟨Vs', ?_, ⟨cap, arr, f1, f2, by omega, f3, q2, q3, q5⟩, hlen, fun k r v hr hv => ?_, hdis⟩, q4, fun b' o hu => ?_⟩)
    · simp only [g2]; exact hb0U
    · rcases hrow k r v hr hv with ⟨k0, h1, h2⟩ | ⟨rfl, rfl⟩ | ⟨nn, len, rfl, h2⟩
      · exact (hC.row k0 r v h1 h2).mono hE1.w (fun l b' hrl hB hu hne2 => ⟨by simp only [g2]; exact hu, fun e2 => hb0U (e2 ▸ hu)⟩) (fun b' hu _ => hUh b' hu)
      · exact ⟨rfl, Nat.le_refl _, by simp, fun h => absurd h (by simp)⟩
      · exact h2.mono hE1.w (fun l b' hrl => by cases hrl) (fun b' hu _ => hUh b' hu)
    · simp only [g2] at hu
      exact hUp b' o hu
end

section
variable {P : Program} {ρ : Operand → V} {H : List HE} {ty : TypeId} {e eo : TypeId} {s : Nat} {L L' : List Hd → List D} {R R' : List RowD}
end
end Go.Proofs.YtindppnanjcoaaaGreatDoor.Ab
end
section
namespace Go.Proofs.YtindppnanjcoaaaGreatDoor.Ab
open Go

section
variable {α : Type}
def rsL : List Hd → List D := fun Vs => Vs.map hdD
def rsR (f : α → D) (m : List (List α)) : Option (Nat × Nat × Nat) → List RowD
  | none => m.map fun r => .own (r.map f)
  | some y => (m.map fun r => .own (r.map f)).set y.1 (.lent y.2.1 y.2.2)
/-- A slice of lists that grow; one of them may be out as a list of its own. -/
def rsE (f : α → D) (e eo : TypeId) (m : List (List α)) (y : Option (Nat × Nat × Nat)) : HE := if m = [] then .lst [] eo 1 else .ob (cO (slC eo 1 rsL) e (rsR f m y))
theorem rsR_len {f : α → D} {m : List (List α)} {y : Option (Nat × Nat × Nat)} : (rsR f m y).length = m.length := by cases y <;> simp [rsR]
end

section
variable {F : FC} {E : Nat → V} {H : List HE} {α : Type} {f : α → D} {e eo : TypeId} {m : List (List α)}
end

section
variable {P : Program} {ρ : Operand → V} {H : List HE} {ty : TypeId} {α : Type} {f : α → D} {e eo : TypeId} {m : List (List α)} {y : Option (Nat × Nat × Nat)}
end

section
variable {H : List HE} {α : Type} {f : α → D} {e eo : TypeId} {m : List (List α)}
end
end Go.Proofs.YtindppnanjcoaaaGreatDoor.Ab
end
section
namespace Go.Proofs.YtindppnanjcoaaaGreatDoor.Ab
open Go

/-! ### the plain language -/
section
variable {κ α : Type} [DecidableEq κ]
end

/-! ### the container -/
section
variable {κ α : Type} [DecidableEq κ] {fk : κ → D} {f : α → D} {e : TypeId}
end

section
variable {F : FC} {E : Nat → V} {H : List HE} {κ α : Type} [DecidableEq κ] {fk : κ → D} {f : α → D} {e : TypeId} {m : List (κ × List α)} {L : List (κ × Nat × Nat)}
end
end Go.Proofs.YtindppnanjcoaaaGreatDoor.Ab
end
section
namespace Go.Proofs.YtindppnanjcoaaaGreatDoor.Ab
open Go

section
variable {P : Program} {H : List HE} {κ α : Type} [DecidableEq κ] {fk : κ → D} {f : α → D} {kv : κ → Value} {d : TypeDesc} {e : TypeId}
end

section
variable {P : Program} {ρ : Operand → V} {H : List HE} {ty : TypeId} {κ α : Type} [DecidableEq κ] {fk : κ → D} {f : α → D} {kv : κ → Value} {d : TypeDesc} {e : TypeId} {m : List (κ × List α)} {L : List (κ × Nat × Nat)}
end
end Go.Proofs.YtindppnanjcoaaaGreatDoor.Ab
end
section
namespace Go.Proofs.YtindppnanjcoaaaGreatDoor.Ab
open Go

section
variable {κ α : Type} [DecidableEq κ]
end

section
variable {P : Program} {ρ : Operand → V} {H : List HE} {ty : TypeId} {κ α : Type} [DecidableEq κ] {fk : κ → D} {f : α → D} {kv : κ → Value} {d : TypeDesc} {e : TypeId} {m : List (κ × List α)} {L L' : List (κ × Nat × Nat)}
end

section
variable {F : FC} {E : Nat → V} {H : List HE} {κ α : Type} [DecidableEq κ] {fk : κ → D} {f : α → D} {e : TypeId} {m : List (κ × List α)}
end
end Go.Proofs.YtindppnanjcoaaaGreatDoor.Ab
end
section
namespace Go.Proofs.YtindppnanjcoaaaGreatDoor.Ab
open Go

/-! ### the plain language -/
section
variable {κ α : Type} [DecidableEq κ]
end

section
variable {P : Program} {ρ : Operand → V} {H : List HE} {ty : TypeId} {κ α : Type} [DecidableEq κ] {fk : κ → D} {f : α → D} {e : TypeId} {m : List (κ × List α)} {L : List (κ × Nat × Nat)}
end

end Go.Proofs.YtindppnanjcoaaaGreatDoor.Ab
end
section
namespace Go.Proofs.YtindppnanjcoaaaGreatDoor.Ab
open Go

theorem RowV.ren {g : G} {w : World} {S : List Nat} {i j b : Nat} {e : TypeId} {l : List D} {v : Hd} (hS : S[i]? = some j) (h : RowV g w j b e (.own l) v) : RowV (g.ren S) w i b e (.own l) v := by
  obtain ⟨h1, h2, h3, h4⟩ := h
  refine ⟨h1, h2, h3, fun hc => ?_⟩
  obtain ⟨br, arr, k1, k2, k3⟩ := h4 hc
  exact ⟨br, arr, k1, ⟨j, hS, k2⟩, k3⟩
theorem obR_cO {S : List Nat} {C : Cont} {e : TypeId} {R : List RowD} (hC : ∀ {g : G} {w : World} {i j b : Nat} {Vs : List Hd}, S[i]? = some j → C.C g w j b Vs → C.C (g.ren S) w i b Vs) (hR : ∀ r ∈ R, ∃ l, r = .own l) : ObR S (cO C e R) (cO C e R) := fun {g w i j b} hS hφ => by
  obtain ⟨Vs, h⟩ := hφ
  refine ⟨Vs, fun hu => ?_, hC hS h.c, h.len, fun k r v hr hv => ?_, h.dis⟩
  · obtain ⟨j', h1, h2⟩ := hu
    rw [hS] at h1; injection h1 with h1; subst h1
    exact h.nob h2
  · obtain ⟨l, rfl⟩ := hR r (List.mem_of_getElem? hr)
    exact (h.row k _ v hr hv).ren hS
theorem obR_rs {S : List Nat} {α : Type} {f : α → D} {e eo : TypeId} {m : List (List α)} : ObR S (cO (slC eo 1 rsL) e (rsR f m none)) (cO (slC eo 1 rsL) e (rsR f m none)) :=
  obR_cO (C := slC eo 1 rsL) (fun {g w i j b Vs} hS ⟨cap, arr, h1, h2⟩ => ⟨cap, arr, by simp only [G.ren, hS, Option.bind_some]; exact h1, h2⟩) (fun r hr => by
    simp only [rsR] at hr
    obtain ⟨q, _, rfl⟩ := List.mem_map.1 hr
    exact ⟨_, rfl⟩)
theorem LeRH.rs {S T : List Nat} {H K : List HE} {i : Nat} {α : Type} {f : α → D} {e eo : TypeId} {m : List (List α)} (h : H[i]? = some (rsE f e eo m none)) (hr : LeRH S H T K) : LeRH S H (i :: T) (rsE f e eo m none :: K) := by
  unfold rsE at h ⊢
  by_cases hm : m = []
  · rw [if_pos hm] at h ⊢; exact .lst h hr
  · rw [if_neg hm] at h ⊢; exact .ob h obR_rs hr
/-! ### the plain language -/
section
variable {κ α : Type} [DecidableEq κ] {m : List (κ × List α)} {k k' : κ} {l : List α}
end

section
variable {P : Program} {ρ : Operand → V} {H : List HE} {ty : TypeId}
/-! ### a list that is taken from in front -/
section
variable {α : Type} {f : α → D} {e : TypeId} {q : List α}
end
end
end Go.Proofs.YtindppnanjcoaaaGreatDoor.Ab
end
section
namespace Go.Proofs.YtindppnanjcoaaaGreatDoor.Ab
open Go

section
variable {H : List HE} {e : TypeId} {q q' : List D}
end

section
variable {P : Program} {ρ : Operand → V} {H : List HE} {ty : TypeId} {α : Type} {f : α → D} {e : TypeId} {q r : List α}
end
end Go.Proofs.YtindppnanjcoaaaGreatDoor.Ab
end
section
namespace Go.Proofs.YtindppnanjcoaaaGreatDoor.Ab
open Go

section
variable {P : Program} {ρ : Operand → V} {H : List HE} {ty : TypeId}
end
end Go.Proofs.YtindppnanjcoaaaGreatDoor.Ab
end
section
namespace Go.Proofs.YtindppnanjcoaaaGreatDoor.Ab
open Go

/-- A row in memory: a text and the head of a list. -/
def tbF (x : List UInt8 × Hd) : D := .agg [.str x.1, .raw (hdV x.2)]
theorem enTb : En tbF 2 := ⟨fun _ => rfl, fun x y hy => by
  have : y = .str x.1 ∨ y = .raw (hdV x.2) := by simpa [tbF, D.cells] using hy
  rcases this with rfl | rfl <;> rfl⟩
def tbL (ks : List (List UInt8)) (Vs : List Hd) : List D := (ks.zip Vs).map tbF
section
variable {α β : Type}
/-- A table; the list of one of its rows may be out as a list of its own. -/
def tbE (kf : β → List UInt8) (lf : β → List α) (f : α → D) (e eo : TypeId) (m : List β) (y : Option (Nat × Nat × Nat)) : HE :=
  if m = [] then .lst [] eo 2 else .ob (cO (slC eo 2 (tbL (m.map kf))) e (rsR f (m.map lf) y))
variable {kf : β → List UInt8} {lf : β → List α} {f : α → D} {e eo : TypeId} {m : List β} {y : Option (Nat × Nat × Nat)}
end

section
variable {F : FC} {E : Nat → V} {H : List HE} {α β : Type} {kf : β → List UInt8} {lf : β → List α} {f : α → D} {e eo : TypeId} {m : List β}
end

section
variable {P : Program} {ρ : Operand → V} {H : List HE} {ty : TypeId} {α β : Type} {kf : β → List UInt8} {lf : β → List α} {f : α → D} {e eo : TypeId} {m : List β} {y : Option (Nat × Nat × Nat)}
end

section
variable {H : List HE} {α β : Type} {kf : β → List UInt8} {lf : β → List α} {f : α → D} {e eo : TypeId} {m : List β}
def tbD (kf : β → List UInt8) (lf : β → List α) (f : α → D) (x : β) : D := .agg [.str (kf x), .sl ((lf x).map f)]
/-- What a table stands for. -/
theorem tb_rep {g : G} {w : World} {id b : Nat} {Vs : List Hd} {Pr' : Nat → Nat → Prop} (hC : CAt (slC eo 2 (tbL (m.map kf))) e (rsR f (m.map lf) none) g w id b Vs) (hP : ∀ b o, g.Pr b o → Pr' b o) (hb : ∀ o, Pr' b o) (hu : ∀ b' o, g.υ id b' → Pr' b' o) (h1 : ∀ x, (f x).cells = [f x]) :
    ∃ cap, g.τ id = some (0, some ⟨b, 0, none⟩, cap) ∧ RepD Pr' w (.sl (m.map (tbD kf lf f))) (.slice (some ⟨b, 0, none⟩) m.length cap) := by
  obtain ⟨cap, arr, o1, o2, o3, o4, o5, o6, o7⟩ := hC.c
  have hV : Vs.length = m.length := by rw [hC.len, rsR_len, List.length_map]
  have hL : (tbL (m.map kf) Vs).length = m.length := by simp [tbL, hV]
  have mono : ∀ b o, g.Pr b o → Pr' b o ∧ w.cell? ⟨b, o, none⟩ = w.cell? ⟨b, o, none⟩ := fun b o h => ⟨hP b o h, rfl⟩
  refine ⟨cap, o1, ?_⟩
  have key := RepD.sl (Pr := Pr') (w := w) (m.map (tbD kf lf f)) (some ⟨b, 0, none⟩) cap 2 (fun k => (w.cell? ⟨b, k, none⟩).getD undef) (fun x hx => by obtain ⟨y, _, rfl⟩ := List.mem_map.1 hx; rfl) (by simp; omega) (fun hne => ⟨b, 0, rfl, fun k hk => ⟨hb _, ?_⟩⟩) (fun k x hx => ?_)
  · simp only [List.length_map] at key
    exact key
  · simp only [List.length_map] at hk
    have : k < arr.size := by omega
    simp only [Nat.zero_add, cell_of_cells o5]
    simp [this]
  · obtain ⟨y, hy, hx2⟩ := flat_getP (s := 2) (fun _ => rfl) hx
    have hkl : k / 2 < m.length := (List.getElem?_eq_some_iff.1 hy).1
    have hkV : k / 2 < Vs.length := by omega
    have hka : k < arr.size := by omega
    have hz : ((m.map kf).zip Vs)[k / 2]? = some (kf y, Vs[k / 2]) := List.getElem?_zip_eq_some.2 ⟨by simp [hy], by simp [hkV]⟩
    have hfl : ∀ j, j < 2 → (D.flat (tbL (m.map kf) Vs))[k / 2 * 2 + j]? = (tbF (kf y, Vs[k / 2])).cells[j]? := fun j hj => flat_get (fun x hx => enTb.szL _ x hx) (by simp only [List.getElem?_map, hz, Option.map_some]) hj
    have hak : arr[k]? = some arr[k] := by simp [hka]
    have hcell : (w.cell? ⟨b, k, none⟩).getD undef = arr[k] := by rw [cell_of_cells o5, hak]; rfl
    simp only [hcell]
    have hm : k % 2 = 0 ∨ k % 2 = 1 := by omega
    rcases hm with hm | hm
    · rw [hm] at hx2
      have hx3 : x = .str (kf y) := by simpa [tbD, D.cells] using hx2.symm
      have := hfl 0 (by omega)
      rw [show k / 2 * 2 + 0 = k by omega] at this
      have h3 := o7 k (.str (kf y)) arr[k] (by rw [this]; rfl) hak
      rw [hx3]
      exact h3.mono mono
    · rw [hm] at hx2
      have hx3 : x = .sl ((lf y).map f) := by simpa [tbD, D.cells] using hx2.symm
      have := hfl 1 (by omega)
      rw [show k / 2 * 2 + 1 = k by omega] at this
      have h3 := o7 k (.raw (hdV Vs[k / 2])) arr[k] (by rw [this]; rfl) hak
      have h4 : arr[k] = hdV Vs[k / 2] := by
        generalize arr[k] = u at h3
        cases h3 with
        | raw => rfl
      rw [hx3, h4]
      have hrow := hC.row (k / 2) (.own ((lf y).map f)) Vs[k / 2] (by simp [rsR, hy]) (by simp [hkV])
      generalize Vs[k / 2] = v at hrow
      obtain ⟨a2, len2, cap2⟩ := v
      obtain ⟨z1, z2, z3, z4⟩ := hrow
      simp only at z1 z2 z3 z4
      subst z1
      refine .sl ((lf y).map f) a2 cap2 1 (fun k => match a2 with | some ad => (w.cell? ⟨ad.block, k, none⟩).getD undef | none => undef) (fun x hx => by obtain ⟨y, _, rfl⟩ := List.mem_map.1 hx; rw [h1]; rfl) z2 (fun hne => ?_) (fun k2' x hx => ?_)
      · have hc2 : 0 < cap2 := by have := List.length_pos_iff.2 hne; omega
        obtain ⟨br, arr2, rfl, y2, y3, y4, y5, y6⟩ := z4 hc2
        refine ⟨br, 0, rfl, fun k3 hk3 => ⟨hu _ _ y2, ?_⟩⟩
        have : k3 < arr2.size := by omega
        simp only [Nat.zero_add, cell_of_cells y4]
        simp [this]
      · rw [flat_one1 h1] at hx
        have hk3 : k2' < ((lf y).map f).length := (List.getElem?_eq_some_iff.1 hx).1
        obtain ⟨br, arr2, rfl, y2, y3, y4, y5, y6⟩ := z4 (by omega)
        have : k2' < arr2.size := by omega
        simp only [cell_of_cells y4]
        have h4 : arr2[k2']? = some arr2[k2'] := by simp [this]
        rw [h4]
        exact (y6 k2' x _ hx h4).mono mono
end

/-! ### calls to which lists and tables are lent -/
def LentB (g : G) (H : List HE) (ids : List Nat) (b : Nat) : Prop := ∃ id x, id ∈ ids ∧ H[id]? = some x ∧ g.blk id x b
def LPr (g : G) (H : List HE) (ids : List Nat) (b o : Nat) : Prop := g.Pr b o ∨ LentB g H ids b
/-- What an argument stands for while things are lent. -/
def LR (ρ : Operand → V) (H : List HE) (ids : List Nat) (x : Operand) (d : D) : Prop := ∀ (g : G) (w : World) (v : Value), WOK g w H → Rep g w (ρ x) v → RepD (LPr g H ids) w d v
inductive LK (H : List HE) : List Nat → Prop
  | nil : LK H []
  | lst {id s : Nat} {l : List D} {e : TypeId} {ids : List Nat} : H[id]? = some (.lst l e s) → LK H ids → LK H (id :: ids)
  | tb {α β : Type} {kf : β → List UInt8} {lf : β → List α} {f : α → D} {e eo : TypeId} {m : List β} {y : Option (Nat × Nat × Nat)} {id : Nat} {ids : List Nat} : H[id]? = some (tbE kf lf f e eo m y) → LK H ids → LK H (id :: ids)
theorem LK.get {H : List HE} {ids : List Nat} (h : LK H ids) : ∀ id ∈ ids, (∃ l e s, H[id]? = some (.lst l e s)) ∨ ∃ x, H[id]? = some (.ob x) := by
  induction h with
  | nil => simp
  | lst h1 _ ih =>
    intro id hid
    rcases List.mem_cons.1 hid with rfl | hid
    · exact .inl ⟨_, _, _, h1⟩
    · exact ih id hid
  | tb h1 _ ih =>
    intro id hid
    rcases List.mem_cons.1 hid with rfl | hid
    · unfold tbE at h1
      split at h1
      · exact .inl ⟨_, _, _, h1⟩
      · exact .inr ⟨_, h1⟩
    · exact ih id hid
section
variable {ρ : Operand → V} {H : List HE} {ids : List Nat} {x : Operand}
theorem LR.d {d : D} (h : As (ρ x) d) : LR ρ H ids x d := fun _ _ _ _ hr => (h.rep hr).mono (fun _ _ hp => ⟨.inl hp, rfl⟩)
theorem LR.l {α : Type} {f : α → D} {l : List α} {id len s : Nat} {e : TypeId} (hx : Is (ρ x) (.hs id 0 len s)) (hH : H[id]? = some (.lst (l.map f) e s)) (hl : l.length = len) (hf : En f s) (hid : inB ids id = true) : LR ρ H ids x (.sl (l.map f)) := by
  intro g w v hw hr
  have hh := hx.rep hr
  have hs := hf.szL l
  have hmem := inB_mem.1 hid
  rw [← List.length_map (f := f)] at hl
  generalize l.map f = l at hH hl hs
  obtain ⟨a0, cap0, f1, f2, f3, f4⟩ := hw.lst id l e s hH
  generalize v = rr at hh
  cases hh with
  | @hs _ _ _ _ m cap' n0 c0 a' a0' p1 p2 =>
    rw [f1] at p1; injection p1 with p1; injection p1 with p1 p3; injection p3 with p3 p4
    obtain ⟨r1, r2, r3, _⟩ := hs0 (p2 p1.symm)
    subst r1; subst r3; subst p3; subst p4
    rw [r2, ← hl]
    refine .sl l _ _ s (fun k => match a0 with | some ad => (w.cell? ⟨ad.block, k, none⟩).getD undef | none => undef) hs f2 (fun hnil => ?_) (fun k x hx => ?_)
    · have hlpos : 0 < l.length := List.length_pos_iff.2 hnil
      have hc : 0 < cap0 := by omega
      obtain ⟨b, arr, rfl, q0, q2, q3, q4, q5⟩ := f4 hc
      refine ⟨b, 0, rfl, fun k hk => ⟨.inr ⟨id, _, hmem, hH, by simp [G.blk, f1, hc]⟩, ?_⟩⟩
      have hka : k < arr.size := by
        rw [q3]; exact Nat.lt_of_lt_of_le hk (Nat.mul_le_mul_right _ f2)
      simp only [Nat.zero_add, cell_of_cells q2]
      simp [hka]
    · have hfl := flat_length hs
      have hkl : k < l.length * s := by rw [← hfl]; exact (List.getElem?_eq_some_iff.1 hx).1
      have hc : 0 < cap0 := by
        rcases Nat.eq_zero_or_pos cap0 with h | h
        · have : l.length = 0 := by omega
          rw [this] at hkl; simp at hkl
        · exact h
      obtain ⟨b, arr, rfl, q0, q2, q3, q4, q5⟩ := f4 hc
      have hka : k < arr.size := by
        rw [q3]; exact Nat.lt_of_lt_of_le hkl (Nat.mul_le_mul_right _ f2)
      simp only [cell_of_cells q2]
      have : arr[k]? = some arr[k] := by simp [hka]
      rw [this]
      exact (q5 k x _ hx this).mono (fun _ _ hp => ⟨.inl hp, rfl⟩)
theorem LR.t {α β : Type} {kf : β → List UInt8} {lf : β → List α} {f : α → D} {e eo : TypeId} {m : List β} {id N : Nat} {fe : β → D} (hx : Is (ρ x) (.hs id 0 N 2)) (hN : m.length = N) (hH : H[id]? = some (tbE kf lf f e eo m none)) (h1 : ∀ x, (f x).cells = [f x]) (he : fe = tbD kf lf f) (hid : inB ids id = true) : LR ρ H ids x (.sl (m.map fe)) := by
  subst he
  intro g w v hw hr
  have hh := hx.rep hr
  have hmem := inB_mem.1 hid
  by_cases hm : m = []
  · subst hm
    unfold tbE at hH
    rw [if_pos rfl] at hH
    obtain ⟨a, cap, f1, f2, f3, f4⟩ := hw.lst id _ _ _ hH
    generalize v = rr at hh
    cases hh with
    | @hs _ _ _ _ m' cap' n0 c0 a' a0 p1 p2 =>
      rw [f1] at p1; injection p1 with p1; injection p1 with p1 p3; injection p3 with p3 p4
      obtain ⟨r1, r2, r3, r4⟩ := hs0 (p2 p1.symm)
      rw [r2, ← hN]
      exact .sl [] a0 c0 0 (fun _ => undef) (by simp) (by simp) (by simp) (by simp [D.flat])
  · have hH' := hH
    unfold tbE at hH'
    rw [if_neg hm] at hH'
    obtain ⟨b, k1, ⟨Vs, k2⟩, k3, k4⟩ := hw.ob id _ hH'
    obtain ⟨cap, o1, key⟩ := tb_rep (Pr' := LPr g H ids) k2 (fun _ _ h => .inl h) (fun _ => .inr ⟨id, _, hmem, hH', .inl k1⟩) (fun _ _ h => .inr ⟨id, _, hmem, hH', .inr h⟩) h1
    generalize v = rr at hh
    cases hh with
    | @hs _ _ _ _ m' cap' n0 c0 a' a0 p1 p2 =>
      rw [o1] at p1; injection p1 with p1; injection p1 with p1 p3; injection p3 with p3 p4
      obtain ⟨r1, r2, r3, r4⟩ := hs0 (p2 p1.symm)
      subst r1; subst r3; subst p3; subst p4
      rw [r2, ← hN]
      exact key
inductive ArgsL (ρ : Operand → V) (H : List HE) (ids : List Nat) : List Operand → List D → Prop
  | nil : ArgsL ρ H ids [] []
  | cons {x : Operand} {d : D} {xs : List Operand} {ds : List D} : LR ρ H ids x d → ArgsL ρ H ids xs ds → ArgsL ρ H ids (x :: xs) (d :: ds)
theorem ArgsL.get {xs : List Operand} {ds : List D} (h : ArgsL ρ H ids xs ds) : xs.length = ds.length ∧ ∀ (i : Nat) d, ds[i]? = some d → ∃ x, xs[i]? = some x ∧ LR ρ H ids x d := by
  induction h with
  | nil => simp
  | cons ha _ ih =>
    refine ⟨by simp [ih.1], fun i d hd => ?_⟩
    cases i with
    | zero => simp only [List.getElem?_cons_zero, Option.some.injEq] at hd; subst hd; exact ⟨_, rfl, ha⟩
    | succ i => exact ih.2 i d (by simpa using hd)
end
section
variable {P : Program} {ρ : Operand → V} {H : List HE} {ty : TypeId}
end
end Go.Proofs.YtindppnanjcoaaaGreatDoor.Ab
end
section
namespace Go.Proofs.YtindppnanjcoaaaGreatDoor.Ab
open Go

/-! ### a row without a list -/
section
variable {P : Program} {ρ : Operand → V} {H : List HE} {ty : TypeId}
end

/-! ### a row is put in -/
section
variable {H : List HE} {e eo : TypeId}
end
section
variable {P : Program} {ρ : Operand → V} {H : List HE} {ty : TypeId} {α β : Type} {kf : β → List UInt8} {lf : β → List α} {f : α → D} {e eo : TypeId} {m m' : List β}
end

/-! ### where ways meet -/
section
variable {α β : Type} {kf : β → List UInt8} {lf : β → List α} {f : α → D} {e eo : TypeId} {m : List β}
theorem obR_tb {S : List Nat} : ObR S (cO (slC eo 2 (tbL (m.map kf))) e (rsR f (m.map lf) none)) (cO (slC eo 2 (tbL (m.map kf))) e (rsR f (m.map lf) none)) :=
  obR_cO (C := slC eo 2 (tbL (m.map kf))) (fun {g w i j b Vs} hS ⟨cap, arr, h1, h2⟩ => ⟨cap, arr, by simp only [G.ren, hS, Option.bind_some]; exact h1, h2⟩) (fun r hr => by
    simp only [rsR] at hr
    obtain ⟨q, _, rfl⟩ := List.mem_map.1 hr
    exact ⟨_, rfl⟩)
theorem LeRH.tb {S T : List Nat} {H K : List HE} {i : Nat} (h : H[i]? = some (tbE kf lf f e eo m none)) (hr : LeRH S H T K) : LeRH S H (i :: T) (tbE kf lf f e eo m none :: K) := by
  unfold tbE at h ⊢
  by_cases hm : m = []
  · rw [if_pos hm] at h ⊢; exact .lst h hr
  · rw [if_neg hm] at h ⊢; exact .ob h obR_tb hr
theorem Gh.free {F : FC} {E : Nat → V} {H : List HE} : Gh F ⟨E, H⟩ ⟨E, H ++ [.free]⟩ := Gh.wok fun g w hw => ⟨g, hw.addFree, .refl g w⟩
end
end Go.Proofs.YtindppnanjcoaaaGreatDoor.Ab
end
section
namespace Go.Proofs.YtindppnanjcoaaaGreatDoor.Ab
open Go

/-! ### made one by one -/
section
variable {α β : Type}
variable {kf : β → List UInt8} {lf : β → List α} {f : α → D} {e eo : TypeId} {m : List β} {p : List β × Nat} {r : β} {a : Int}
end
section
variable {P : Program} {ρ : Operand → V} {H : List HE} {ty : TypeId} {α β : Type} {kf : β → List UInt8} {lf : β → List α} {f : α → D} {e eo : TypeId} {p : List β × Nat} {r : β} {a : Int}
end
section
variable {F : FC} {E : Nat → V} {H : List HE} {α β : Type} {kf : β → List UInt8} {lf : β → List α} {f : α → D} {e eo : TypeId} {p : List β × Nat} {r r' : β} {a : Int}
end
section
variable {α β : Type} {kf : β → List UInt8} {lf : β → List α} {f : α → D} {e eo : TypeId} {p : List β × Nat}
end

/-! ### taken one by one -/
section
variable {α β : Type}
end
section
variable {P : Program} {ρ : Operand → V} {H : List HE} {ty : TypeId} {α β : Type} {kf : β → List UInt8} {lf : β → List α} {f : α → D} {e eo N : Nat} {m : List β}
end
section
variable {F : FC} {E : Nat → V} {H : List HE} {α β : Type} {kf : β → List UInt8} {lf : β → List α} {f : α → D} {e eo N : Nat} {m : List β} {a : Int} {q : β × List β}
end
section
variable {α β : Type} {kf : β → List UInt8} {lf : β → List α} {f : α → D} {e eo N : Nat} {m : List β}
end
end Go.Proofs.YtindppnanjcoaaaGreatDoor.Ab
end
section
namespace Go.Proofs.YtindppnanjcoaaaGreatDoor.Ab
open Go

section
variable {g : G} {w : World} {H : List HE}
/-- A free entry at the end may be left out. -/
theorem WOK.delFree (hw : WOK g w (H ++ [.free])) : WOK g w H := by
  have up : ∀ {i : Nat} {x : HE}, H[i]? = some x → (H ++ [HE.free])[i]? = some x := fun {i x} h => by
    rw [List.getElem?_append_left (List.getElem?_eq_some_iff.1 h).1]; exact h
  refine ⟨hw.pr, hw.xs, fun i x b h => hw.blk i x b (up h), fun i i' x x' b h h' => hw.sep i i' x x' b (up h) (up h'), fun i c h => hw.row i c (up h), fun i n e s h => hw.tok i n e s (up h), fun i l e s h => hw.lst i l e s (up h), fun i x h => hw.ob i x (up h), fun i h => ?_, hw.kc⟩
  rcases h with h | h
  · exact hw.free i (.inl (up h))
  · by_cases hi : i = H.length
    · subst hi; exact hw.free _ (.inl (by simp))
    · exact hw.free i (.inr (by simp; omega))
/-- A call does not mind a free entry. -/
theorem ACall.fr {P : Program} {f : FuncId} {args : List V} {H : List HE} {R : V → List HE → Prop} (h : ACall P f args H R) : ACall P f args (H ++ [.free]) R :=
  fun g w vals hw => h g w vals hw.delFree
end
section
variable {F : FC} {H : List HE} {α β : Type} {kf : β → List UInt8} {lf : β → List α} {f : α → D} {e eo : TypeId} {m : List β}
end

/-! ### ranges over maps whose order is seen -/
end Go.Proofs.YtindppnanjcoaaaGreatDoor.Ab
end
section
namespace Go.Proofs.YtindppnanjcoaaaGreatDoor.Ab
open Go

section
variable {P : Program} {ρ : Operand → V} {H : List HE} {ty : TypeId}
end

section
variable {F : FC} {Q : Exit → St → Prop} {c : Code} {E : Nat → V} {H : List HE} {α : Type} {f : α → D} {e eo : TypeId} {N : Nat} {M : List (Bool × List α)}
end
end Go.Proofs.YtindppnanjcoaaaGreatDoor.Ab
end
