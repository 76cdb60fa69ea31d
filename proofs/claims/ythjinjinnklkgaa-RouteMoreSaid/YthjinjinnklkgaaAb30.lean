/- Lists of lists whose rows are written: one entry of the heap for all of them. Conditions: none. -/
import Derived.Test.YthjinjinnklkgaaAb29
namespace Go.Proofs.Ythjinjinnklkgaa.Ab
open Go

/-- Entries of the heap change, and what they take in memory; all others stay. -/
theorem WOK.chg {g g' : G} {w w' : World} {H H' : List HE} (K : Nat → Prop) (hw : WOK g w H) (he : Evo g w g' w') (hl : H'.length = H.length) (hKl : ∀ i, K i → i < H.length) (hH : ∀ i, ¬ K i → H'[i]? = H[i]?)
    (hg : ∀ i, ¬ K i → g'.σ i = g.σ i ∧ g'.τ i = g.τ i ∧ g'.υ i = g.υ i) (hX : ∀ b, g.X b → g'.X b) (hXs : ∀ b, g'.X b → b < w'.heap.size) (hPs : ∀ b o, g'.Pr b o → b < w'.heap.size)
    (hu : ∀ i e b, ¬ K i → H[i]? = some e → g.blk i e b → w'.heap[b]? = w.heap[b]? ∧ ∀ o, g'.Pr b o → g.Pr b o)
    (hb : ∀ i e b, K i → H'[i]? = some e → g'.blk i e b → g'.X b ∧ ∃ i0 e0, K i0 ∧ H[i0]? = some e0 ∧ g.blk i0 e0 b)
    (hs : ∀ i i' e e' b, K i → K i' → H'[i]? = some e → H'[i']? = some e' → g'.blk i e b → g'.blk i' e' b → i = i')
    (hE : ∀ i e, K i → H'[i]? = some e → e = .dead ∨ ∃ x, e = .ob x ∧ ∃ b, g'.σ i = some b ∧ x.φ g' w' i b ∧ (∀ o, ¬ g'.Pr b o) ∧ ∀ b' o, g'.υ i b' → ¬ g'.Pr b' o) : WOK g' w' H' := by
  classical
  have hblk : ∀ i e b, ¬ K i → (g'.blk i e b ↔ g.blk i e b) := fun i e b hi => by
    obtain ⟨q1, q2, q3⟩ := hg i hi
    cases e <;> simp only [G.blk, q1, q2, q3]
  have hfar : ∀ i e b, H'[i]? = some e → g'.blk i e b → ∃ i0 e0, (K i ↔ K i0) ∧ (¬ K i → i0 = i) ∧ H[i0]? = some e0 ∧ g.blk i0 e0 b := fun i e b h1 h2 => by
    by_cases hi : K i
    · obtain ⟨_, i0, e0, k1, k2, k3⟩ := hb i e b hi h1 h2
      exact ⟨i0, e0, ⟨fun _ => k1, fun _ => hi⟩, fun h => absurd hi h, k2, k3⟩
    · exact ⟨i, e, Iff.rfl, fun _ => rfl, (hH i hi) ▸ h1, (hblk i e b hi).1 h2⟩
  refine ⟨hPs, hXs, ?_, ?_, ?_, ?_, ?_, ?_, ?_, hw.kcE he⟩
  · intro i e b h1 h2
    by_cases hi : K i
    · exact (hb i e b hi h1 h2).1
    · exact hX _ (hw.blk i e b ((hH i hi) ▸ h1) ((hblk i e b hi).1 h2))
  · intro i i' e e' b h1 h2 h3 h4
    obtain ⟨j, f, k1, k2, k3, k4⟩ := hfar i e b h1 h3
    obtain ⟨j', f', l1, l2, l3, l4⟩ := hfar i' e' b h2 h4
    have hjj : j = j' := hw.sep j j' f f' b k3 l3 k4 l4
    by_cases hi : K i
    · have hi' : K i' := l1.2 (hjj ▸ k1.1 hi)
      exact hs i i' e e' b hi hi' h1 h2 h3 h4
    · have hi' : ¬ K i' := fun h => hi (k1.2 (hjj ▸ l1.1 h))
      rw [← k2 hi, ← l2 hi', hjj]
  · intro i c h
    by_cases hi : K i
    · rcases hE i _ hi h with h | ⟨_, h, _⟩ <;> cases h
    · have h' := (hH i hi) ▸ h
      obtain ⟨q1, q2, q3⟩ := hg i hi
      obtain ⟨b1, arr1, et1, g1, g2, g3, g4, g5⟩ := hw.row i c h'
      obtain ⟨u1, u2⟩ := hu i _ b1 hi h' (by simpa [G.blk] using g1)
      exact ⟨b1, arr1, et1, q1 ▸ g1, u1.trans g2, g3, fun k x v hx hv => (g4 k x v hx hv).mono he, fun o hp => g5 o (u2 o hp)⟩
  · intro i n e s h
    by_cases hi : K i
    · rcases hE i _ hi h with h | ⟨_, h, _⟩ <;> cases h
    · have h' := (hH i hi) ▸ h
      obtain ⟨q1, q2, q3⟩ := hg i hi
      obtain ⟨a, cap, g1, g2, g3, g4⟩ := hw.tok i n e s h'
      refine ⟨a, cap, q2 ▸ g1, g2, g3, fun hlt => ?_⟩
      obtain ⟨b1, arr1, k1, k2, k3, k4⟩ := g4 hlt
      obtain ⟨u1, u2⟩ := hu i _ b1 hi h' (by simp [G.blk, g1, hlt, k1])
      exact ⟨b1, arr1, k1, u1.trans k2, k3, fun o hp => k4 o (u2 o hp)⟩
  · intro i l e s h
    by_cases hi : K i
    · rcases hE i _ hi h with h | ⟨_, h, _⟩ <;> cases h
    · have h' := (hH i hi) ▸ h
      obtain ⟨q1, q2, q3⟩ := hg i hi
      obtain ⟨a, cap, g1, g2, g3, g4⟩ := hw.lst i l e s h'
      refine ⟨a, cap, q2 ▸ g1, g2, g3, fun hlt => ?_⟩
      obtain ⟨b1, arr1, k1, k0, k2, k3, k4, k5⟩ := g4 hlt
      obtain ⟨u1, u2⟩ := hu i _ b1 hi h' (by simp [G.blk, g1, hlt, k1])
      exact ⟨b1, arr1, k1, q1 ▸ k0, u1.trans k2, k3, fun o hp => k4 o (u2 o hp), fun k x v hx hv => (k5 k x v hx hv).mono he.pr⟩
  · intro i x h
    by_cases hi : K i
    · rcases hE i _ hi h with h | ⟨x', h, k⟩
      · cases h
      · injection h with h; subst h; exact k
    · have h' := (hH i hi) ▸ h
      obtain ⟨q1, q2, q3⟩ := hg i hi
      obtain ⟨b1, k1, k2, k3, k4⟩ := hw.ob i x h'
      obtain ⟨u1, u2⟩ := hu i _ b1 hi h' (.inl k1)
      refine ⟨b1, q1 ▸ k1, x.st he q2 q3 u1 (fun b' hb' => (hu i _ b' hi h' (.inr hb')).1) k2, fun o hp => k3 o (u2 o hp), fun b' o hb' hp => ?_⟩
      rw [q3] at hb'
      exact k4 b' o hb' ((hu i _ b' hi h' (.inr hb')).2 o hp)
  · intro i h
    have hi : ¬ K i := fun hi => by
      rcases h with h | h
      · rcases hE i _ hi h with h | ⟨_, h, _⟩ <;> cases h
      · have := hKl i hi; omega
    obtain ⟨q1, q2, q3⟩ := hg i hi
    rw [q1, q2, q3]
    exact hw.free i (h.imp (fun h => (hH i hi) ▸ h) (fun h => by omega))

/-- A row: data, or memory of its own. -/
def RowAt (g : G) (w : World) (id b : Nat) (e : TypeId) : Bool → List D → Value → Prop
  | false, l, v => RepD g.Pr w (.sl l) v
  | true, l, v => ∃ a cap, v = .slice a l.length cap ∧ l.length ≤ cap ∧ (l ≠ [] → ∃ br arr, a = some ⟨br, 0, none⟩ ∧ g.υ id br ∧ br ≠ b ∧ w.heap[br]? = some (.cells arr e (0, 0)) ∧ l.length ≤ arr.size ∧
      ∀ (k : Nat) x u, l[k]? = some x → arr[k]? = some u → RepD g.Pr w x u)
def rowB : Value → Option Nat
  | .slice (some a) _ _ => some a.block
  | _ => none
structure NlAt (g : G) (w : World) (id b : Nat) (e eo : TypeId) (N : Nat) (M : List (Bool × List D)) (Vs : List Value) : Prop where
  len : Vs.length = M.length
  n : M.length = N
  own : ∃ cap arr, g.τ id = some (0, some ⟨b, 0, none⟩, cap) ∧ N ≤ cap ∧ 0 < cap ∧ w.heap[b]? = some (.cells arr eo (0, 0)) ∧ N ≤ arr.size ∧ ∀ (k : Nat) v, Vs[k]? = some v → arr[k]? = some v
  row : ∀ (k : Nat) m v, M[k]? = some m → Vs[k]? = some v → RowAt g w id b e m.1 m.2 v
  dis : ∀ (k k' : Nat) l l' v v' B, k ≠ k' → M[k]? = some (true, l) → M[k']? = some (true, l') → l ≠ [] → l' ≠ [] → Vs[k]? = some v → Vs[k']? = some v' → rowB v = some B → rowB v' = some B → False

theorem RowAt.mono {g g' : G} {w w' : World} {id id' b : Nat} {e : TypeId} {f : Bool} {l : List D} {v : Value} (hP : ∀ b o, g.Pr b o → g'.Pr b o ∧ w'.cell? ⟨b, o, none⟩ = w.cell? ⟨b, o, none⟩)
    (hu : ∀ b', g.υ id b' → g'.υ id' b') (ho : ∀ b', g.υ id b' → b' ≠ b → w'.heap[b']? = w.heap[b']?) (h : RowAt g w id b e f l v) : RowAt g' w' id' b e f l v := by
  cases f with
  | false => exact RepD.mono hP h
  | true =>
    obtain ⟨a, cap, h1, h2, h3⟩ := h
    refine ⟨a, cap, h1, h2, fun hl => ?_⟩
    obtain ⟨br, arr, k1, k2, k3, k4, k5, k6⟩ := h3 hl
    exact ⟨br, arr, k1, hu _ k2, k3, (ho _ k2 k3).trans k4, k5, fun k x u hx hu' => (k6 k x u hx hu').mono hP⟩
theorem NlAt.st {g g' : G} {w w' : World} {id b : Nat} {e eo : TypeId} {N : Nat} {M : List (Bool × List D)} {Vs : List Value} (he : Evo g w g' w') (ht : g'.τ id = g.τ id) (hu : g'.υ id = g.υ id) (hb : w'.heap[b]? = w.heap[b]?)
    (ho : ∀ b', g.υ id b' → w'.heap[b']? = w.heap[b']?) (h : NlAt g w id b e eo N M Vs) : NlAt g' w' id b e eo N M Vs where
  len := h.len
  n := h.n
  own := by
    obtain ⟨cap, arr, h1, h2, h3, h4, h5, h6⟩ := h.own
    exact ⟨cap, arr, ht ▸ h1, h2, h3, hb.trans h4, h5, h6⟩
  row := fun k m v hm hv => (h.row k m v hm hv).mono he.pr (fun b' hb' => by rw [hu]; exact hb') (fun b' hb' _ => ho b' hb')
  dis := h.dis
/-- Such a list, the values of its rows known; and not known. -/
def nlV (e eo : TypeId) (N : Nat) (M : List (Bool × List D)) (Vs : List Value) : OB where
  φ := fun g w id b => NlAt g w id b e eo N M Vs
  st := fun he ht hu hb ho h => h.st he ht hu hb ho
  fr := false
  fre := fun h => by cases h
def nlO (e eo : TypeId) (N : Nat) (M : List (Bool × List D)) : OB where
  φ := fun g w id b => ∃ Vs, NlAt g w id b e eo N M Vs
  st := fun he ht hu hb ho ⟨Vs, h⟩ => ⟨Vs, h.st he ht hu hb ho⟩
  fr := false
  fre := fun h => by cases h
theorem obR_nl {S : List Nat} {e eo : TypeId} {N : Nat} {M : List (Bool × List D)} : ObR S (nlO e eo N M) (nlO e eo N M) := fun {g w i j b} hS h0 => by
  obtain ⟨Vs, h⟩ := h0
  show ∃ Vs, NlAt (g.ren S) w i b e eo N M Vs
  refine ⟨Vs, ⟨h.len, h.n, ?_, fun k m v hm hv => ?_, h.dis⟩⟩
  rotate_left
  · exact RowAt.mono (g := g) (g' := g.ren S) (w := w) (id := j) (fun b o hp => ⟨hp, rfl⟩) (fun b' hb' => ⟨j, hS, hb'⟩) (fun _ _ _ => rfl) (h.row k m v hm hv)
  obtain ⟨cap, arr, h1, h2⟩ := h.own
  exact ⟨cap, arr, by simp [G.ren, hS]; exact h1, h2⟩

section
variable {F : FC} {K : St → Prop} {ops : Array Oper} {os : List Oper} {E : Nat → V} {H : List HE} {e eo : TypeId} {N : Nat} {M : List (Bool × List D)}
theorem AL.openNl (id : Nat) (hH : H[id]? = some (.ob (nlO e eo N M))) (h : ∀ Vs, AL F ops K os ⟨E, H.set id (.ob (nlV e eo N M Vs))⟩) : AL F ops K os ⟨E, H⟩ := by
  rintro a w ⟨h1, h2, g, hw, h4, h5⟩
  obtain ⟨b, k1, ⟨Vs, k2⟩, _⟩ := hw.ob id _ hH
  exact h Vs a w ⟨h1, h2, g, (hw.setOb (x1 := nlV e eo N M Vs) hH k1 ⟨rfl, rfl, rfl⟩ rfl (fun _ _ => rfl) (fun _ => k2)).1, h4, h5⟩
theorem AL.closeNl {Vs : List Value} (id : Nat) (hH : H[id]? = some (.ob (nlV e eo N M Vs))) (h : AL F ops K os ⟨E, H.set id (.ob (nlO e eo N M))⟩) : AL F ops K os ⟨E, H⟩ := by
  rintro a w ⟨h1, h2, g, hw, h4, h5⟩
  obtain ⟨b, k1, k2, _⟩ := hw.ob id _ hH
  exact h a w ⟨h1, h2, g, (hw.setOb (x1 := nlO e eo N M) hH k1 ⟨rfl, rfl, rfl⟩ rfl (fun _ _ => rfl) (fun _ => ⟨Vs, k2⟩)).1, h4, h5⟩
end

/-! ### operations, the lists as plain Lean -/
def nlD {α : Type} (f : α → D) (M : List (Bool × List α)) : List (Bool × List D) := M.map fun r => (r.1, r.2.map f)
def toNl {α : Type} (l : List (List α)) : Option (List (Bool × List α)) := if l = [] then none else some (l.map fun r => (false, r))
def nlRow {α : Type} (M : List (Bool × List α)) (k : Int) (l : List α) : Option (List (Bool × List α)) := if 0 ≤ k ∧ k.toNat < M.length then some (M.set k.toNat (true, l)) else none
def nlGet {α : Type} (M : List (Bool × List α)) (i k : Int) : Option α := (ix M i).bind fun r => ix r.2 k
def nlPut {α : Type} (M : List (Bool × List α)) (i k : Int) (v : α) : Option (List (Bool × List α)) := (ix M i).bind fun r => if r.1 = true then (setI r.2 k v).map fun l => M.set i.toNat (true, l) else none
def rawAt : Value → Nat → Value
  | .slice (some a) _ _, k => .pointer (some (a.add k))
  | _, _ => undef
theorem nlD_get {α : Type} {f : α → D} {M : List (Bool × List α)} {k : Nat} {r : Bool × List α} (h : M[k]? = some r) : (nlD f M)[k]? = some (r.1, r.2.map f) := by simp [nlD, h]

section
variable {P : Program} {ρ : Operand → V} {H : List HE} {ty : TypeId} {α : Type} {f : α → D} {e eo : TypeId} {N : Nat} {M : List (Bool × List α)} {Vs : List Value}
theorem op_indexAddr_nl {x y : Operand} {t et bytes id : Nat} {k : IntKind} {a : Int} {m : Bool × List α} (hx : Is (ρ x) (.hs id 0 N 1)) (hH : H[id]? = some (.ob (nlV e eo N (nlD f M) Vs)))
    (hy : As (ρ y) (.int k a)) (hv : ix M a = some m) (ht : SlT P t et 1 bytes) : OpV P (.indexAddr t x y) ty ρ H (.ptr id a.toNat) H :=
  OpV.of_val fun g w r hw h => by
    have h1 := hx.rep (h x (by simp [Op.operands]))
    have h2 := hy.int (h y (by simp [Op.operands]))
    obtain ⟨i, hi, hv'⟩ := ix_nat hv
    subst hi
    have hil : i < M.length := (List.getElem?_eq_some_iff.1 hv').1
    obtain ⟨b, q0, k2, _⟩ := hw.ob id _ hH
    have hN : M.length = N := by have := k2.n; simpa [nlD] using this
    obtain ⟨cap, arr, k1, k3, _⟩ := k2.own
    obtain ⟨ie, z, hie, hsz, _⟩ := ht.i
    generalize hr : r x = u at h1
    cases h1 with
    | @hs _ _ _ _ m cap' n0 c0 a' a0 p1 p2 =>
      rw [k1] at p1; injection p1 with p1; injection p1 with p1 p3
      injection p3 with p3 p4
      obtain ⟨r1, r2, r3, r4⟩ := hs0 (p2 p1.symm)
      have hlt : i < n0 := by omega
      subst r1; subst r3; subst p3
      refine ⟨.pointer (some ⟨b, i, none⟩), fun _ _ _ _ => ?_, .ptr q0⟩
      simp [execOp, Instr.indexAt, asIntOf, hr, h2, run_underlying ht.u, hlt, run_sizeOf' hie, hsz, Addr.add_none]
theorem op_loadRow_nl {x : Operand} {t id : Nat} {a : Int} {m : Bool × List α} (hx : Is (ρ x) (.ptr id a.toNat)) (hH : H[id]? = some (.ob (nlV e eo N (nlD f M) Vs))) (hv : ix M a = some m) (ht : Sc P t) :
    OpV P (.load t x) ty ρ H (.d (.raw (Vs.getD a.toNat undef))) H :=
  OpV.of_val fun g w r hw h => by
    have hp := hx.rep (h x (by simp [Op.operands]))
    obtain ⟨i, hi, hv'⟩ := ix_nat hv
    subst hi
    have hil : i < M.length := (List.getElem?_eq_some_iff.1 hv').1
    obtain ⟨b, q0, k2, _⟩ := hw.ob id _ hH
    have hN : M.length = N := by have := k2.n; simpa [nlD] using this
    have hV : Vs.length = M.length := by have := k2.len; simpa [nlD] using this
    obtain ⟨cap, arr, k1, k3, _, k4, k5, k6⟩ := k2.own
    generalize hr : r x = u at hp
    cases hp with
    | @ptr _ _ b' hb =>
      obtain rfl : b' = b := by rw [hb] at q0; exact Option.some.inj q0
      simp only [Int.toNat_natCast] at hr ⊢
      have hlt : i < Vs.length := by omega
      have hcell : w.cell? ⟨b', i, none⟩ = some Vs[i] := by rw [cell_of_cells k4]; exact k6 i _ (by simp [hlt])
      refine ⟨Vs[i], fun _ _ _ _ => by simp [execOp, Instr.loadAt, Instr.sureAddr, hr, run_loadVar_one ht hcell], .d ?_⟩
      have : Vs.getD i undef = Vs[i] := by simp [hlt]
      rw [this]; exact .raw _
theorem raw_row {g : G} {w : World} {id b k : Nat} {m : Bool × List α} (h : NlAt g w id b e eo N (nlD f M) Vs) (h1 : ∀ x, (f x).cells = [f x]) (hm : M[k]? = some m) :
    ∃ a cap, Vs.getD k undef = .slice a m.2.length cap ∧ m.2.length ≤ cap ∧ (m.2 ≠ [] → ∃ br o, a = some ⟨br, o, none⟩ ∧ ∀ j x, m.2[j]? = some x → ∃ u, w.cell? ⟨br, o + j, none⟩ = some u ∧ RepD g.Pr w (f x) u) := by
  have hkl : k < M.length := (List.getElem?_eq_some_iff.1 hm).1
  have hV : Vs.length = M.length := by have := h.len; simpa [nlD] using this
  have hlt : k < Vs.length := by omega
  have hr := h.row k _ Vs[k] (nlD_get hm) (by simp [hlt])
  have he : Vs.getD k undef = Vs[k] := by simp [hlt]
  rw [he]
  generalize Vs[k] = v at hr
  obtain ⟨fl, l⟩ := m
  cases fl with
  | true =>
    obtain ⟨a, cap, q1, q2, q3⟩ := hr
    simp only [List.length_map] at q1 q2
    refine ⟨a, cap, q1, q2, fun hne => ?_⟩
    obtain ⟨br, arr, p1, p2, p3, p4, p5, p6⟩ := q3 (by simpa using hne)
    refine ⟨br, 0, p1, fun j x hx => ?_⟩
    have hj : j < l.length := (List.getElem?_eq_some_iff.1 hx).1
    simp only [List.length_map] at p5
    have hja : j < arr.size := by omega
    exact ⟨arr[j], by rw [cell_of_cells p4]; simp [hja], p6 j _ _ (by simp [show l[j]? = some x from hx]) (by simp [hja])⟩
  | false =>
    simp only [RowAt] at hr
    generalize hL : l.map f = L at hr
    cases hr with
    | sl _ a cap s g' hs hc hrow hrep =>
      subst hL
      simp only [List.length_map] at hc ⊢
      refine ⟨a, cap, rfl, hc, fun hne => ?_⟩
      have hs1 : s = 1 := by
        obtain ⟨x, hx⟩ := List.exists_mem_of_ne_nil _ hne
        have := hs (f x) (List.mem_map.2 ⟨x, hx, rfl⟩)
        rw [h1] at this; simpa using this.symm
      subst hs1
      obtain ⟨br, o, p1, p2⟩ := hrow (by simpa using hne)
      refine ⟨br, o, p1, fun j x hx => ?_⟩
      have hj : j < l.length := (List.getElem?_eq_some_iff.1 hx).1
      exact ⟨g' j, (p2 j (by simpa using hj)).2, hrep j _ (by rw [flat_one1 h1]; simp [show l[j]? = some x from hx])⟩
theorem op_indexAddr_nlr {x y : Operand} {t et bytes id : Nat} {a c : Int} {k : IntKind} {v : α} (hx : As (ρ x) (.raw (Vs.getD a.toNat undef))) (h1 : ∀ x, (f x).cells = [f x]) (hH : H[id]? = some (.ob (nlV e eo N (nlD f M) Vs)))
    (hy : As (ρ y) (.int k c)) (hv : nlGet M a c = some v) (ht : SlT P t et 1 bytes) : OpV P (.indexAddr t x y) ty ρ H (.d (.raw (rawAt (Vs.getD a.toNat undef) c.toNat))) H :=
  OpV.of_val fun g w r hw h => by
    have hx' := hx.rep (h x (by simp [Op.operands]))
    have h2 := hy.int (h y (by simp [Op.operands]))
    obtain ⟨b, _, k2, _⟩ := hw.ob id _ hH
    unfold nlGet at hv
    obtain ⟨m, hm, hv2⟩ := Option.bind_eq_some_iff.1 hv
    clear hv
    obtain ⟨i, hi, hm'⟩ := ix_nat hm
    subst hi
    obtain ⟨j, hj, hv'⟩ := ix_nat hv2
    subst hj
    obtain ⟨ad, cap, q1, q2, q3⟩ := raw_row k2 h1 hm'
    have hjl : j < m.2.length := (List.getElem?_eq_some_iff.1 hv').1
    obtain ⟨br, o, rfl, _⟩ := q3 (by intro h0; rw [h0] at hjl; simp at hjl)
    obtain ⟨ie, z, hie, hsz, _⟩ := ht.i
    simp only [Int.toNat_natCast] at hx' ⊢
    rw [q1] at hx' ⊢
    generalize hr : r x = u at hx'
    cases hx' with
    | raw =>
      refine ⟨.pointer (some ⟨br, o + j, none⟩), fun _ _ _ _ => ?_, .d ?_⟩
      · simp [execOp, Instr.indexAt, asIntOf, hr, h2, run_underlying ht.u, hjl, run_sizeOf' hie, hsz, Addr.add_none]
      · simp only [rawAt, Addr.add_none]; exact .raw _
theorem op_load_nle {x : Operand} {t id : Nat} {a c : Int} {v : α} (hx : As (ρ x) (.raw (rawAt (Vs.getD a.toNat undef) c.toNat))) (h1 : ∀ x, (f x).cells = [f x]) (hH : H[id]? = some (.ob (nlV e eo N (nlD f M) Vs)))
    (hv : nlGet M a c = some v) (ht : Sc P t) : OpV P (.load t x) ty ρ H (.d (f v)) H :=
  OpV.of_val fun g w r hw h => by
    have hx' := hx.rep (h x (by simp [Op.operands]))
    obtain ⟨b, _, k2, _⟩ := hw.ob id _ hH
    unfold nlGet at hv
    obtain ⟨m, hm, hv2⟩ := Option.bind_eq_some_iff.1 hv
    clear hv
    obtain ⟨i, hi, hm'⟩ := ix_nat hm
    subst hi
    obtain ⟨j, hj, hv'⟩ := ix_nat hv2
    subst hj
    obtain ⟨ad, cap, q1, q2, q3⟩ := raw_row k2 h1 hm'
    have hjl : j < m.2.length := (List.getElem?_eq_some_iff.1 hv').1
    obtain ⟨br, o, rfl, q4⟩ := q3 (by intro h0; rw [h0] at hjl; simp at hjl)
    obtain ⟨u, q5, q6⟩ := q4 j v hv'
    simp only [Int.toNat_natCast] at hx'
    rw [q1] at hx'
    simp only [rawAt, Addr.add_none] at hx'
    generalize hr : r x = y at hx'
    cases hx' with
    | raw => exact ⟨u, fun _ _ _ _ => by simp [execOp, Instr.loadAt, Instr.sureAddr, hr, run_loadVar_one ht q5], .d q6⟩

theorem set_cases {H : List HE} {id : Nat} {x : HE} (h : id < H.length) {i : Nat} {e : HE} (he : (H.set id x)[i]? = some e) : (i = id ∧ e = x) ∨ (i ≠ id ∧ H[i]? = some e) := by
  by_cases hi : i = id
  · subst hi; rw [List.getElem?_set_self h] at he; exact .inl ⟨rfl, (Option.some.inj he).symm⟩
  · rw [List.getElem?_set_ne (Ne.symm hi)] at he; exact .inr ⟨hi, he⟩

/-- A list of lists is seen as one whose rows may be written. -/
theorem WOK.toNl {g : G} {w : World} {id : Nat} {l : List (List α)} {M : List (Bool × List α)} (hw : WOK g w H) (hH : H[id]? = some (.lst (l.map (esl f)) eo 1)) (hv : toNl l = some M) :
    ∃ g', WOK g' w (H.set id (.ob (nlO e eo l.length (nlD f M)))) ∧ Evo g w g' w ∧ ∀ i, g'.τ i = g.τ i := by
  unfold Ab.toNl at hv
  split at hv
  · cases hv
  rename_i hne
  injection hv with hv
  subst hv
  have hidlt : id < H.length := (List.getElem?_eq_some_iff.1 hH).1
  obtain ⟨a, cap, f1, f2, f3, f4⟩ := hw.lst id _ _ _ hH
  simp only [List.length_map] at f2
  have hpos := List.length_pos_iff.2 hne
  have hcap : 0 < cap := by omega
  obtain ⟨b, arr, rfl, q0, q2, q3, q4, q5⟩ := f4 hcap
  rw [flat_one1 (fun _ => rfl)] at q5
  let g' : G := { g with υ := fun i b' => i ≠ id ∧ g.υ i b' }
  have hev : Evo g w g' w := {
    same := ⟨rfl, rfl, rfl⟩
    size := Nat.le_refl _
    pr := fun b o hp => ⟨hp, rfl⟩
    prn := fun b o h => .inl h
    x := fun b h => .inl h
    keep := fun b _ _ => rfl
    σ := fun _ _ h => h
    τ := fun _ m a cap h => ⟨m, a, cap, h, .inr ⟨rfl, rfl, rfl⟩⟩ }
  have hbid : g.blk id (.lst (l.map (esl f)) eo 1) b := by simp [G.blk, f1, hcap]
  refine ⟨g', WOK.chg (fun i => i = id) hw hev (by simp) (fun i h => h ▸ hidlt) (fun i h => List.getElem?_set_ne (Ne.symm h)) (fun i h => ⟨rfl, rfl, by funext b'; simp [g', h]⟩) (fun _ h => h) hw.xs hw.pr (fun _ _ _ _ _ _ => ⟨rfl, fun _ h => h⟩) ?_ (fun i i' _ _ _ h h' _ _ _ _ => h.trans h'.symm) ?_, hev, fun _ => rfl⟩
  · rintro i e' b' rfl h1 h2
    rcases set_cases hidlt h1 with ⟨_, rfl⟩ | ⟨h, _⟩
    · rcases h2 with h2 | h2
      · have : b' = b := by
          have h2' : g.σ i = some b' := h2
          rw [q0] at h2'; exact (Option.some.inj h2').symm
        subst this
        exact ⟨hw.blk i _ _ hH hbid, i, _, rfl, hH, hbid⟩
      · exact absurd rfl h2.1
    · exact absurd rfl h
  · rintro i e' rfl h1
    rcases set_cases hidlt h1 with ⟨_, rfl⟩ | ⟨h, _⟩
    · refine .inr ⟨_, rfl, b, q0, ⟨arr.toList.take l.length, ?_⟩, q4, fun b' o hu => absurd rfl hu.1⟩
      have hsz : l.length ≤ arr.size := by omega
      refine ⟨by simp [nlD]; omega, by simp [nlD], ⟨cap, arr, f1, f2, hcap, q2, hsz, fun k v hv => ?_⟩, fun k m v hm hv => ?_, fun k k' l1 _ _ _ _ _ hm => ?_⟩
      · rw [List.getElem?_take] at hv
        split at hv
        · rwa [Array.getElem?_toList] at hv
        · cases hv
      · simp only [nlD, List.getElem?_map, Option.map_eq_some_iff] at hm
        obtain ⟨r, ⟨r', hr, rfl⟩, rfl⟩ := hm
        rw [List.getElem?_take] at hv
        split at hv
        · rw [Array.getElem?_toList] at hv
          exact q5 k _ v (by simp [hr]) hv
        · cases hv
      · simp only [nlD, List.getElem?_map, Option.map_eq_some_iff] at hm
        obtain ⟨r, ⟨r', hr, rfl⟩, hm⟩ := hm
        cases hm
    · exact absurd rfl h

theorem AL.toNl {F : FC} {K : St → Prop} {ops : Array Oper} {os : List Oper} {E : Nat → V} {l : List (List α)} (id : Nat) (hH : H[id]? = some (.lst (l.map (esl f)) eo 1)) (hv : Ab.toNl l = some M)
    (h : AL F ops K os ⟨E, H.set id (.ob (nlO e eo l.length (nlD f M)))⟩) : AL F ops K os ⟨E, H⟩ := by
  rintro a w ⟨h1, h2, g, hw, h4, h5⟩
  obtain ⟨g', k1, k2, _⟩ := hw.toNl (e := e) hH hv
  exact h a w ⟨h1, h2, g', k1, h4.trans k2, fun i => (h5 i).mono k2⟩

/-- One cell of memory written. -/
theorem cellsOne {v : Value} (h : v.oneCell' = true) : v.cells = #[v] := by
  cases v <;> simp_all [Value.cells, Value.oneCell']
theorem put_get2 {arr : Array Value} {v : Value} {i : Nat} (hi : i < arr.size) {k : Nat} :
    (arr.toList.take (i + 0) ++ (#[v] : Array Value).toList ++ arr.toList.drop (i + 0 + (#[v] : Array Value).toList.length)).toArray[k]? = if k = i then some v else arr[k]? := by
  simp only [Nat.add_zero, List.getElem?_toArray]
  have l2 : (List.take i arr.toList).length = i := by simp; omega
  rw [List.append_assoc]
  by_cases hk : k < i
  · rw [List.getElem?_append_left (by omega), List.getElem?_take, if_pos hk, Array.getElem?_toList, if_neg (by omega)]
  · rw [List.getElem?_append_right (by omega), l2]
    by_cases hk2 : k = i
    · subst hk2
      simp
    · rw [List.getElem?_append_right (by simp; omega), List.getElem?_drop, Array.getElem?_toList, if_neg hk2]
      congr 1; simp; omega
theorem put_size {arr : Array Value} {v : Value} {i : Nat} (hi : i < arr.size) : (arr.toList.take (i + 0) ++ (#[v] : Array Value).toList ++ arr.toList.drop (i + 0 + (#[v] : Array Value).toList.length)).toArray.size = arr.size := by
  simp; omega

/-- An element of a row is written. -/
theorem op_store_nle {x y : Operand} {t id : Nat} {a c : Int} {v : α} {M' : List (Bool × List α)} (hx : As (ρ x) (.raw (rawAt (Vs.getD a.toNat undef) c.toNat))) (h1 : ∀ x, (f x).cells = [f x]) (hf : En f 1) (hy : As (ρ y) (f v))
    (hH : H[id]? = some (.ob (nlV e eo N (nlD f M) Vs))) (hv : nlPut M a c v = some M') (hsz : ∃ i, P.info? t = some i ∧ i.size = 1) : OpV P (.store t x y) ty ρ H .any (H.set id (.ob (nlV e eo N (nlD f M') Vs))) := by
  intro g w r pos after guard dst hw h
  have hxr := hx.rep (h x (by simp [Op.operands]))
  have hu := hy.rep (h y (by simp [Op.operands]))
  have hone := hu.one (hf.one v (f v) (by rw [h1]; simp))
  have hcells := cellsOne hone
  have hidlt : id < H.length := (List.getElem?_eq_some_iff.1 hH).1
  obtain ⟨b, k1, k2, k3, k4⟩ := hw.ob id _ hH
  unfold nlPut at hv
  obtain ⟨m, hm, hv2⟩ := Option.bind_eq_some_iff.1 hv
  clear hv
  split at hv2
  rotate_left
  · cases hv2
  rename_i hfl
  obtain ⟨l', hl', rfl⟩ := Option.map_eq_some_iff.1 hv2
  clear hv2
  obtain ⟨i, hi, hm'⟩ := ix_nat hm
  subst hi
  unfold setI at hl'
  split at hl'
  rotate_left
  · cases hl'
  rename_i hc
  injection hl' with hl'; subst hl'
  obtain ⟨hc0, hc1⟩ := hc
  obtain ⟨j, rfl⟩ : ∃ j : Nat, c = (j : Int) := ⟨c.toNat, by omega⟩
  simp only [Int.toNat_natCast] at *
  obtain ⟨fl, l⟩ := m
  simp only at hfl hc1
  subst hfl
  have hil : i < M.length := (List.getElem?_eq_some_iff.1 hm').1
  have hV : Vs.length = M.length := by have := k2.len; simpa [nlD] using this
  have hVi : Vs[i]? = some (Vs.getD i undef) := by simp [show i < Vs.length by omega]
  obtain ⟨ad, cap, q1, q2, q3⟩ := k2.row i _ _ (nlD_get hm') hVi
  simp only at q1 q2 q3
  have hlne : l.map f ≠ [] := by intro h0; rw [List.map_eq_nil_iff.1 h0] at hc1; simp at hc1
  obtain ⟨br, arr, p1, p2, p3, p4, p5, p6⟩ := q3 hlne
  subst p1
  simp only [List.length_map] at p5
  rw [q1] at hxr
  simp only [rawAt, Addr.add_none, Nat.zero_add] at hxr
  have hja : j < arr.size := by omega
  generalize hr : r x = u' at hxr
  cases hxr
  have hrun := run_storeCells_at P br j e (r y).cells.toList 0 arr w p4 (by rw [hcells]; simp; omega) (fun u hu' => by rw [hcells] at hu'; simp at hu'; subst hu'; exact hone)
  obtain ⟨inf, hinf, his⟩ := hsz
  have hsize : (r y).cells.size = inf.size := by rw [hcells, his]; rfl
  unfold OpRuns
  simp only [execOp, Instr.storeAt, Instr.sureAddr, hr, Sem.run_bind, Sem.run_pure, Result.andThen_ok, storeVar, run_sizeOf' hinf, hsize, ne_eq, not_true_eq_false, if_false, hrun]
  rw [hcells]
  generalize hA : (arr.toList.take (j + 0) ++ (#[r y] : Array Value).toList ++ arr.toList.drop (j + 0 + (#[r y] : Array Value).toList.length)).toArray = arr'
  have ho : ∀ b', b' ≠ br → (w.setRow br arr').heap[b']? = w.heap[b']? := fun b' hne => setRow_other w br b' arr' hne
  have hn : (w.setRow br arr').heap[br]? = some (.cells arr' e (0, 0)) := setRow_heap w br arr arr' e _ p4
  have hXb : g.X br := hw.blk id _ br hH (.inr p2)
  have hev : Evo g w g (w.setRow br arr') := {
    same := ⟨rfl, rfl, rfl⟩
    size := by rw [setRow_size]; exact Nat.le_refl _
    pr := fun b' o hp => ⟨hp, by
      have hne : b' ≠ br := fun e' => k4 br o p2 (e' ▸ hp)
      simp [World.cell?, ho b' hne]⟩
    prn := fun b o h => .inl h
    x := fun b h => .inl h
    keep := fun b' _ hx' => ho b' (fun e' => hx' (e' ▸ hXb))
    σ := fun _ _ h => h
    τ := fun _ m a cap h => ⟨m, a, cap, h, .inr ⟨rfl, rfl, rfl⟩⟩ }
  have hMD : nlD f (M.set i (true, l.set j v)) = (nlD f M).set i (true, (l.map f).set j (f v)) := by simp [nlD, List.map_set]
  refine ⟨g, ?_, hev, .any⟩
  refine WOK.chg (fun i => i = id) hw hev (by simp) (fun i h => h ▸ hidlt) (fun i h => List.getElem?_set_ne (Ne.symm h)) (fun i h => ⟨rfl, rfl, rfl⟩) (fun _ h => h) (fun b h => by rw [setRow_size]; exact hw.xs b h) (fun b o h => by rw [setRow_size]; exact hw.pr b o h)
    (fun i' e' b' hi' h' hb' => ⟨ho b' (fun e2 => hi' (hw.sep i' id _ _ br h' hH (e2 ▸ hb') (.inr p2))), fun _ h => h⟩) ?_ (fun i i' _ _ _ h h' _ _ _ _ => h.trans h'.symm) ?_
  · rintro i' e' b' rfl g1 g2
    rcases set_cases hidlt g1 with ⟨_, rfl⟩ | ⟨h, _⟩
    · have : g.blk i' (.ob (nlV e eo N (nlD f M) Vs)) b' := g2
      exact ⟨hw.blk i' _ _ hH this, i', _, rfl, hH, this⟩
    · exact absurd rfl h
  · rintro i' e' rfl g1
    rcases set_cases hidlt g1 with ⟨_, rfl⟩ | ⟨h, _⟩
    rotate_left
    · exact absurd rfl h
    refine .inr ⟨_, rfl, b, k1, ?_, k3, k4⟩
    show NlAt g (w.setRow br arr') i' b e eo N (nlD f (M.set i (true, l.set j v))) Vs
    rw [hMD]
    have hMi : (nlD f M)[i]? = some (true, l.map f) := nlD_get hm'
    have hget : ∀ {k m}, ((nlD f M).set i (true, (l.map f).set j (f v)))[k]? = some m → (k = i ∧ m = (true, (l.map f).set j (f v))) ∨ (k ≠ i ∧ (nlD f M)[k]? = some m) := fun {k m} hk => by
      rw [List.getElem?_set] at hk
      split at hk
      · rename_i e2
        split at hk
        · exact .inl ⟨e2.symm, (Option.some.inj hk).symm⟩
        · cases hk
      · rename_i e2
        exact .inr ⟨Ne.symm e2, hk⟩
    have hne : ∀ {l2 : List α}, l2.map f ≠ [] → l2 ≠ [] := fun h h0 => h (by rw [h0]; rfl)
    refine ⟨by simpa using k2.len, by simpa using k2.n, ?_, fun k m u hk hu2 => ?_, fun k k' l1 l2 v1 v2 B hkk h1' h2' n1 n2 w1 w2 b1 b2 => ?_⟩
    · obtain ⟨cap2, arr2, z1, z2, z3, z4, z5, z6⟩ := k2.own
      exact ⟨cap2, arr2, z1, z2, z3, (ho b (Ne.symm p3)).trans z4, z5, z6⟩
    · rcases hget hk with ⟨rfl, rfl⟩ | ⟨hki, hk⟩
      · rw [hVi] at hu2; injection hu2 with hu2; subst hu2
        refine ⟨some ⟨br, 0, none⟩, cap, by simpa using q1, by simpa using q2, fun _ => ⟨br, arr', rfl, p2, p3, hn, ?_, fun k2' x u hx' hu' => ?_⟩⟩
        · have := put_size (v := r y) hja
          rw [hA] at this; simp; omega
        · rw [← hA, put_get2 hja] at hu'
          rw [List.getElem?_set] at hx'
          split at hx'
          · rename_i e2
            subst e2
            rw [if_pos rfl] at hu'
            injection hu' with hu'; subst hu'
            split at hx'
            · injection hx' with hx'; subst hx'; exact hu.mono hev.pr
            · cases hx'
          · rename_i e2
            rw [if_neg (Ne.symm e2)] at hu'
            exact (p6 k2' x u hx' hu').mono hev.pr
      · have hrow := k2.row k m u hk hu2
        obtain ⟨fl, l2⟩ := m
        cases fl with
        | false => exact RepD.mono hev.pr hrow
        | true =>
          obtain ⟨a2, cap2, z1, z2, z3⟩ := hrow
          refine ⟨a2, cap2, z1, z2, fun hl2 => ?_⟩
          obtain ⟨br2, arr2, y1, y2, y3, y4, y5, y6⟩ := z3 hl2
          have hbb : br2 ≠ br := fun e2 => k2.dis k i l2 _ u _ br hki hk hMi hl2 hlne hu2 hVi (by rw [z1, y1, e2]; rfl) (by rw [q1]; rfl)
          exact ⟨br2, arr2, y1, y2, y3, (ho br2 hbb).trans y4, y5, fun k3 x u2 hx2 hu3 => (y6 k3 x u2 hx2 hu3).mono hev.pr⟩
    · have fix : ∀ {k l1}, ((nlD f M).set i (true, (l.map f).set j (f v)))[k]? = some (true, l1) → l1 ≠ [] → ∃ l0, (nlD f M)[k]? = some (true, l0) ∧ l0 ≠ [] := fun {k l1} hk hn1 => by
        rcases hget hk with ⟨rfl, hm2⟩ | ⟨hki, hk⟩
        · exact ⟨_, hMi, hlne⟩
        · exact ⟨l1, hk, hn1⟩
      obtain ⟨l3, t1, t2⟩ := fix h1' n1
      obtain ⟨l4, t3, t4⟩ := fix h2' n2
      exact k2.dis k k' l3 l4 v1 v2 B hkk t1 t3 t2 t4 w1 w2 b1 b2

/-- A row is put in: a list that was made here, which is no longer a list of its own. -/
theorem op_store_nlp {x y : Operand} {t id j len : Nat} {a : Int} {l : List α} {M' : List (Bool × List α)} (hx : Is (ρ x) (.ptr id a.toNat)) (h1 : ∀ x, (f x).cells = [f x]) (hy : Is (ρ y) (.hs j 0 len 1)) (hl : l.length = len)
    (hH : H[id]? = some (.ob (nlO e eo N (nlD f M)))) (hJ : H[j]? = some (.lst (l.map f) e 1)) (hv : nlRow M a l = some M') (hsz : ∃ i, P.info? t = some i ∧ i.size = 1) :
    OpV P (.store t x y) ty ρ H .any ((H.set j .dead).set id (.ob (nlO e eo N (nlD f M')))) := by
  intro g w r pos after guard dst hw h
  have hp := hx.rep (h x (by simp [Op.operands]))
  have hs' := hy.rep (h y (by simp [Op.operands]))
  have hidlt : id < H.length := (List.getElem?_eq_some_iff.1 hH).1
  have hjlt : j < H.length := (List.getElem?_eq_some_iff.1 hJ).1
  have hij : id ≠ j := fun e2 => by subst e2; rw [hH] at hJ; cases hJ
  obtain ⟨b, k1, ⟨Vs, k2⟩, k3, k4⟩ := hw.ob id _ hH
  unfold nlRow at hv
  split at hv
  rotate_left
  · cases hv
  rename_i hc
  injection hv with hv; subst hv
  obtain ⟨hc0, hil⟩ := hc
  obtain ⟨i, rfl⟩ : ∃ i : Nat, a = (i : Int) := ⟨a.toNat, by omega⟩
  simp only [Int.toNat_natCast] at *
  have hN : M.length = N := by have := k2.n; simpa [nlD] using this
  have hV : Vs.length = M.length := by have := k2.len; simpa [nlD] using this
  obtain ⟨cap, arr, o1, o2, o3, o4, o5, o6⟩ := k2.own
  obtain ⟨aj, capj, f1, f2, f3, f4⟩ := hw.lst j _ _ _ hJ
  simp only [List.length_map] at f2
  -- the value of the row
  obtain ⟨v, hv, hvy⟩ : ∃ v, v = r y ∧ ∃ a0 n0, v = .slice a0 l.length n0 ∧ l.length ≤ n0 ∧ a0 = aj := by
    generalize hry : r y = v at hs'
    cases hs' with
    | @hs _ _ _ _ m cap' n0 c0 a' a0 p1 p2 =>
      rw [f1] at p1; injection p1 with p1; injection p1 with p1 p3; injection p3 with p3 p4
      obtain ⟨r1, r2, r3, r4⟩ := hs0 (p2 p1.symm)
      subst p3; subst p4
      exact ⟨_, rfl, a0, c0, by rw [r2, hl], by rw [r3, hl]; exact r4, r1⟩
  obtain ⟨a0, n0, hv1, hv2, rfl⟩ := hvy
  have hone : (r y).oneCell' = true := by rw [← hv, hv1]; rfl
  have hcells := cellsOne hone
  have hrow : l ≠ [] → ∃ br arr2, a0 = some ⟨br, 0, none⟩ ∧ g.blk j (.lst (l.map f) e 1) br ∧ w.heap[br]? = some (.cells arr2 e (0, 0)) ∧ l.length ≤ arr2.size ∧ (∀ o, ¬ g.Pr br o) ∧ ∀ (k : Nat) x u, (l.map f)[k]? = some x → arr2[k]? = some u → RepD g.Pr w x u := fun hne => by
    have hpos := List.length_pos_iff.2 hne
    have hcj : 0 < capj := by omega
    obtain ⟨br, arr2, rfl, q0, q2, q3, q4, q5⟩ := f4 hcj
    refine ⟨br, arr2, rfl, by simp [G.blk, f1, hcj], q2, by omega, q4, fun k x u hx' hu' => q5 k x u (by rw [flat_one1 h1]; exact hx') hu'⟩
  generalize hr : r x = u' at hp
  cases hp with
  | @ptr _ _ b' hb =>
  obtain rfl : b' = b := by rw [hb] at k1; exact Option.some.inj k1
  have hia : i < arr.size := by omega
  have hrun := run_storeCells_at P b' i eo (r y).cells.toList 0 arr w o4 (by rw [hcells]; simp; omega) (fun u hu' => by rw [hcells] at hu'; simp at hu'; subst hu'; exact hone)
  obtain ⟨inf, hinf, his⟩ := hsz
  have hsize : (r y).cells.size = inf.size := by rw [hcells, his]; rfl
  unfold OpRuns
  simp only [execOp, Instr.storeAt, Instr.sureAddr, hr, Sem.run_bind, Sem.run_pure, Result.andThen_ok, storeVar, run_sizeOf' hinf, hsize, ne_eq, not_true_eq_false, if_false, hrun]
  rw [hcells]
  generalize hA : (arr.toList.take (i + 0) ++ (#[r y] : Array Value).toList ++ arr.toList.drop (i + 0 + (#[r y] : Array Value).toList.length)).toArray = arr'
  have ho : ∀ b2, b2 ≠ b' → (w.setRow b' arr').heap[b2]? = w.heap[b2]? := fun b2 hne => setRow_other w b' b2 arr' hne
  have hn : (w.setRow b' arr').heap[b']? = some (.cells arr' eo (0, 0)) := setRow_heap w b' arr arr' eo _ o4
  have hXb : g.X b' := hw.blk id _ b' hH (.inl k1)
  let g' : G := { g with υ := fun i2 b2 => g.υ i2 b2 ∧ i2 ≠ j ∨ i2 = id ∧ g.blk j (.lst (l.map f) e 1) b2 }
  have hev : Evo g w g' (w.setRow b' arr') := {
    same := ⟨rfl, rfl, rfl⟩
    size := by rw [setRow_size]; exact Nat.le_refl _
    pr := fun b2 o hp => ⟨hp, by
      have hne : b2 ≠ b' := fun e' => k3 o (e' ▸ hp)
      simp [World.cell?, ho b2 hne]⟩
    prn := fun b o h => .inl h
    x := fun b h => .inl h
    keep := fun b2 _ hx' => ho b2 (fun e' => hx' (e' ▸ hXb))
    σ := fun _ _ h => h
    τ := fun _ m a cap h => ⟨m, a, cap, h, .inr ⟨rfl, rfl, rfl⟩⟩ }
  have hMD : nlD f (M.set i (true, l)) = (nlD f M).set i (true, l.map f) := by simp [nlD, List.map_set]
  have hjset : (H.set j .dead)[id]? = some (.ob (nlO e eo N (nlD f M))) := by rw [List.getElem?_set_ne (Ne.symm hij)]; exact hH
  have hcas : ∀ {i2 : Nat} {e2 : HE}, ((H.set j .dead).set id (.ob (nlO e eo N (nlD f (M.set i (true, l))))))[i2]? = some e2 → (i2 = id ∧ e2 = .ob (nlO e eo N (nlD f (M.set i (true, l))))) ∨ (i2 = j ∧ e2 = .dead) ∨ (i2 ≠ id ∧ i2 ≠ j ∧ H[i2]? = some e2) := fun {i2 e2} h2 => by
    rcases set_cases (by simpa using hidlt) h2 with h3 | ⟨h3, h4⟩
    · exact .inl h3
    · rcases set_cases hjlt h4 with h5 | ⟨h5, h6⟩
      · exact .inr (.inl h5)
      · exact .inr (.inr ⟨h3, h5, h6⟩)
  have hblkid : ∀ b2, g'.blk id (.ob (nlO e eo N (nlD f (M.set i (true, l))))) b2 → g.blk id (.ob (nlO e eo N (nlD f M))) b2 ∨ g.blk j (.lst (l.map f) e 1) b2 := fun b2 h2 => by
    rcases h2 with h2 | h2 | h2
    · exact .inl (.inl h2)
    · exact .inl (.inr h2.1)
    · exact .inr h2.2
  refine ⟨g', ?_, hev, .any⟩
  refine WOK.chg (fun i => i = id ∨ i = j) hw hev (by simp) (fun i h => by rcases h with rfl | rfl <;> assumption) (fun i h => by rw [List.getElem?_set_ne (fun e2 => h (.inl e2.symm)), List.getElem?_set_ne (fun e2 => h (.inr e2.symm))])
    (fun i h => ⟨rfl, rfl, by funext b2; simp only [g', eq_iff_iff]; exact ⟨fun h2 => by rcases h2 with h2 | h2; exact h2.1; exact absurd (.inl h2.1) h, fun h2 => .inl ⟨h2, fun e2 => h (.inr e2)⟩⟩⟩) (fun _ h => h)
    (fun b h => by rw [setRow_size]; exact hw.xs b h) (fun b o h => by rw [setRow_size]; exact hw.pr b o h)
    (fun i' e' b2 hi' h' hb' => ⟨ho b2 (fun e2 => hi' (.inl (hw.sep i' id _ _ b' h' hH (e2 ▸ hb') (.inl k1)))), fun _ h => h⟩) ?_ ?_ ?_
  · intro i2 e2 b2 c2 g1 g2
    rcases hcas g1 with ⟨rfl, rfl⟩ | ⟨rfl, rfl⟩ | ⟨n1, n2, _⟩
    · rcases hblkid b2 g2 with h3 | h3
      · exact ⟨hw.blk _ _ _ hH h3, i2, _, .inl rfl, hH, h3⟩
      · exact ⟨hw.blk _ _ _ hJ h3, j, _, .inr rfl, hJ, h3⟩
    · exact g2.elim
    · rcases c2 with h3 | h3
      · exact absurd h3 n1
      · exact absurd h3 n2
  · intro i2 i3 e2 e3 b2 c2 c3 g1 g2 g3 g4
    rcases hcas g1 with ⟨rfl, rfl⟩ | ⟨rfl, rfl⟩ | ⟨n1, n2, _⟩
    · rcases hcas g2 with ⟨rfl, rfl⟩ | ⟨rfl, rfl⟩ | ⟨n1, n2, _⟩
      · rfl
      · exact g4.elim
      · rcases c3 with h3 | h3
        · exact absurd h3 n1
        · exact absurd h3 n2
    · exact g3.elim
    · rcases c2 with h3 | h3
      · exact absurd h3 n1
      · exact absurd h3 n2
  · intro i2 e2 c2 g1
    rcases hcas g1 with ⟨rfl, rfl⟩ | ⟨rfl, rfl⟩ | ⟨n1, n2, _⟩
    rotate_left
    · exact .inl rfl
    · rcases c2 with h3 | h3
      · exact absurd h3 n1
      · exact absurd h3 n2
    refine .inr ⟨_, rfl, b', k1, ⟨Vs.set i (r y), ?_⟩, k3, fun b2 o hu => ?_⟩
    rotate_left
    · rcases hu with hu | hu
      · exact k4 b2 o hu.1
      · obtain ⟨-, hu⟩ := hu
        intro hp
        simp only [G.blk, f1, Option.bind_some] at hu
        split at hu
        · rename_i hcj
          obtain ⟨br, arr2, rfl, _, _, _, q4, _⟩ := f4 hcj
          simp at hu; subst hu
          exact q4 o hp
        · cases hu
    rw [hMD]
    have hget : ∀ {k m}, ((nlD f M).set i (true, l.map f))[k]? = some m → (k = i ∧ m = (true, l.map f)) ∨ (k ≠ i ∧ (nlD f M)[k]? = some m) := fun {k m} hk => by
      rw [List.getElem?_set] at hk
      split at hk
      · rename_i e2
        split at hk
        · exact .inl ⟨e2.symm, (Option.some.inj hk).symm⟩
        · cases hk
      · rename_i e2
        exact .inr ⟨Ne.symm e2, hk⟩
    have hgetV : ∀ {k v}, (Vs.set i (r y))[k]? = some v → (k = i ∧ v = r y) ∨ (k ≠ i ∧ Vs[k]? = some v) := fun {k v} hk => by
      rw [List.getElem?_set] at hk
      split at hk
      · rename_i e2
        split at hk
        · exact .inl ⟨e2.symm, (Option.some.inj hk).symm⟩
        · cases hk
      · rename_i e2
        exact .inr ⟨Ne.symm e2, hk⟩
    have hsep : ∀ br, g.υ i2 br → ¬ g.blk j (.lst (l.map f) e 1) br := fun br h2 h3 => hij (hw.sep i2 j _ _ br hH hJ (.inr h2) h3)
    refine ⟨by simpa using k2.len, by simpa using k2.n, ⟨cap, arr', o1, o2, o3, hn, ?_, fun k v hk => ?_⟩, fun k m u hk hu2 => ?_, fun k k' l1 l2 v1 v2 B hkk h1' h2' n1 n2 w1 w2 b1 b2 => ?_⟩
    · rw [← hA, put_size hia]; exact o5
    · rw [← hA, put_get2 hia]
      rcases hgetV hk with ⟨rfl, rfl⟩ | ⟨hki, hk⟩
      · rw [if_pos rfl]
      · rw [if_neg hki]; exact o6 k v hk
    · rcases hget hk with ⟨rfl, rfl⟩ | ⟨hki, hk⟩
      · rcases hgetV hu2 with ⟨_, rfl⟩ | ⟨hki, _⟩
        · refine ⟨a0, n0, by rw [← hv, hv1]; simp, by simpa using hv2, fun hne => ?_⟩
          obtain ⟨br, arr2, z1, z2, z3, z4, z5, z6⟩ := hrow (fun h0 => hne (by rw [h0]; rfl))
          have hbb : br ≠ b' := fun e2 => hij (hw.sep i2 j _ _ b' hH hJ (.inl k1) (e2 ▸ z2))
          exact ⟨br, arr2, z1, .inr ⟨rfl, z2⟩, hbb, (ho br hbb).trans z3, by simpa using z4, fun k3 x u2 hx2 hu3 => (z6 k3 x u2 hx2 hu3).mono hev.pr⟩
        · exact absurd rfl hki
      · rcases hgetV hu2 with ⟨h3, _⟩ | ⟨_, hu2⟩
        · exact absurd h3 hki
        · exact (k2.row k m u hk hu2).mono hev.pr (fun b2 h2 => .inl ⟨h2, hij⟩) (fun b2 _ h3 => ho b2 h3)
    · have own : ∀ {k l1 v1 B}, k ≠ i → ((nlD f M).set i (true, l.map f))[k]? = some (true, l1) → (Vs.set i (r y))[k]? = some v1 → l1 ≠ [] → rowB v1 = some B → (nlD f M)[k]? = some (true, l1) ∧ Vs[k]? = some v1 ∧ g.υ i2 B := fun {k l1 v1 B} hki hk hv3 hn hB => by
        rcases hget hk with ⟨h3, _⟩ | ⟨_, hk⟩
        · exact absurd h3 hki
        rcases hgetV hv3 with ⟨h3, _⟩ | ⟨_, hv3⟩
        · exact absurd h3 hki
        obtain ⟨a2, cap2, z1, z2, z3⟩ := k2.row k _ v1 hk hv3
        obtain ⟨br, arr2, y1, y2, _⟩ := z3 hn
        rw [z1, y1] at hB
        injection hB with hB
        subst hB
        exact ⟨hk, hv3, y2⟩
      have new : ∀ {k l1 v1 B}, k = i → ((nlD f M).set i (true, l.map f))[k]? = some (true, l1) → (Vs.set i (r y))[k]? = some v1 → l1 ≠ [] → rowB v1 = some B → g.blk j (.lst (l.map f) e 1) B := fun {k l1 v1 B} hki hk hv3 hn hB => by
        subst hki
        rcases hget hk with ⟨_, h3⟩ | ⟨h3, _⟩
        · injection h3 with _ h3; subst h3
          rcases hgetV hv3 with ⟨_, rfl⟩ | ⟨h3, _⟩
          · obtain ⟨br, arr2, z1, z2, _⟩ := hrow (fun h0 => hn (by rw [h0]; rfl))
            rw [← hv, hv1, z1] at hB
            injection hB with hB
            subst hB
            exact z2
          · exact absurd rfl h3
        · exact absurd rfl h3
      by_cases hki : k = i
      · have hk'i : k' ≠ i := fun e2 => hkk (hki.trans e2.symm)
        obtain ⟨_, _, z3⟩ := own hk'i h2' w2 n2 b2
        exact hsep B z3 (new hki h1' w1 n1 b1)
      · by_cases hk'i : k' = i
        · obtain ⟨_, _, z3⟩ := own hki h1' w1 n1 b1
          exact hsep B z3 (new hk'i h2' w2 n2 b2)
        · obtain ⟨z1, z2, _⟩ := own hki h1' w1 n1 b1
          obtain ⟨z3, z4, _⟩ := own hk'i h2' w2 n2 b2
          exact k2.dis k k' l1 l2 v1 v2 B hkk z1 z3 n1 n2 z2 z4 b1 b2

/-- The list of lists is given up to be data. -/
theorem WOK.freezeNl {g : G} {w : World} {id : Nat} (hw : WOK g w H) (hH : H[id]? = some (.ob (nlO e eo N (nlD f M)))) (h1 : ∀ x, (f x).cells = [f x]) :
    ∃ g', WOK g' w (H.set id .dead) ∧ Evo g w g' w ∧ (∀ i, g'.τ i = g.τ i) ∧ ∀ r, Rep g w (.hs id 0 N 1) r → Rep g' w (.d (.sl (M.map fun m => esl f m.2))) r := by
  have hidlt : id < H.length := (List.getElem?_eq_some_iff.1 hH).1
  obtain ⟨b, k1, ⟨Vs, k2⟩, k3, k4⟩ := hw.ob id _ hH
  have hN : M.length = N := by have := k2.n; simpa [nlD] using this
  have hV : Vs.length = M.length := by have := k2.len; simpa [nlD] using this
  obtain ⟨cap, arr, o1, o2, o3, o4, o5, o6⟩ := k2.own
  let g' : G := { g with Pr := fun b2 o => g.Pr b2 o ∨ b2 = b ∨ g.υ id b2 }
  have hXb : g.X b := hw.blk id _ b hH (.inl k1)
  have hXu : ∀ b2, g.υ id b2 → g.X b2 := fun b2 h => hw.blk id _ b2 hH (.inr h)
  have hev : Evo g w g' w := {
    same := ⟨rfl, rfl, rfl⟩
    size := Nat.le_refl _
    pr := fun b o hp => ⟨.inl hp, rfl⟩
    prn := fun b2 o h => by
      rcases h with h | rfl | h
      · exact .inl h
      · exact .inr (.inl hXb)
      · exact .inr (.inl (hXu _ h))
    x := fun b h => .inl h
    keep := fun b _ _ => rfl
    σ := fun _ _ h => h
    τ := fun _ m a cap h => ⟨m, a, cap, h, .inr ⟨rfl, rfl, rfl⟩⟩ }
  refine ⟨g', WOK.chg (fun i => i = id) hw hev (by simp) (fun i h => h ▸ hidlt) (fun i h => List.getElem?_set_ne (Ne.symm h)) (fun i h => ⟨rfl, rfl, rfl⟩) (fun _ h => h) hw.xs (fun b2 o h => ?_) (fun i e' b2 hi h hb => ⟨rfl, fun o hp => ?_⟩) ?_ (fun i i' _ _ _ h h' _ _ _ _ => h.trans h'.symm) ?_, hev, fun _ => rfl, fun r hr => ?_⟩
  · rcases h with h | rfl | h
    · exact hw.pr b2 o h
    · exact hw.xs _ hXb
    · exact hw.xs _ (hXu _ h)
  · rcases hp with hp | rfl | hp
    · exact hp
    · exact absurd (hw.sep i id _ _ b2 h hH hb (.inl k1)) hi
    · exact absurd (hw.sep i id _ _ b2 h hH hb (.inr hp)) hi
  · rintro i e' b2 rfl g1 g2
    rcases set_cases hidlt g1 with ⟨_, rfl⟩ | ⟨h, _⟩
    · exact g2.elim
    · exact absurd rfl h
  · rintro i e' rfl g1
    rcases set_cases hidlt g1 with ⟨_, rfl⟩ | ⟨h, _⟩
    · exact .inl rfl
    · exact absurd rfl h
  · cases hr with
    | @hs _ _ _ _ m cap' n0 c0 a' a0 p1 p2 =>
      rw [o1] at p1; injection p1 with p1; injection p1 with p1 p3; injection p3 with p3 p4
      obtain ⟨r1, r2, r3, r4⟩ := hs0 (p2 p1.symm)
      subst r1; subst r2; subst r3; subst p3
      have hlen : n0 = (M.map fun m => esl f m.2).length := by simp [hN]
      have key := RepD.sl (Pr := g'.Pr) (w := w) (M.map fun m => esl f m.2) (some ⟨b, 0, none⟩) c0 1 (fun k => (w.cell? ⟨b, k, none⟩).getD undef) (fun x hx => by obtain ⟨y, _, rfl⟩ := List.mem_map.1 hx; rfl) (by rw [← hlen]; exact r4) (fun hne => ⟨b, 0, rfl, fun k hk => ⟨.inr (.inl rfl), ?_⟩⟩) (fun k x hx => ?_)
      · rw [← hlen] at key
        exact .d key
      · rw [← hlen, Nat.mul_one] at hk
        have : k < arr.size := by omega
        simp only [Nat.zero_add, cell_of_cells o4]
        simp [this]
      · rw [flat_one (fun x hx => by obtain ⟨y, _, rfl⟩ := List.mem_map.1 hx; rfl)] at hx
        obtain ⟨m, hm, rfl⟩ := List.getElem?_map .. ▸ hx |> Option.map_eq_some_iff.1
        have hkl : k < M.length := (List.getElem?_eq_some_iff.1 hm).1
        have hkV : k < Vs.length := by omega
        have hcell : w.cell? ⟨b, k, none⟩ = some Vs[k] := by rw [cell_of_cells o4]; exact o6 k _ (by simp [hkV])
        rw [hcell]
        have hrow := k2.row k _ Vs[k] (nlD_get hm) (by simp [hkV])
        simp only [Option.getD_some]
        generalize Vs[k] = v at hrow
        obtain ⟨fl, l⟩ := m
        cases fl with
        | false => exact RepD.mono hev.pr hrow
        | true =>
          obtain ⟨a2, cap2, rfl, z2, z3⟩ := hrow
          simp only at z3
          refine .sl (l.map f) a2 cap2 1 (fun k => match a2 with | some ad => (w.cell? ⟨ad.block, k, none⟩).getD undef | none => undef) (fun x hx => by obtain ⟨y, _, rfl⟩ := List.mem_map.1 hx; rw [h1]; rfl) z2 (fun hne => ?_) (fun k2' x hx => ?_)
          · obtain ⟨br, arr2, rfl, y2, y3, y4, y5, y6⟩ := z3 hne
            refine ⟨br, 0, rfl, fun k3 hk3 => ⟨.inr (.inr y2), ?_⟩⟩
            have : k3 < arr2.size := by simp only [Nat.mul_one] at hk3; omega
            simp only [Nat.zero_add, cell_of_cells y4]
            simp [this]
          · rw [flat_one1 h1] at hx
            have hk3 : k2' < (l.map f).length := (List.getElem?_eq_some_iff.1 hx).1
            obtain ⟨br, arr2, rfl, y2, y3, y4, y5, y6⟩ := z3 (by intro h0; rw [h0] at hk3; simp at hk3)
            have : k2' < arr2.size := by omega
            simp only [cell_of_cells y4]
            have h4 : arr2[k2']? = some arr2[k2'] := by simp [this]
            rw [h4]
            exact (y6 k2' x _ hx h4).mono hev.pr
theorem nl_snd (M : List (Bool × List α)) : (M.map Prod.snd).map (esl f) = M.map fun m => esl f m.2 := by simp [Function.comp_def]
theorem setE_rep2 {g g' : G} {w : World} {E : Nat → V} {v u : V} {i : Nat} {r : Value} (hr : Rep g w (E i) r) (he : Evo g w g' w) (huv : ∀ r, Rep g w u r → Rep g' w v r) : ∀ {ts : List Nat}, SameE E u ts → Rep g' w (setE E ts v i) r
  | [], _ => hr.mono he
  | t :: ts, h => by
    simp only [setE]
    by_cases hi : i = t
    · subst hi
      rw [upd_same]
      rw [h.1] at hr
      exact huv _ hr
    · rw [upd_ne _ _ hi]; exact setE_rep2 hr he huv h.2
theorem AW.freezeNl {F : FC} {Q : Exit → St → Prop} {c : Code} {E : Nat → V} (id : Nat) (ts : List Nat) (hH : H[id]? = some (.ob (nlO e eo N (nlD f M)))) (h1 : ∀ x, (f x).cells = [f x]) (hE : SameE E (.hs id 0 N 1) ts)
    (h : AW F c Q ⟨setE E ts (.d (.sl ((M.map Prod.snd).map (esl f)))), H.set id .dead⟩) : AW F c Q ⟨E, H⟩ := by
  rw [nl_snd] at h
  rintro a w ⟨h1', h2, g, h3, h4, h5⟩
  obtain ⟨g', w1, w2, _, w3⟩ := h3.freezeNl hH h1
  exact h a w ⟨h1', h2, g', w1, h4.trans w2, fun i => setE_rep2 (h5 i) w2 w3 hE⟩
end

section
variable {F : FC} {Q : Exit → St → Prop} {c y : Code} {st : St} {ops : Array Oper}
theorem AW.openNl {E : Nat → V} {H : List HE} {e eo : TypeId} {N : Nat} {M : List (Bool × List D)} (id : Nat) (hH : H[id]? = some (.ob (nlO e eo N M))) (h : ∀ Vs, AW F c Q ⟨E, H.set id (.ob (nlV e eo N M Vs))⟩) : AW F c Q ⟨E, H⟩ := by
  rintro a w ⟨h1, h2, g, hw, h4, h5⟩
  obtain ⟨b, k1, ⟨Vs, k2⟩, _⟩ := hw.ob id _ hH
  exact h Vs a w ⟨h1, h2, g, (hw.setOb (x1 := nlV e eo N M Vs) hH k1 ⟨rfl, rfl, rfl⟩ rfl (fun _ _ => rfl) (fun _ => k2)).1, h4, h5⟩
end
section
variable {P : Program} {ρ : Operand → V} {H : List HE} {ty : TypeId} {α : Type} {f : α → D} {e eo : TypeId} {N : Nat} {M : List (Bool × List α)} {Vs : List Value}
end
end Go.Proofs.Ythjinjinnklkgaa.Ab
