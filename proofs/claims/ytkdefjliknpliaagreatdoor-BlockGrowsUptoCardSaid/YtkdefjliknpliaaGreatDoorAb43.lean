/- Plain laws, joined. Conditions: none. -/
import Derived.Test.YtkdefjliknpliaaGreatDoorAb40
import Derived.Test.YtkdefjliknpliaaGreatDoorAb28
namespace Go.Proofs.YtkdefjliknpliaaGreatDoor.Ab
section
/- Containers whose rows are lists of their own. Conditions: none. -/
open Go

/-! ### what is known of a state may be told otherwise -/
def Gh (F : FC) (s s' : St) : Prop := ∀ a w, Sim F s a w → Sim F s' a w
def GS (F : FC) (K : St → Prop) (s : St) : Prop := ∀ a w, Sim F s a w → ∃ s', Sim F s' a w ∧ K s'
section
variable {F : FC} {Q : Exit → St → Prop} {K : St → Prop} {c y : Code} {st s s' : St} {ops : Array Oper} {os : List Oper}
theorem AL.gh (h : Gh F st s') (k : AL F ops K os s') : AL F ops K os st := fun a w hs => k a w (h a w hs)
theorem AW.gh (h : Gh F st s') (k : AW F c Q s') : AW F c Q st := fun a w hs => k a w (h a w hs)
theorem GS.nil (h : K s) : GS F K s := fun _ _ hs => ⟨s, hs, h⟩
theorem GS.gh (h : Gh F s s') (k : GS F K s') : GS F K s := fun a w hs => k a w (h a w hs)
theorem AW.drawnG {id : Nat} (ann : List (List Nat × List Nat)) (hm : F.P.follows .mixedOrders = true) (hok : okD ops ann = true) (h : AD F ops (GS F (Q .normal)) ops.toList ann st) : AW F (.region id ops true) Q st :=
  AW.ghost (AW.drawn (Q := fun e s => e = .normal ∧ GS F (Q .normal) s) ann hm hok (by simpa using h)) fun e s ⟨h1, h2⟩ a w hs => by subst h1; exact h2 a w hs
theorem AW.seqDG {id : Nat} (ann : List (List Nat × List Nat)) (hm : F.P.follows .mixedOrders = true) (hok : okD ops ann = true) (h : AD F ops (GS F (AW F y Q)) ops.toList ann st) : AW F (.seq (.region id ops true) y) Q st :=
  AW.seq (AW.drawnG (Q := thenQ (AW F y Q) Q) ann hm hok h)
theorem Gh.wok {E : Nat → V} {H H' : List HE} (h : ∀ g w, WOK g w H → ∃ g', WOK g' w H' ∧ Evo g w g' w) : Gh F ⟨E, H⟩ ⟨E, H'⟩ := fun _ w ⟨h1, h2, g, h3, h4, h5⟩ => by
  obtain ⟨g', k1, k2⟩ := h g w h3
  exact ⟨h1, h2, g', k1, h4.trans k2, fun i => (h5 i).mono k2⟩
end

/-- Entries of the heap change, lists of their own among them; all others stay. -/
theorem WOK.chg3 {g g' : G} {w w' : World} {H H' : List HE} (K : Nat → Prop) (hw : WOK g w H) (he : Evo g w g' w') (hl : H'.length = H.length) (hKl : ∀ i, K i → i < H.length) (hH : ∀ i, ¬ K i → H'[i]? = H[i]?)
    (hg : ∀ i, ¬ K i → g'.σ i = g.σ i ∧ g'.τ i = g.τ i ∧ g'.υ i = g.υ i) (hX : ∀ i e b, ¬ K i → H[i]? = some e → g.blk i e b → g'.X b) (hXs : ∀ b, g'.X b → b < w'.heap.size) (hPs : ∀ b o, g'.Pr b o → b < w'.heap.size)
    (hu : ∀ i e b, ¬ K i → H[i]? = some e → g.blk i e b → w'.heap[b]? = w.heap[b]? ∧ ∀ o, g'.Pr b o → g.Pr b o)
    (hb : ∀ i e b, K i → H'[i]? = some e → g'.blk i e b → g'.X b ∧ ∀ i0 e0, ¬ K i0 → H[i0]? = some e0 → ¬ g.blk i0 e0 b)
    (hs : ∀ i i' e e' b, K i → K i' → H'[i]? = some e → H'[i']? = some e' → g'.blk i e b → g'.blk i' e' b → i = i')
    (hE : ∀ i e, K i → H'[i]? = some e → e = .dead ∨ (∃ x, e = .ob x ∧ ∃ b, g'.σ i = some b ∧ x.φ g' w' i b ∧ (∀ o, ¬ g'.Pr b o) ∧ ∀ b' o, g'.υ i b' → ¬ g'.Pr b' o) ∨
      ∃ l t s, e = .lst l t s ∧ ∃ a cap, g'.τ i = some (0, a, cap) ∧ l.length ≤ cap ∧ cap ≤ 9223372036854775807 ∧ (0 < cap → ∃ b arr, a = some ⟨b, 0, none⟩ ∧ g'.σ i = some b ∧ w'.heap[b]? = some (.cells arr t (0, 0)) ∧ arr.size = cap * s ∧ (∀ o, ¬ g'.Pr b o) ∧
        (∀ (k : Nat) x v, (D.flat l)[k]? = some x → arr[k]? = some v → RepD g'.Pr w' x v))) : WOK g' w' H' := by
  classical
  have hblk : ∀ i e b, ¬ K i → (g'.blk i e b ↔ g.blk i e b) := fun i e b hi => by
    obtain ⟨q1, q2, q3⟩ := hg i hi
    cases e <;> simp only [G.blk, q1, q2, q3]
  refine ⟨hPs, hXs, ?_, ?_, ?_, ?_, ?_, ?_, ?_, hw.kcE he⟩
  · intro i e b h1 h2
    by_cases hi : K i
    · exact (hb i e b hi h1 h2).1
    · exact hX i e b hi ((hH i hi) ▸ h1) ((hblk i e b hi).1 h2)
  · intro i i' e e' b h1 h2 h3 h4
    by_cases hi : K i <;> by_cases hi' : K i'
    · exact hs i i' e e' b hi hi' h1 h2 h3 h4
    · exact absurd ((hblk i' e' b hi').1 h4) ((hb i e b hi h1 h3).2 i' e' hi' ((hH i' hi') ▸ h2))
    · exact absurd ((hblk i e b hi).1 h3) ((hb i' e' b hi' h2 h4).2 i e hi ((hH i hi) ▸ h1))
    · exact hw.sep i i' e e' b ((hH i hi) ▸ h1) ((hH i' hi') ▸ h2) ((hblk i e b hi).1 h3) ((hblk i' e' b hi').1 h4)
  · intro i c h
    by_cases hi : K i
    · rcases hE i _ hi h with h | ⟨_, h, _⟩ | ⟨_, _, _, h, _⟩ <;> cases h
    · have h' := (hH i hi) ▸ h
      obtain ⟨q1, q2, q3⟩ := hg i hi
      obtain ⟨b1, arr1, et1, g1, g2, g3, g4, g5⟩ := hw.row i c h'
      obtain ⟨u1, u2⟩ := hu i _ b1 hi h' (by simpa [G.blk] using g1)
      exact ⟨b1, arr1, et1, q1 ▸ g1, u1.trans g2, g3, fun k x v hx hv => (g4 k x v hx hv).mono he, fun o hp => g5 o (u2 o hp)⟩
  · intro i n e s h
    by_cases hi : K i
    · rcases hE i _ hi h with h | ⟨_, h, _⟩ | ⟨_, _, _, h, _⟩ <;> cases h
    · have h' := (hH i hi) ▸ h
      obtain ⟨q1, q2, q3⟩ := hg i hi
      obtain ⟨a, cap, g1, g2, g3, g4⟩ := hw.tok i n e s h'
      refine ⟨a, cap, q2 ▸ g1, g2, g3, fun hlt => ?_⟩
      obtain ⟨b1, arr1, k1, k2, k3, k4⟩ := g4 hlt
      obtain ⟨u1, u2⟩ := hu i _ b1 hi h' (by simp [G.blk, g1, hlt, k1])
      exact ⟨b1, arr1, k1, u1.trans k2, k3, fun o hp => k4 o (u2 o hp)⟩
  · intro i l e s h
    by_cases hi : K i
    · rcases hE i _ hi h with h | ⟨_, h, _⟩ | ⟨l', t', s', h, k⟩
      · cases h
      · cases h
      · injection h with h1 h2 h3
        subst h1; subst h2; subst h3
        exact k
    · have h' := (hH i hi) ▸ h
      obtain ⟨q1, q2, q3⟩ := hg i hi
      obtain ⟨a, cap, g1, g2, g3, g4⟩ := hw.lst i l e s h'
      refine ⟨a, cap, q2 ▸ g1, g2, g3, fun hlt => ?_⟩
      obtain ⟨b1, arr1, k1, k0, k2, k3, k4, k5⟩ := g4 hlt
      obtain ⟨u1, u2⟩ := hu i _ b1 hi h' (by simp [G.blk, g1, hlt, k1])
      exact ⟨b1, arr1, k1, q1 ▸ k0, u1.trans k2, k3, fun o hp => k4 o (u2 o hp), fun k x v hx hv => (k5 k x v hx hv).mono he.pr⟩
  · intro i x h
    by_cases hi : K i
    · rcases hE i _ hi h with h | ⟨x', h, k⟩ | ⟨_, _, _, h, _⟩
      · cases h
      · injection h with h; subst h; exact k
      · cases h
    · have h' := (hH i hi) ▸ h
      obtain ⟨q1, q2, q3⟩ := hg i hi
      obtain ⟨b1, k1, k2, k3, k4⟩ := hw.ob i x h'
      obtain ⟨u1, u2⟩ := hu i _ b1 hi h' (.inl k1)
      refine ⟨b1, q1 ▸ k1, x.st he.w q2 q3 u1 (fun b' hb' => (hu i _ b' hi h' (.inr hb')).1) k2, fun o hp => k3 o (u2 o hp), fun b' o hb' hp => ?_⟩
      rw [q3] at hb'
      exact k4 b' o hb' ((hu i _ b' hi h' (.inr hb')).2 o hp)
  · intro i h
    have hi : ¬ K i := fun hi => by
      rcases h with h | h
      · rcases hE i _ hi h with h | ⟨_, h, _⟩ | ⟨_, _, _, h, _⟩ <;> cases h
      · have := hKl i hi; omega
    obtain ⟨q1, q2, q3⟩ := hg i hi
    rw [q1, q2, q3]
    exact hw.free i (h.imp (fun h => (hH i hi) ▸ h) (fun h => by omega))

/-- The same where nothing new comes in. -/
theorem WOK.chg2 {g g' : G} {w w' : World} {H H' : List HE} (K : Nat → Prop) (hw : WOK g w H) (he : Evo g w g' w') (hl : H'.length = H.length) (hKl : ∀ i, K i → i < H.length) (hH : ∀ i, ¬ K i → H'[i]? = H[i]?)
    (hg : ∀ i, ¬ K i → g'.σ i = g.σ i ∧ g'.τ i = g.τ i ∧ g'.υ i = g.υ i) (hX : ∀ i e b, ¬ K i → H[i]? = some e → g.blk i e b → g'.X b) (hXs : ∀ b, g'.X b → b < w'.heap.size) (hPs : ∀ b o, g'.Pr b o → b < w'.heap.size)
    (hu : ∀ i e b, ¬ K i → H[i]? = some e → g.blk i e b → w'.heap[b]? = w.heap[b]? ∧ ∀ o, g'.Pr b o → g.Pr b o)
    (hb : ∀ i e b, K i → H'[i]? = some e → g'.blk i e b → g'.X b ∧ ∃ i0 e0, K i0 ∧ H[i0]? = some e0 ∧ g.blk i0 e0 b)
    (hs : ∀ i i' e e' b, K i → K i' → H'[i]? = some e → H'[i']? = some e' → g'.blk i e b → g'.blk i' e' b → i = i')
    (hE : ∀ i e, K i → H'[i]? = some e → e = .dead ∨ (∃ x, e = .ob x ∧ ∃ b, g'.σ i = some b ∧ x.φ g' w' i b ∧ (∀ o, ¬ g'.Pr b o) ∧ ∀ b' o, g'.υ i b' → ¬ g'.Pr b' o) ∨
      ∃ l t s, e = .lst l t s ∧ ∃ a cap, g'.τ i = some (0, a, cap) ∧ l.length ≤ cap ∧ cap ≤ 9223372036854775807 ∧ (0 < cap → ∃ b arr, a = some ⟨b, 0, none⟩ ∧ g'.σ i = some b ∧ w'.heap[b]? = some (.cells arr t (0, 0)) ∧ arr.size = cap * s ∧ (∀ o, ¬ g'.Pr b o) ∧
        (∀ (k : Nat) x v, (D.flat l)[k]? = some x → arr[k]? = some v → RepD g'.Pr w' x v))) : WOK g' w' H' :=
  WOK.chg3 K hw he hl hKl hH hg hX hXs hPs hu (fun i e b hi h1 h2 => by
    obtain ⟨q1, j, f, q2, q3, q4⟩ := hb i e b hi h1 h2
    exact ⟨q1, fun i0 e0 hi0 h3 h4 => hi0 (hw.sep j i0 f e0 b q3 h3 q4 h4 ▸ q2)⟩) hs hE

/-! ### rows -/
inductive RowD where
  | own (l : List D)
  | lent (n len : Nat)
/-- The head of a row. -/
abbrev Hd := Option Addr × Nat × Nat
def hdV (h : Hd) : Value := .slice h.1 h.2.1 h.2.2
def hdD (h : Hd) : D := .raw (hdV h)
def RowV (g : G) (w : World) (id b : Nat) (e : TypeId) : RowD → Hd → Prop
  | .own l, h => h.2.1 = l.length ∧ l.length ≤ h.2.2 ∧ h.2.2 ≤ 9223372036854775807 ∧ (0 < h.2.2 → ∃ br arr, h.1 = some ⟨br, 0, none⟩ ∧ g.υ id br ∧ br ≠ b ∧ w.heap[br]? = some (.cells arr e (0, 0)) ∧ arr.size = h.2.2 ∧
      ∀ (k : Nat) x u, l[k]? = some x → arr[k]? = some u → RepD g.Pr w x u)
  | .lent n len, h => ∃ m a cap, g.τ n = some (m, a, cap) ∧ (m = 0 → h = (a, len, cap) ∧ len ≤ cap)
def bigB (h : Hd) : Option Nat := if 0 < h.2.2 then h.1.map (·.block) else none
def RowD.isOwn : RowD → Bool
  | .own _ => true
  | .lent _ _ => false
theorem RowV.fre {g g' : G} {w : World} {i j b : Nat} {e : TypeId} {r : RowD} {v : Hd} (hr : r.isOwn = true) (hP : g'.Pr = g.Pr) (hu : g'.υ j = g.υ i) (h : RowV g w i b e r v) : RowV g' w j b e r v := by
  cases r with
  | own l => unfold RowV at h ⊢; rw [hP, hu]; exact h
  | lent n len => cases hr
theorem RowV.mono {g g' : G} {w w' : World} {id id' b b1 : Nat} {e : TypeId} {r : RowD} {v : Hd} (he : EvoW g w g' w') (hu : ∀ l b', r = .own l → bigB v = some b' → g.υ id b' → b' ≠ b → g'.υ id' b' ∧ b' ≠ b1) (ho : ∀ b', g.υ id b' → b' ≠ b → w'.heap[b']? = w.heap[b']?)
    (h : RowV g w id b e r v) : RowV g' w' id' b1 e r v := by
  cases r with
  | own l =>
    obtain ⟨h1, h2, h3, h4⟩ := h
    refine ⟨h1, h2, h3, fun hc => ?_⟩
    obtain ⟨br, arr, k1, k2, k3, k4, k5, k6⟩ := h4 hc
    obtain ⟨u1, u2⟩ := hu l br rfl (by simp [bigB, hc, k1]) k2 k3
    exact ⟨br, arr, k1, u1, u2, (ho _ k2 k3).trans k4, k5, fun k x u hx hu' => (k6 k x u hx hu').mono he.pr⟩
  | lent n len =>
    obtain ⟨m, a, cap, h1, h2⟩ := h
    obtain ⟨m', a', cap', k1, k2⟩ := he.τ n m a cap h1
    refine ⟨m', a', cap', k1, fun h0 => ?_⟩
    rcases k2 with k2 | ⟨q1, q2, q3⟩
    · omega
    · subst q2; subst q3; exact h2 (by omega)

/-- Where the heads of rows lie. -/
structure Cont where
  C : G → World → Nat → Nat → List Hd → Prop
  st : ∀ {g g' : G} {w w' : World} {id b : Nat} {Vs : List Hd}, EvoW g w g' w' → g'.τ id = g.τ id → w'.heap[b]? = w.heap[b]? → C g w id b Vs → C g' w' id b Vs
  fr : Bool
  fre : fr = true → ∀ {g g' : G} {w : World} {i j b : Nat} {Vs : List Hd}, g'.Pr = g.Pr → g'.τ j = g.τ i → C g w i b Vs → C g' w j b Vs
structure CAt (C : Cont) (e : TypeId) (R : List RowD) (g : G) (w : World) (id b : Nat) (Vs : List Hd) : Prop where
  nob : ¬ g.υ id b
  c : C.C g w id b Vs
  len : Vs.length = R.length
  row : ∀ (k : Nat) r v, R[k]? = some r → Vs[k]? = some v → RowV g w id b e r v
  dis : ∀ (k k' : Nat) l l' v v' B, k ≠ k' → R[k]? = some (.own l) → R[k']? = some (.own l') → Vs[k]? = some v → Vs[k']? = some v' → bigB v = some B → bigB v' = some B → False
def cO (C : Cont) (e : TypeId) (R : List RowD) : OB where
  φ := fun g w id b => ∃ Vs, CAt C e R g w id b Vs
  st := fun he ht hu hb ho ⟨Vs, h⟩ => ⟨Vs, by rw [hu]; exact h.nob, C.st he ht hb h.c, h.len, fun k r v hr hv => (h.row k r v hr hv).mono he (fun _ b' _ _ hb' hb2 => ⟨by rw [hu]; exact hb', hb2⟩) (fun b' hb' _ => ho b' hb'), h.dis⟩
  fr := C.fr && R.all RowD.isOwn
  fre := fun h {g g' w i j b} hP hτ hu ⟨Vs, k⟩ => by
    obtain ⟨f1, f2⟩ := Bool.and_eq_true_iff.1 h
    exact ⟨Vs, by rw [hu]; exact k.nob, C.fre f1 hP hτ k.c, k.len, fun q r v hr hv => (k.row q r v hr hv).fre (List.all_eq_true.1 f2 r (List.mem_of_getElem? hr)) hP hu, k.dis⟩
theorem list_set_get {α : Type} {l : List α} {j : Nat} {x : α} {k : Nat} {y : α} (h : (l.set j x)[k]? = some y) : (k = j ∧ y = x) ∨ (k ≠ j ∧ l[k]? = some y) := by
  rw [List.getElem?_set] at h
  split at h
  · rename_i e2
    split at h
    · exact .inl ⟨e2.symm, (Option.some.inj h).symm⟩
    · cases h
  · rename_i e2
    exact .inr ⟨Ne.symm e2, h⟩
theorem CAt.own_blk {C : Cont} {e : TypeId} {R : List RowD} {g : G} {w : World} {id b : Nat} {Vs : List Hd} (h : CAt C e R g w id b Vs) {k : Nat} {l : List D} {v : Hd} {B : Nat} (hr : R[k]? = some (.own l)) (hv : Vs[k]? = some v) (hB : bigB v = some B) : g.υ id B ∧ B ≠ b := by
  obtain ⟨h1, h2, h3, h4⟩ := h.row k _ v hr hv
  unfold bigB at hB
  split at hB
  · rename_i hc
    obtain ⟨br, arr, k1, k2, k3, _⟩ := h4 hc
    rw [k1] at hB
    injection hB with hB; subst hB
    exact ⟨k2, k3⟩
  · cases hB

section
variable {H : List HE} {C : Cont} {e : TypeId} {R : List RowD}
/-- A row is lent: a list of its own, at the end of the heap. -/
theorem WOK.lend {g : G} {w : World} {id j : Nat} {l : List D} (hw : WOK g w H) (hH : H[id]? = some (.ob (cO C e R))) (hR : R[j]? = some (.own l)) (h1 : ∀ x ∈ l, x.cells = [x]) :
    ∃ g', WOK g' w (H.set id (.ob (cO C e (R.set j (.lent H.length l.length)))) ++ [.lst l e 1]) ∧ Evo g w g' w := by
  have hidlt : id < H.length := (List.getElem?_eq_some_iff.1 hH).1
  obtain ⟨b, k1, ⟨Vs, k2⟩, k3, k4⟩ := hw.ob id _ hH
  have hjR : j < R.length := (List.getElem?_eq_some_iff.1 hR).1
  have hjV : j < Vs.length := by rw [k2.len]; exact hjR
  obtain ⟨v, hv⟩ : ∃ v, Vs[j]? = some v := ⟨_, List.getElem?_eq_getElem hjV⟩
  obtain ⟨hva0, hlc, hcm, hrow⟩ := k2.row j _ v hR hv
  obtain ⟨a, len0, cap⟩ := v
  simp only at hva0 hlc hcm hrow
  subst hva0
  let v : Hd := (a, l.length, cap)
  have hv : Vs[j]? = some v := hv
  have hva : v = (a, l.length, cap) := rfl
  obtain ⟨hfσ, hfτ, hfυ⟩ := hw.free H.length (.inr (Nat.le_refl _))
  let n := H.length
  let g' : G := { g with σ := fun i => if i = n then bigB v else g.σ i, τ := fun i => if i = n then some (0, a, cap) else g.τ i, υ := fun i b' => g.υ i b' ∧ ¬ (i = id ∧ bigB v = some b') }
  have hne : id ≠ n := by omega
  have hbig : ∀ B, bigB v = some B → 0 < cap ∧ a = some ⟨B, 0, none⟩ := fun B hB => by
    unfold bigB at hB
    simp only [v] at hB
    split at hB
    · rename_i hc
      obtain ⟨br, arr, q1, _⟩ := hrow hc
      rw [q1] at hB
      injection hB with hB; subst hB
      exact ⟨hc, q1⟩
    · cases hB
  have hev : Evo g w g' w := {
    same := ⟨rfl, rfl, rfl⟩
    size := Nat.le_refl _
    pr := fun b o hp => ⟨hp, rfl⟩
    prn := fun b o h => .inl h
    x := fun b h => .inl h
    keep := fun b _ _ => rfl
    σ := fun i b h => by
      have : i ≠ n := fun e => by subst e; rw [hfσ] at h; cases h
      simp only [g']; rw [if_neg this]; exact h
    τ := fun i m a c h => by
      have : i ≠ n := fun e => by subst e; rw [hfτ] at h; cases h
      exact ⟨m, a, c, by simp only [g']; rw [if_neg this]; exact h, .inr ⟨rfl, rfl, rfl⟩⟩ }
  have hA := hw.addFree
  have hHA : (H ++ [HE.free])[id]? = some (.ob (cO C e R)) := by rw [List.getElem?_append_left hidlt]; exact hH
  have hset : H.set id (.ob (cO C e (R.set j (.lent n l.length)))) ++ [.lst l e 1] = ((H ++ [HE.free]).set id (.ob (cO C e (R.set j (.lent n l.length))))).set n (.lst l e 1) := by
    rw [List.set_append_left _ _ hidlt]
    have := set_last (H.set id (.ob (cO C e (R.set j (.lent n l.length))))) (.lst l e 1)
    rw [List.length_set] at this
    exact this.symm
  have hcas : ∀ {i : Nat} {x : HE}, (i = id ∨ i = n) → (H.set id (.ob (cO C e (R.set j (.lent n l.length)))) ++ [.lst l e 1])[i]? = some x → (i = id ∧ x = .ob (cO C e (R.set j (.lent n l.length)))) ∨ (i = n ∧ x = .lst l e 1) := fun {i x} hi hx => by
    rcases hi with rfl | rfl
    · rw [List.getElem?_append_left (by simpa using hidlt), List.getElem?_set_self hidlt] at hx
      exact .inl ⟨rfl, (Option.some.inj hx).symm⟩
    · rw [List.getElem?_append_right (by simp [n])] at hx
      simp [n] at hx
      exact .inr ⟨rfl, hx.symm⟩
  have hblkn : ∀ b', g'.blk n (.lst l e 1) b' → bigB v = some b' := fun b' h => by
    have h' : ((g'.τ n).bind fun t => if 0 < t.2.2 then t.2.1.map (·.block) else none) = some b' := h
    have hτn : g'.τ n = some (0, a, cap) := by simp [g']
    rw [hτn, Option.bind_some] at h'
    dsimp only at h'
    split at h'
    · rename_i hc
      obtain ⟨br, arr, q1, _⟩ := hrow hc
      rw [q1] at h'
      simp at h'; subst h'
      rw [hva, q1]; simp [bigB, hc]
    · cases h'
  have hτid : g'.τ id = g.τ id := by simp only [g']; rw [if_neg hne]
  refine ⟨g', ?_, hev⟩
  refine WOK.chg2 (fun i => i = id ∨ i = n) hA hev (by simp) (fun i h => by rcases h with rfl | rfl <;> simp [n]; omega) (fun i h => ?_) (fun i h => ⟨by simp only [g']; rw [if_neg (fun e => h (.inr e))], by simp only [g']; rw [if_neg (fun e => h (.inr e))], by funext b'; simp only [g', eq_iff_iff]; exact ⟨fun q => q.1, fun q => ⟨q, fun q2 => h (.inl q2.1)⟩⟩⟩) (fun i e b _ h1 h2 => hA.blk i e b h1 h2) hw.xs hw.pr
    (fun _ _ _ _ _ _ => ⟨rfl, fun _ h => h⟩) ?_ ?_ ?_
  · rw [hset, List.getElem?_set_ne (fun e => h (.inr e.symm)), List.getElem?_set_ne (fun e => h (.inl e.symm))]
  · intro i x b' hi hx hb'
    rcases hcas hi hx with ⟨rfl, rfl⟩ | ⟨rfl, rfl⟩
    · rcases hb' with hb' | hb'
      · have : g.σ i = some b' := by simp only [g'] at hb'; rw [if_neg hne] at hb'; exact hb'
        exact ⟨hw.blk i _ b' hH (.inl this), i, _, .inl rfl, hHA, .inl this⟩
      · exact ⟨hw.blk i _ b' hH (.inr hb'.1), i, _, .inl rfl, hHA, .inr hb'.1⟩
    · have := (k2.own_blk hR hv (hblkn b' hb')).1
      exact ⟨hw.blk id _ b' hH (.inr this), id, _, .inl rfl, hHA, .inr this⟩
  · intro i i' x x' b' hi hi' hx hx' hb1 hb2
    rcases hcas hi hx with ⟨rfl, rfl⟩ | ⟨rfl, rfl⟩ <;> rcases hcas hi' hx' with ⟨rfl, rfl⟩ | ⟨rfl, rfl⟩
    · rfl
    · exfalso
      have h2 := hblkn b' hb2
      rcases hb1 with hb1 | hb1
      · have h3 : g.σ i = some b' := by simp only [g'] at hb1; rw [if_neg hne] at hb1; exact hb1
        obtain ⟨hc, ha⟩ := hbig b' h2
        obtain ⟨br, arr, q1, q2, q3, _⟩ := hrow hc
        rw [ha] at q1; injection q1 with q1; injection q1 with q1; subst q1
        rw [k1] at h3; injection h3 with h3
        exact q3 h3.symm
      · exact hb1.2 ⟨rfl, h2⟩
    · exfalso
      have h2 := hblkn b' hb1
      rcases hb2 with hb2 | hb2
      · have h3 : g.σ i' = some b' := by simp only [g'] at hb2; rw [if_neg hne] at hb2; exact hb2
        obtain ⟨hc, ha⟩ := hbig b' h2
        obtain ⟨br, arr, q1, q2, q3, _⟩ := hrow hc
        rw [ha] at q1; injection q1 with q1; injection q1 with q1; subst q1
        rw [k1] at h3; injection h3 with h3
        exact q3 h3.symm
      · exact hb2.2 ⟨rfl, h2⟩
    · rfl
  · intro i x hi hx
    rcases hcas hi hx with ⟨rfl, rfl⟩ | ⟨rfl, rfl⟩
    · refine .inr (.inl ⟨_, rfl, b, by simp only [g']; rw [if_neg hne]; exact k1, ⟨Vs, fun h => k2.nob h.1, C.st hev.w hτid rfl k2.c, by simpa using k2.len, fun k r u hr hu => ?_, fun k k' l1 l2 v1 v2 B hkk h1' h2' w1 w2 b1 b2 => ?_⟩, k3, fun b' o hb' => k4 b' o hb'.1⟩)
      · rcases list_set_get hr with ⟨rfl, rfl⟩ | ⟨hkj, hr⟩
        · rw [hv] at hu; injection hu with hu; subst hu
          exact ⟨0, a, cap, by simp [g', n], fun _ => ⟨hva, hlc⟩⟩
        · refine (k2.row k r u hr hu).mono hev.w (fun l' b' hrl hb' hb2 hb3 => ⟨⟨hb2, fun q => ?_⟩, hb3⟩) (fun _ _ _ => rfl)
          subst hrl
          exact k2.dis k j l' l u v b' hkj hr hR hu hv hb' q.2
      · rcases list_set_get h1' with ⟨_, h⟩ | ⟨q1, h1'⟩
        · cases h
        · rcases list_set_get h2' with ⟨_, h⟩ | ⟨q2, h2'⟩
          · cases h
          · exact k2.dis k k' l1 l2 v1 v2 B hkk h1' h2' w1 w2 b1 b2
    · refine .inr (.inr ⟨l, e, 1, rfl, a, cap, by simp [g'], hlc, hcm, fun hc => ?_⟩)
      obtain ⟨br, arr, q1, q2, q3, q4, q5, q6⟩ := hrow hc
      refine ⟨br, arr, q1, by show (if n = n then bigB v else g.σ n) = some br; rw [if_pos rfl, hva, q1]; simp [bigB, hc], q4, by omega, fun o => k4 br o q2, fun k x u hx hu => ?_⟩
      rw [flat_one (fun x hx => h1 x hx)] at hx
      exact q6 k x u hx hu
/-- A row that was lent is given back: it need not be the list that was lent. -/
theorem WOK.absorb {g : G} {w : World} {id n j : Nat} {l : List D} (hw : WOK g w H) (hH : H[id]? = some (.ob (cO C e R))) (hJ : H[n]? = some (.lst l e 1)) (hR : R[j]? = some (.lent n l.length)) (h1 : ∀ x ∈ l, x.cells = [x]) :
    ∃ g', WOK g' w ((H.set n .dead).set id (.ob (cO C e (R.set j (.own l))))) ∧ Evo g w g' w := by
  have hidlt : id < H.length := (List.getElem?_eq_some_iff.1 hH).1
  have hnlt : n < H.length := (List.getElem?_eq_some_iff.1 hJ).1
  have hij : id ≠ n := fun e2 => by subst e2; rw [hH] at hJ; cases hJ
  obtain ⟨b, k1, ⟨Vs, k2⟩, k3, k4⟩ := hw.ob id _ hH
  obtain ⟨a, cap, f1, f2, f3, f4⟩ := hw.lst n _ _ _ hJ
  have hjR : j < R.length := (List.getElem?_eq_some_iff.1 hR).1
  obtain ⟨v, hv⟩ : ∃ v, Vs[j]? = some v := ⟨_, List.getElem?_eq_getElem (by rw [k2.len]; exact hjR)⟩
  have hva : v = (a, l.length, cap) := by
    obtain ⟨m, a', cap', q1, q2⟩ := k2.row j _ v hR hv
    rw [f1] at q1; injection q1 with q1; injection q1 with q1 q3; injection q3 with q3 q4
    subst q3; subst q4
    exact (q2 q1.symm).1
  have hbn : ∀ b', g.blk n (.lst l e 1) b' ↔ (0 < cap ∧ a.map (·.block) = some b') := fun b' => by
    simp only [G.blk, f1, Option.bind_some]
    by_cases hc : 0 < cap
    · simp [hc]
    · simp [hc]
  let g' : G := { g with υ := fun i b' => g.υ i b' ∧ i ≠ n ∨ i = id ∧ g.blk n (.lst l e 1) b' }
  have hev : Evo g w g' w := {
    same := ⟨rfl, rfl, rfl⟩
    size := Nat.le_refl _
    pr := fun b o hp => ⟨hp, rfl⟩
    prn := fun b o h => .inl h
    x := fun b h => .inl h
    keep := fun b _ _ => rfl
    σ := fun _ _ h => h
    τ := fun _ m a cap h => ⟨m, a, cap, h, .inr ⟨rfl, rfl, rfl⟩⟩ }
  have hcas : ∀ {i : Nat} {x : HE}, ((H.set n .dead).set id (.ob (cO C e (R.set j (.own l)))))[i]? = some x → (i = id ∧ x = .ob (cO C e (R.set j (.own l)))) ∨ (i = n ∧ x = .dead) ∨ (i ≠ id ∧ i ≠ n ∧ H[i]? = some x) := fun {i x} h2 => by
    rcases set_cases (by simpa using hidlt) h2 with h3 | ⟨h3, h4⟩
    · exact .inl h3
    · rcases set_cases hnlt h4 with h5 | ⟨h5, h6⟩
      · exact .inr (.inl h5)
      · exact .inr (.inr ⟨h3, h5, h6⟩)
  have hsep : ∀ B, g.υ id B → ¬ g.blk n (.lst l e 1) B := fun B h2 h3 => hij (hw.sep id n _ _ B hH hJ (.inr h2) h3)
  refine ⟨g', ?_, hev⟩
  refine WOK.chg2 (fun i => i = id ∨ i = n) hw hev (by simp) (fun i h => by rcases h with rfl | rfl <;> assumption) (fun i h => by rw [List.getElem?_set_ne (fun e2 => h (.inl e2.symm)), List.getElem?_set_ne (fun e2 => h (.inr e2.symm))])
    (fun i h => ⟨rfl, rfl, by funext b2; simp only [g', eq_iff_iff]; exact ⟨fun h2 => by rcases h2 with h2 | h2; exact h2.1; exact absurd (.inl h2.1) h, fun h2 => .inl ⟨h2, fun e2 => h (.inr e2)⟩⟩⟩) (fun i e b _ h1 h2 => hw.blk i e b h1 h2) hw.xs hw.pr
    (fun _ _ _ _ _ _ => ⟨rfl, fun _ h => h⟩) ?_ ?_ ?_
  · intro i x b2 c2 g1 g2
    rcases hcas g1 with ⟨rfl, rfl⟩ | ⟨rfl, rfl⟩ | ⟨n1, n2, _⟩
    · rcases g2 with g2 | g2 | g2
      · exact ⟨hw.blk _ _ _ hH (.inl g2), i, _, .inl rfl, hH, .inl g2⟩
      · exact ⟨hw.blk _ _ _ hH (.inr g2.1), i, _, .inl rfl, hH, .inr g2.1⟩
      · exact ⟨hw.blk _ _ _ hJ g2.2, n, _, .inr rfl, hJ, g2.2⟩
    · exact g2.elim
    · rcases c2 with h3 | h3
      · exact absurd h3 n1
      · exact absurd h3 n2
  · intro i2 i3 e2 e3 b2 c2 c3 g1 g2 g3 g4
    rcases hcas g1 with ⟨rfl, rfl⟩ | ⟨rfl, rfl⟩ | ⟨n1, n2, _⟩
    · rcases hcas g2 with ⟨rfl, rfl⟩ | ⟨rfl, rfl⟩ | ⟨n1, n2, _⟩
      · rfl
      · exact g4.elim
      · rcases c3 with h3 | h3
        · exact absurd h3 n1
        · exact absurd h3 n2
    · exact g3.elim
    · rcases c2 with h3 | h3
      · exact absurd h3 n1
      · exact absurd h3 n2
  · intro i2 e2 c2 g1
    rcases hcas g1 with ⟨rfl, rfl⟩ | ⟨rfl, rfl⟩ | ⟨n1, n2, _⟩
    rotate_left
    · exact .inl rfl
    · rcases c2 with h3 | h3
      · exact absurd h3 n1
      · exact absurd h3 n2
    refine .inr (.inl ⟨_, rfl, b, k1, ⟨Vs, fun h => by
      rcases h with h | h
      · exact k2.nob h.1
      · exact hij (hw.sep i2 n _ _ b hH hJ (.inl k1) h.2), C.st hev.w rfl rfl k2.c, by simpa using k2.len, fun k r u hr hu => ?_, fun k k' l1 l2 v1 v2 B hkk h1' h2' w1 w2 b1 b2 => ?_⟩, k3, fun b2 o hu => ?_⟩)
    · rcases list_set_get hr with ⟨rfl, rfl⟩ | ⟨hkj, hr⟩
      · rw [hv] at hu; injection hu with hu; subst hu
        rw [hva]
        refine ⟨rfl, f2, f3, fun hc => ?_⟩
        obtain ⟨br, arr, rfl, q0, q2, q3, q4, q5⟩ := f4 hc
        have hbb : g.blk n (.lst l e 1) br := (hbn br).2 ⟨hc, rfl⟩
        refine ⟨br, arr, rfl, .inr ⟨rfl, hbb⟩, fun e2 => hij (hw.sep i2 n _ _ b hH hJ (.inl k1) (e2 ▸ hbb)), q2, by rw [q3]; simp, fun k x u hx hu => q5 k x u (by rw [flat_one (fun x hx => h1 x hx)]; exact hx) hu⟩
      · exact (k2.row k r u hr hu).mono hev.w (fun _ b' _ _ hb2 hb3 => ⟨.inl ⟨hb2, hij⟩, hb3⟩) (fun _ _ _ => rfl)
    · have new : ∀ {B}, bigB v = some B → g.blk n (.lst l e 1) B := fun {B} hB => by
        rw [hva] at hB
        unfold bigB at hB
        simp only at hB
        split at hB
        · rename_i hc; exact (hbn _).2 ⟨hc, hB⟩
        · cases hB
      rcases list_set_get h1' with ⟨e1, _⟩ | ⟨q1, h3'⟩
      · rw [e1, hv] at w1; injection w1 with w1
        rcases list_set_get h2' with ⟨e2, _⟩ | ⟨q2, h4'⟩
        · exact hkk (e1.trans e2.symm)
        · exact hsep B (k2.own_blk h4' w2 b2).1 (new (by rw [w1]; exact b1))
      · rcases list_set_get h2' with ⟨e2, _⟩ | ⟨q2, h4'⟩
        · rw [e2, hv] at w2; injection w2 with w2
          exact hsep B (k2.own_blk h3' w1 b1).1 (new (by rw [w2]; exact b2))
        · exact k2.dis k k' l1 l2 v1 v2 B hkk h3' h4' w1 w2 b1 b2
    · rcases hu with hu | hu
      · exact k4 b2 o hu.1
      · obtain ⟨hc, ha⟩ := (hbn b2).1 hu.2
        obtain ⟨br, arr, rfl, q0, q2, q3, q4, q5⟩ := f4 hc
        simp at ha; subst ha
        exact q4 o
end
end
section
/- Slices whose rows are lists of their own: what holds for a list of heads holds for them. Conditions: none. -/
open Go

/-- What may be written is told otherwise. -/
theorem WOK.reX {g : G} {w : World} {H : List HE} (hw : WOK g w H) {X' : Nat → Prop} (h1 : ∀ i e b, H[i]? = some e → g.blk i e b → X' b) (h2 : ∀ b, X' b → b < w.heap.size) (h3 : ∀ x ∈ KC, ¬ X' x.1) : WOK { g with X := X' } w H := by
  have he : EvoW g w { g with X := X' } w := ⟨fun b o h => ⟨h, rfl⟩, fun _ _ h => h, fun id m a cap h => ⟨m, a, cap, h, .inr ⟨rfl, rfl, rfl⟩⟩⟩
  have hb : ∀ i e b, G.blk { g with X := X' } i e b ↔ g.blk i e b := fun i e b => by cases e <;> exact Iff.rfl
  refine ⟨hw.pr, h2, fun i e b hi h => h1 i e b hi ((hb i e b).1 h), fun i i' e e' b hi hi' h h' => hw.sep i i' e e' b hi hi' ((hb i e b).1 h) ((hb i' e' b).1 h'), fun i c hi => ?_, hw.tok, hw.lst, fun i x hi => ?_, hw.free, fun x hx => ?_⟩
  · obtain ⟨b, arr, et, e1, e2, e3, e4, e5⟩ := hw.row i c hi
    exact ⟨b, arr, et, e1, e2, e3, fun k x v hx hv => (e4 k x v hx hv).monoW he, e5⟩
  · obtain ⟨b, q1, q2, q3, q4⟩ := hw.ob i x hi
    exact ⟨b, q1, x.st he rfl rfl rfl (fun _ _ => rfl) q2, q3, q4⟩
  · obtain ⟨_, q2, q3⟩ := hw.kc x hx
    exact ⟨h3 x hx, q2, q3⟩

/-- A slice of heads, or of rows that hold a head. -/
def slC (eo : TypeId) (s : Nat) (L : List Hd → List D) : Cont where
  C := fun g w id b Vs => ∃ cap arr, g.τ id = some (0, some ⟨b, 0, none⟩, cap) ∧ (L Vs).length ≤ cap ∧ 0 < cap ∧ cap ≤ 9223372036854775807 ∧ w.heap[b]? = some (.cells arr eo (0, 0)) ∧ arr.size = cap * s ∧ ∀ (k : Nat) x v, (D.flat (L Vs))[k]? = some x → arr[k]? = some v → RepD g.Pr w x v
  st := fun he ht hb ⟨cap, arr, h1, h2, h3, h4, h5, h6, h7⟩ => ⟨cap, arr, ht.trans h1, h2, h3, h4, hb.trans h5, h6, fun k x v hx hv => (h7 k x v hx hv).mono he.pr⟩
  fr := true
  fre := fun _ {g g' w i j b Vs} hP hτ ⟨cap, arr, h1, h2⟩ => ⟨cap, arr, hτ.trans h1, by rw [hP]; exact h2⟩

section
variable {H : List HE} {e eo : TypeId} {s : Nat} {L : List Hd → List D} {R : List RowD}
/-- The rows are put out of sight: what is left is a list of heads. -/
theorem WOK.hide {g : G} {w : World} {id : Nat} (hw : WOK g w H) (hH : H[id]? = some (.ob (cO (slC eo s L) e R))) :
    ∃ b Vs g1, g.σ id = some b ∧ CAt (slC eo s L) e R g w id b Vs ∧ WOK g1 w (H.set id (.lst (L Vs) eo s)) ∧ g1.Pr = g.Pr ∧ g1.σ = g.σ ∧ g1.τ = g.τ ∧ ∀ b', g1.X b' ↔ g.X b' ∧ ¬ g.υ id b' := by
  have hidlt : id < H.length := (List.getElem?_eq_some_iff.1 hH).1
  obtain ⟨b, k1, ⟨Vs, k2⟩, k3, k4⟩ := hw.ob id _ hH
  obtain ⟨cap, arr, c1, c2, c3, c4, c5, c6, c7⟩ := k2.c
  let g0 : G := { g with υ := fun i b' => i ≠ id ∧ g.υ i b' }
  have hev : Evo g w g0 w := {
    same := ⟨rfl, rfl, rfl⟩
    size := Nat.le_refl _
    pr := fun b o hp => ⟨hp, rfl⟩
    prn := fun b o h => .inl h
    x := fun b h => .inl h
    keep := fun b _ _ => rfl
    σ := fun _ _ h => h
    τ := fun _ m a cap h => ⟨m, a, cap, h, .inr ⟨rfl, rfl, rfl⟩⟩ }
  have hblk : ∀ b', g0.blk id (.lst (L Vs) eo s) b' → b' = b := fun b' h => by
    have h' : ((g.τ id).bind fun t => if 0 < t.2.2 then t.2.1.map (·.block) else none) = some b' := h
    rw [c1] at h'
    simp [c3] at h'
    exact h'.symm
  have w0 : WOK g0 w (H.set id (.lst (L Vs) eo s)) := by
    refine WOK.chg2 (fun i => i = id) hw hev (by simp) (fun i h => h ▸ hidlt) (fun i h => List.getElem?_set_ne (Ne.symm h)) (fun i h => ⟨rfl, rfl, by funext b'; simp [g0, h]⟩) (fun i e b _ h1 h2 => hw.blk i e b h1 h2) hw.xs hw.pr (fun _ _ _ _ _ _ => ⟨rfl, fun _ h => h⟩) ?_ (fun i i' _ _ _ h h' _ _ _ _ => h.trans h'.symm) ?_
    · rintro i x b' rfl h1 h2
      rcases set_cases hidlt h1 with ⟨_, rfl⟩ | ⟨h, _⟩
      · rw [hblk b' h2]
        exact ⟨hw.blk i _ b hH (.inl k1), i, _, rfl, hH, .inl k1⟩
      · exact absurd rfl h
    · rintro i x rfl h1
      rcases set_cases hidlt h1 with ⟨_, rfl⟩ | ⟨h, _⟩
      · exact .inr (.inr ⟨_, _, _, rfl, some ⟨b, 0, none⟩, cap, c1, c2, c4, fun _ => ⟨b, arr, rfl, k1, c5, c6, k3, c7⟩⟩)
      · exact absurd rfl h
  refine ⟨b, Vs, { g0 with X := fun b' => g.X b' ∧ ¬ g.υ id b' }, k1, k2, w0.reX (fun i x b' hi hb => ⟨w0.blk i x b' hi hb, fun hu => ?_⟩) (fun b' h => hw.xs b' h.1) (fun x hx h => (hw.kc x hx).1 h.1), rfl, rfl, rfl, fun _ => Iff.rfl⟩
  rcases set_cases hidlt hi with ⟨rfl, rfl⟩ | ⟨hne, hi⟩
  · rw [hblk b' hb] at hu; exact k2.nob hu
  · have hb' : g.blk i x b' := by
      cases x <;> simp only [G.blk, g0] at hb ⊢ <;> first | exact hb | exact hb.imp (fun h => h) fun h => h.2
    exact hne (hw.sep i id x _ b' hi hH hb' (.inr hu))

/-- The rows are seen again. -/
theorem WOK.unhide {g g1 g' : G} {w w' : World} {id n b : Nat} {Vs Vs' : List Hd} {L' : List Hd → List D} {R' : List RowD} {H' : List HE} (hw : WOK g w H) (hH : H[id]? = some (.ob (cO (slC eo s L) e R)))
    (hC : CAt (slC eo s L) e R g w id b Vs) (p1 : g1.Pr = g.Pr) (p2 : g1.σ = g.σ) (p3 : g1.τ = g.τ) (p4 : ∀ b', g1.X b' ↔ g.X b' ∧ ¬ g.υ id b') (hw' : WOK g' w' H') (he : Evo g1 w g' w') (hn : H'[n]? = some (.lst (L' Vs') eo s)) (hne : L' Vs' ≠ [])
    (hlen : Vs'.length = R'.length)
    (hrow : ∀ (k : Nat) r v, R'[k]? = some r → Vs'[k]? = some v → (∃ k0 : Nat, R[k0]? = some r ∧ Vs[k0]? = some v) ∨ (r = .own [] ∧ v = (none, 0, 0)) ∨ (∃ nn len, r = .lent nn len ∧ RowV g w id b e r v))
    (hdis : ∀ (k k' : Nat) l l' v v' B, k ≠ k' → R'[k]? = some (.own l) → R'[k']? = some (.own l') → Vs'[k]? = some v → Vs'[k']? = some v' → bigB v = some B → bigB v' = some B → False) :
    ∃ g2, WOK g2 w' (H'.set n (.ob (cO (slC eo s L') e R'))) ∧ Evo g w g2 w' ∧ EvoW g' w' g2 w' ∧ EvoW g w g2 w' := by
  have hnlt : n < H'.length := (List.getElem?_eq_some_iff.1 hn).1
  have hUX : ∀ b', g.υ id b' → g.X b' := fun b' h => hw.blk id _ b' hH (.inr h)
  have hUs : ∀ b', g.υ id b' → b' < w.heap.size := fun b' h => hw.xs b' (hUX b' h)
  have hUn : ∀ b', g.υ id b' → ¬ g'.X b' := fun b' h hx => by
    rcases he.x b' hx with h2 | h2
    · exact ((p4 b').1 h2).2 h
    · have := hUs b' h; omega
  have hUh : ∀ b', g.υ id b' → w'.heap[b']? = w.heap[b']? := fun b' h => he.keep b' (hUs b' h) (fun hx => ((p4 b').1 hx).2 h)
  have hUp : ∀ b' o, g.υ id b' → ¬ g'.Pr b' o := fun b' o h hp => by
    rcases he.prn b' o hp with h2 | h2 | h2
    · rw [p1] at h2
      obtain ⟨_, _, _, _, q4⟩ := hw.ob id _ hH
      exact q4 b' o h h2
    · exact ((p4 b').1 h2).2 h
    · have := hUs b' h; omega
  have w1 : WOK { g' with X := fun b' => g'.X b' ∨ g.υ id b' } w' H' := hw'.reX (fun i x b' hi hb => .inl (hw'.blk i x b' hi hb)) (fun b' h => by
    rcases h with h | h
    · exact hw'.xs b' h
    · exact Nat.lt_of_lt_of_le (hUs b' h) he.size) (fun x hx h => by
    rcases h with h | h
    · exact (hw'.kc x hx).1 h
    · exact (hw.kc x hx).1 (hUX _ h))
  obtain ⟨a, cap, f1, f2, f3, f4⟩ := hw'.lst n _ _ _ hn
  have hpos := List.length_pos_iff.2 hne
  obtain ⟨b0, arr, rfl, q0, q2, q3, q4, q5⟩ := f4 (by omega)
  have hb0X : g'.X b0 := hw'.blk n _ b0 hn (by simp [G.blk, f1, show 0 < cap by omega])
  have hb0U : ¬ g.υ id b0 := fun h => hUn b0 h hb0X
  let g2 : G := { g' with X := fun b' => g'.X b' ∨ g.υ id b', υ := fun i b' => if i = n then g.υ id b' else g'.υ i b' }
  have hev : Evo { g' with X := fun b' => g'.X b' ∨ g.υ id b' } w' g2 w' := {
    same := ⟨rfl, rfl, rfl⟩
    size := Nat.le_refl _
    pr := fun b o hp => ⟨hp, rfl⟩
    prn := fun b o h => .inl h
    x := fun b h => .inl h
    keep := fun b _ _ => rfl
    σ := fun _ _ h => h
    τ := fun _ m a cap h => ⟨m, a, cap, h, .inr ⟨rfl, rfl, rfl⟩⟩ }
  have hE1 : Evo g w g2 w' := {
    same := he.same
    size := he.size
    pr := fun b o hp => he.pr b o (by rw [p1]; exact hp)
    prn := fun b o h => by
      rcases he.prn b o h with h2 | h2 | h2
      · exact .inl (by rw [← p1]; exact h2)
      · exact .inr (.inl ((p4 b).1 h2).1)
      · exact .inr (.inr h2)
    x := fun b h => by
      rcases h with h | h
      · rcases he.x b h with h2 | h2
        · exact .inl ((p4 b).1 h2).1
        · exact .inr h2
      · exact .inl (hUX b h)
    keep := fun b hs hx => he.keep b hs (fun h => hx ((p4 b).1 h).1)
    σ := fun i b h => he.σ i b (by rw [p2]; exact h)
    τ := fun i m a cap h => he.τ i m a cap (by rw [p3]; exact h) }
  refine ⟨g2, ?_, hE1, ⟨fun b o h => ⟨h, rfl⟩, fun _ _ h => h, fun _ m a cap h => ⟨m, a, cap, h, .inr ⟨rfl, rfl, rfl⟩⟩⟩, hE1.w⟩
  have hblkn : ∀ b', g2.blk n (.ob (cO (slC eo s L') e R')) b' → b' = b0 ∨ g.υ id b' := fun b' h => by
    rcases h with h | h
    · have h' : g'.σ n = some b' := h
      rw [q0] at h'; exact .inl (Option.some.inj h').symm
    · simp only [g2] at h; exact .inr h
  refine WOK.chg3 (fun i => i = n) w1 hev (by simp) (fun i h => h ▸ hnlt) (fun i h => List.getElem?_set_ne (Ne.symm h)) (fun i h => ⟨rfl, rfl, by funext b'; simp [g2, h]⟩) (fun i e b _ h1 h2 => w1.blk i e b h1 h2) w1.xs w1.pr (fun _ _ _ _ _ _ => ⟨rfl, fun _ h => h⟩) ?_ (fun i i' _ _ _ h h' _ _ _ _ => h.trans h'.symm) ?_
  · rintro i x b' rfl h1 h2
    rcases set_cases hnlt h1 with ⟨_, rfl⟩ | ⟨h, _⟩
    rotate_left
    · exact absurd rfl h
    have hx : g2.X b' := by
      rcases hblkn b' h2 with rfl | h
      · exact .inl hb0X
      · exact .inr h
    refine ⟨hx, fun i0 e0 hi0 h3 h4 => ?_⟩
    have h4' : g'.blk i0 e0 b' := by cases e0 <;> exact h4
    rcases hblkn b' h2 with rfl | h
    · exact hi0 (hw'.sep i0 i e0 _ b' h3 hn h4' (by simp [G.blk, f1, show 0 < cap by omega]))
    · exact hUn b' h (hw'.blk i0 e0 b' h3 h4')
  · rintro i x rfl h1
    rcases set_cases hnlt h1 with ⟨_, rfl⟩ | ⟨h, _⟩
    rotate_left
    · exact absurd rfl h
    refine .inr (.inl ⟨_, rfl, b0, q0, ⟨Vs', ?_, ⟨cap, arr, f1, f2, by omega, f3, q2, q3, q5⟩, hlen, fun k r v hr hv => ?_, hdis⟩, q4, fun b' o hu => ?_⟩)
    · simp only [g2]; exact hb0U
    · rcases hrow k r v hr hv with ⟨k0, h1, h2⟩ | ⟨rfl, rfl⟩ | ⟨nn, len, rfl, h2⟩
      · exact (hC.row k0 r v h1 h2).mono hE1.w (fun l b' hrl hB hu hne2 => ⟨by simp only [g2]; exact hu, fun e2 => hb0U (e2 ▸ hu)⟩) (fun b' hu _ => hUh b' hu)
      · exact ⟨rfl, Nat.le_refl _, by simp, fun h => absurd h (by simp)⟩
      · exact h2.mono hE1.w (fun l b' hrl => by cases hrl) (fun b' hu _ => hUh b' hu)
    · simp only [g2] at hu
      exact hUp b' o hu
end

section
variable {P : Program} {ρ : Operand → V} {H : List HE} {ty : TypeId} {e eo : TypeId} {s : Nat} {L L' : List Hd → List D} {R R' : List RowD}
/-- What an operation does to a list of heads, it does to the rows. -/
theorem OpV.lift {o : Op} {id n : Nat} {v : V} {H' : List HE} (hH : H[id]? = some (.ob (cO (slC eo s L) e R))) (hn : n < H'.length)
    (h : ∀ (g : G) (w : World) (r : Operand → Value) (b : Nat) (Vs : List Hd), WOK g w H → g.σ id = some b → CAt (slC eo s L) e R g w id b Vs → (∀ x, x ∈ o.operands → Rep g w (ρ x) (r x)) → ∃ ρ' u Vs', (∀ x, x ∈ o.operands → ∀ g1 w1, EvoW g w g1 w1 → Rep g1 w1 (ρ' x) (r x)) ∧
      OpV P o ty ρ' (H.set id (.lst (L Vs) eo s)) u (H'.set n (.lst (L' Vs') eo s)) ∧ L' Vs' ≠ [] ∧ Vs'.length = R'.length ∧
      (∀ (k : Nat) r v, R'[k]? = some r → Vs'[k]? = some v → (∃ k0 : Nat, R[k0]? = some r ∧ Vs[k0]? = some v) ∨ (r = .own [] ∧ v = (none, 0, 0)) ∨ (∃ nn len, r = .lent nn len ∧ RowV g w id b e r v)) ∧
      (∀ (k k' : Nat) l l' v v' B, k ≠ k' → R'[k]? = some (.own l) → R'[k']? = some (.own l') → Vs'[k]? = some v → Vs'[k']? = some v' → bigB v = some B → bigB v' = some B → False) ∧
      ∀ g2 w2 rv, EvoW g w g2 w2 → Rep g2 w2 u rv → Rep g2 w2 v rv) : OpV P o ty ρ H v (H'.set n (.ob (cO (slC eo s L') e R'))) := by
  intro g w r pos after guard dst hw hx
  obtain ⟨b, Vs, g1, k1, k2, k3, p1, p2, p3, p4⟩ := hw.hide hH
  obtain ⟨ρ', u, Vs', h1, h2, h3, h4, h5, h6, h7⟩ := h g w r b Vs hw k1 k2 hx
  have he0 : EvoW g w g1 w := ⟨fun b o h => ⟨by rw [p1]; exact h, rfl⟩, fun i b h => by rw [p2]; exact h, fun i m a cap h => ⟨m, a, cap, by rw [p3]; exact h, .inr ⟨rfl, rfl, rfl⟩⟩⟩
  refine (h2 g1 w r pos after guard dst k3 (fun x hx => h1 x hx g1 w he0)).mono ?_
  rintro rv w' ⟨g', q1, q2, q3⟩
  obtain ⟨g2, m1, m2, m3, m4⟩ := hw.unhide hH k2 p1 p2 p3 p4 q1 q2 (List.getElem?_set_self hn) h3 h4 h5 h6
  rw [List.set_set] at m1
  exact ⟨g2, m1, m2, h7 g2 w' rv m4 (q3.monoW m3)⟩
end
end
section
/- Slices of growing lists. Conditions: none. -/
open Go

section
variable {α : Type}
def rsL : List Hd → List D := fun Vs => Vs.map hdD
def rsR (f : α → D) (m : List (List α)) : Option (Nat × Nat × Nat) → List RowD
  | none => m.map fun r => .own (r.map f)
  | some y => (m.map fun r => .own (r.map f)).set y.1 (.lent y.2.1 y.2.2)
/-- A slice of lists that grow; one of them may be out as a list of its own. -/
def rsE (f : α → D) (e eo : TypeId) (m : List (List α)) (y : Option (Nat × Nat × Nat)) : HE := if m = [] then .lst [] eo 1 else .ob (cO (slC eo 1 rsL) e (rsR f m y))
theorem rsR_len {f : α → D} {m : List (List α)} {y : Option (Nat × Nat × Nat)} : (rsR f m y).length = m.length := by cases y <;> simp [rsR]
end

section
variable {F : FC} {E : Nat → V} {H : List HE} {α : Type} {f : α → D} {e eo : TypeId} {m : List (List α)}
theorem f_cells (h1 : ∀ x, (f x).cells = [f x]) (l : List α) : ∀ x ∈ l.map f, x.cells = [x] := fun x hx => by
  obtain ⟨y, _, rfl⟩ := List.mem_map.1 hx
  exact h1 y
end

section
variable {P : Program} {ρ : Operand → V} {H : List HE} {ty : TypeId} {α : Type} {f : α → D} {e eo : TypeId} {m : List (List α)} {y : Option (Nat × Nat × Nat)}
/-- An operation that changes nothing. -/
theorem lift_same {o : Op} {id : Nat} {v : V} {s : Nat} {L : List Hd → List D} {R : List RowD} (hH : H[id]? = some (.ob (cO (slC eo s L) e R))) (hR : R ≠ []) (hL : ∀ Vs : List Hd, Vs ≠ [] → L Vs ≠ [])
    (h : ∀ (g : G) (w : World) (r : Operand → Value) (b : Nat) (Vs : List Hd), WOK g w H → g.σ id = some b → CAt (slC eo s L) e R g w id b Vs → (∀ x, x ∈ o.operands → Rep g w (ρ x) (r x)) → ∃ u, OpV P o ty ρ (H.set id (.lst (L Vs) eo s)) u (H.set id (.lst (L Vs) eo s)) ∧ ∀ g2 w2 rv, EvoW g w g2 w2 → Rep g2 w2 u rv → Rep g2 w2 v rv) : OpV P o ty ρ H v H := by
  have hidlt : id < H.length := (List.getElem?_eq_some_iff.1 hH).1
  have := OpV.lift (P := P) (ρ := ρ) (ty := ty) (o := o) (v := v) (L' := L) (R' := R) (H' := H) hH hidlt (fun g w r b Vs hw hb hC hx => by
    obtain ⟨u, h1, h2⟩ := h g w r b Vs hw hb hC hx
    have hVs : Vs ≠ [] := fun h0 => by
      have := hC.len
      rw [h0] at this
      exact hR (List.eq_nil_of_length_eq_zero this.symm)
    exact ⟨ρ, u, Vs, fun x hx' g1 w1 he => (hx x hx').monoW he, h1, hL Vs hVs, hC.len, fun k r v hr hv => .inl ⟨k, hr, hv⟩, hC.dis, h2⟩)
  have hs : H.set id (.ob (cO (slC eo s L) e R)) = H := by
    apply List.ext_getElem?
    intro k
    by_cases hk : k = id
    · subst hk; rw [List.getElem?_set_self hidlt, hH]
    · rw [List.getElem?_set_ne (Ne.symm hk)]
  rw [hs] at this
  exact this
theorem rsR_ne {k : Int} {r : List α} (h : ix m k = some r) : rsR f m y ≠ [] := by
  obtain ⟨i, _, hi⟩ := ix_nat h
  intro h0
  have := congrArg List.length h0
  rw [rsR_len] at this
  rw [List.eq_nil_of_length_eq_zero this] at hi
  cases hi
theorem ixV {Vs : List Hd} {k : Int} {r : List α} (hl : Vs.length = (rsR f m y).length) (h : ix m k = some r) : ∃ v, ix Vs k = some v ∧ Vs[k.toNat]? = some v := by
  obtain ⟨i, rfl, hi⟩ := ix_nat h
  have : i < Vs.length := by rw [hl, rsR_len]; exact (List.getElem?_eq_some_iff.1 hi).1
  exact ⟨Vs[i], by simp [ix, this], by simp [this]⟩
theorem rep_lent {g g2 : G} {w w2 : World} {id b n len : Nat} {v : Hd} {rv : Value} (he : EvoW g w g2 w2) (hr : RowV g w id b e (.lent n len) v) (h : Rep g2 w2 (.d (hdD v)) rv) : Rep g2 w2 (.hs n 0 len 1) rv := by
  obtain ⟨m, a, cap, h1, h2⟩ := hr
  obtain ⟨m', a', cap', k1, k2⟩ := he.τ n m a cap h1
  cases h with
  | d h =>
    cases h with
    | raw =>
      refine .hs k1 (fun h0 => ?_)
      rcases k2 with k2 | ⟨q1, q2, q3⟩
      · omega
      · obtain ⟨h3, h4⟩ := h2 (by omega)
        rw [h3]
        exact ⟨by simp [subA, q2], rfl, by simp [q3], by simp; omega⟩
theorem setI_ix {β : Type} {l : List β} {k : Int} {v x : β} (h : ix l k = some x) : setI l k v = some (l.set k.toNat v) := by
  obtain ⟨i, rfl, hi⟩ := ix_nat h
  have : i < l.length := (List.getElem?_eq_some_iff.1 hi).1
  unfold setI
  rw [if_pos ⟨by omega, by simpa using this⟩]
/-- Heads of rows that hold nothing. -/
theorem WOK.toC {g : G} {w : World} {n s : Nat} {Vs : List Hd} {L : List Hd → List D} {R : List RowD} (hw : WOK g w H) (hn : H[n]? = some (.lst (L Vs) eo s)) (hne : L Vs ≠ []) (hlen : Vs.length = R.length)
    (hnil : ∀ (k : Nat) r v, R[k]? = some r → Vs[k]? = some v → r = .own [] ∧ v = (none, 0, 0)) : ∃ g', WOK g' w (H.set n (.ob (cO (slC eo s L) e R))) ∧ Evo g w g' w := by
  have hnlt : n < H.length := (List.getElem?_eq_some_iff.1 hn).1
  obtain ⟨a, cap, f1, f2, f3, f4⟩ := hw.lst n _ _ _ hn
  have hpos := List.length_pos_iff.2 hne
  obtain ⟨b0, arr, rfl, q0, q2, q3, q4, q5⟩ := f4 (by omega)
  let g2 : G := { g with υ := fun i b' => i ≠ n ∧ g.υ i b' }
  have hev : Evo g w g2 w := {
    same := ⟨rfl, rfl, rfl⟩
    size := Nat.le_refl _
    pr := fun b o hp => ⟨hp, rfl⟩
    prn := fun b o h => .inl h
    x := fun b h => .inl h
    keep := fun b _ _ => rfl
    σ := fun _ _ h => h
    τ := fun _ m a cap h => ⟨m, a, cap, h, .inr ⟨rfl, rfl, rfl⟩⟩ }
  have hbl : g.blk n (.lst (L Vs) eo s) b0 := by simp [G.blk, f1, show 0 < cap by omega]
  refine ⟨g2, ?_, hev⟩
  refine WOK.chg2 (fun i => i = n) hw hev (by simp) (fun i h => h ▸ hnlt) (fun i h => List.getElem?_set_ne (Ne.symm h)) (fun i h => ⟨rfl, rfl, by funext b'; simp [g2, h]⟩) (fun i e b _ h1 h2 => hw.blk i e b h1 h2) hw.xs hw.pr (fun _ _ _ _ _ _ => ⟨rfl, fun _ h => h⟩) ?_ (fun i i' _ _ _ h h' _ _ _ _ => h.trans h'.symm) ?_
  · rintro i x b' rfl h1 h2
    rcases set_cases hnlt h1 with ⟨_, rfl⟩ | ⟨h, _⟩
    rotate_left
    · exact absurd rfl h
    rcases h2 with h2 | h2
    · have h2' : g.σ i = some b' := h2
      rw [q0] at h2'
      injection h2' with h2'; subst h2'
      exact ⟨hw.blk i _ _ hn hbl, i, _, rfl, hn, hbl⟩
    · exact absurd rfl h2.1
  · rintro i x rfl h1
    rcases set_cases hnlt h1 with ⟨_, rfl⟩ | ⟨h, _⟩
    rotate_left
    · exact absurd rfl h
    refine .inr (.inl ⟨_, rfl, b0, q0, ⟨Vs, fun h => h.1 rfl, ⟨cap, arr, f1, f2, by omega, f3, q2, q3, q5⟩, hlen, fun k r v hr hv => ?_, fun k k' l1 l2 v1 v2 B hkk h1' h2' w1 w2 b1 b2 => ?_⟩, q4, fun b' o hu => absurd rfl hu.1⟩)
    · obtain ⟨rfl, rfl⟩ := hnil k r v hr hv
      exact ⟨rfl, Nat.le_refl _, by simp, fun h => absurd h (by simp)⟩
    · obtain ⟨_, rfl⟩ := hnil k _ v1 h1' w1
      simp [bigB] at b1
end

section
variable {H : List HE} {α : Type} {f : α → D} {e eo : TypeId} {m : List (List α)}
end
end
end Go.Proofs.YtkdefjliknpliaaGreatDoor.Ab
