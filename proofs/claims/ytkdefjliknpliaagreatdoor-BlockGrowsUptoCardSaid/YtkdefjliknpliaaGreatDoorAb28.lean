/- Plain laws, joined. Conditions: none. -/
import Derived.Test.YtkdefjliknpliaaGreatDoorAb26
import Derived.Maps.RangeRun
import Derived.Maps.Keyed
namespace Go.Proofs.YtkdefjliknpliaaGreatDoor.Ab
section
/- Maps that are made and written here, and texts that are gone through: what operations on them come to. Conditions: none. -/
open Go

section
variable {H : List HE}
/-- New memory: an entry that was free. -/
theorem WOK.newOb {g : G} {w : World} {id : Nat} {x0 : OB} {o0 : Obj} (hw : WOK g w H) (hH : H[id]? = some .free)
    (hφ : ∀ g' w', Evo g w g' w' → w'.heap[w.heap.size]? = some o0 → x0.φ g' w' id w.heap.size) :
    ∃ g', WOK g' { w with heap := w.heap.push o0 } (H.set id (.ob x0)) ∧ Evo g w g' { w with heap := w.heap.push o0 } ∧ g'.σ id = some w.heap.size := by
  have hidlt : id < H.length := (List.getElem?_eq_some_iff.1 hH).1
  obtain ⟨hfσ, hfτ, hfυ⟩ := hw.free id (.inl hH)
  let B := w.heap.size
  let w' : World := { w with heap := w.heap.push o0 }
  let g' : G := { σ := fun i => if i = id then some B else g.σ i, τ := g.τ, υ := g.υ, X := fun b => g.X b ∨ b = B, Pr := g.Pr }
  have hold : ∀ b, b < B → w'.heap[b]? = w.heap[b]? := fun b hb => by
    simp only [w', Array.getElem?_push]
    rw [if_neg (by omega)]
  have hnew : w'.heap[B]? = some o0 := by simp [w', B]
  have hsz : w'.heap.size = B + 1 := by simp [w', B]
  have hσ : ∀ i b, g.σ i = some b → i ≠ id := fun i b h e => by subst e; rw [hfσ] at h; cases h
  have hσ' : ∀ i, i ≠ id → g'.σ i = g.σ i := fun i h => by simp [g', h]
  have hev : Evo g w g' w' := {
    same := ⟨rfl, rfl, rfl⟩
    size := by omega
    pr := fun b o hp => ⟨hp, by have := hw.pr b o hp; simp [World.cell?, hold b this]⟩
    prn := fun b o h => .inl h
    x := fun b h => h.imp (fun h => h) (fun e => by omega)
    keep := fun b hb _ => hold b hb
    σ := fun i b h => by rw [hσ' i (hσ i b h)]; exact h
    τ := fun _ m a cap h => ⟨m, a, cap, h, .inr ⟨rfl, rfl, rfl⟩⟩ }
  have hget : ∀ (i : Nat) e, (H.set id (.ob x0))[i]? = some e → (i = id ∧ e = .ob x0) ∨ (i ≠ id ∧ H[i]? = some e) := by
    intro i e he
    by_cases hi : i = id
    · subst hi; rw [List.getElem?_set_self hidlt] at he; exact .inl ⟨rfl, (Option.some.inj he).symm⟩
    · rw [List.getElem?_set_ne (Ne.symm hi)] at he; exact .inr ⟨hi, he⟩
  have hblk : ∀ (i : Nat) e b', (H.set id (.ob x0))[i]? = some e → g'.blk i e b' → (i = id ∧ b' = B) ∨ (i ≠ id ∧ H[i]? = some e ∧ g.blk i e b' ∧ b' < B) := by
    intro i e b' he hb'
    rcases hget i e he with ⟨rfl, rfl⟩ | ⟨hne, h⟩
    · rcases hb' with hb' | hb'
      · simp [g'] at hb'; exact .inl ⟨rfl, hb'.symm⟩
      · exact absurd hb' (hfυ _)
    · have : g.blk i e b' := by
        cases e <;> simp [G.blk, g', hne] at hb' ⊢ <;> exact hb'
      exact .inr ⟨hne, h, this, hw.xs b' (hw.blk i e b' h this)⟩
  refine ⟨g', ⟨fun b o h => by have := hw.pr b o h; show b < w'.heap.size; omega, ?_, ?_, ?_, ?_, ?_, ?_, ?_, ?_, hw.kcE hev⟩, hev, by simp [g', B]⟩
  · intro b h
    show b < w'.heap.size
    rcases h with h | rfl
    · have := hw.xs b h; omega
    · omega
  · intro i e b' he hb'
    rcases hblk i e b' he hb' with ⟨_, rfl⟩ | ⟨_, h1, h2, _⟩
    · exact .inr rfl
    · exact .inl (hw.blk i e b' h1 h2)
  · intro i i' e e' b' he he' hb1 hb2
    rcases hblk i e b' he hb1 with ⟨r1, r2⟩ | ⟨_, h1, h2, h3⟩ <;> rcases hblk i' e' b' he' hb2 with ⟨s1, s2⟩ | ⟨_, h4, h5, h6⟩
    · omega
    · omega
    · omega
    · exact hw.sep i i' e e' b' h1 h4 h2 h5
  · intro i ci hi
    rcases hget i _ hi with ⟨_, he⟩ | ⟨hne, h⟩
    · cases he
    · obtain ⟨b1, arr1, et1, g1, g2, g3, g4, g5⟩ := hw.row i ci h
      have hlt := hw.xs b1 (hw.blk i _ b1 h (by simpa [G.blk] using g1))
      exact ⟨b1, arr1, et1, by rw [hσ' i hne]; exact g1, (hold b1 hlt).trans g2, g3, fun k x v hx hv => (g4 k x v hx hv).mono hev, g5⟩
  · intro i n e s hi
    rcases hget i _ hi with ⟨_, he⟩ | ⟨hne, h⟩
    · cases he
    · obtain ⟨a, cap, g1, g2, g3, g4⟩ := hw.tok i n e s h
      refine ⟨a, cap, g1, g2, g3, fun hlt => ?_⟩
      obtain ⟨b1, arr1, k1, k2, k3, k4⟩ := g4 hlt
      have hlt' := hw.xs b1 (hw.blk i _ b1 h (by simp [G.blk, g1, hlt, k1]))
      exact ⟨b1, arr1, k1, (hold b1 hlt').trans k2, k3, k4⟩
  · intro i l e s hi
    rcases hget i _ hi with ⟨_, he⟩ | ⟨hne, h⟩
    · cases he
    · obtain ⟨a, cap, g1, g2, g3, g4⟩ := hw.lst i l e s h
      refine ⟨a, cap, g1, g2, g3, fun hlt => ?_⟩
      obtain ⟨b1, arr1, k1, k0, k2, k3, k4, k5⟩ := g4 hlt
      have hlt' := hw.xs b1 (hw.blk i _ b1 h (by simp [G.blk, g1, hlt, k1]))
      exact ⟨b1, arr1, k1, by rw [hσ' i hne]; exact k0, (hold b1 hlt').trans k2, k3, k4, fun k x v hx hv => (k5 k x v hx hv).mono hev.pr⟩
  · intro i x hi
    rcases hget i _ hi with ⟨rfl, he⟩ | ⟨hne, h⟩
    · injection he with he; subst he
      exact ⟨B, by simp [g'], hφ g' w' hev hnew, fun o hp => by have := hw.pr B o hp; omega, fun b' o hu => absurd hu (hfυ _)⟩
    · obtain ⟨b1, q1, q2, q3, q4⟩ := hw.ob i x h
      have hlt := hw.xs b1 (hw.blk i _ b1 h (.inl q1))
      exact ⟨b1, by rw [hσ' i hne]; exact q1, x.st hev.w rfl rfl (hold b1 hlt) (fun b' hu => hold b' (hw.xs b' (hw.blk i _ b' h (.inr hu)))) q2, q3, q4⟩
  · intro i hi
    have hne : i ≠ id := by
      rintro rfl
      rcases hi with hi | hi
      · rw [List.getElem?_set_self hidlt] at hi; cases hi
      · simp at hi; omega
    rw [hσ' i hne]
    refine hw.free i ?_
    rcases hi with hi | hi
    · rw [List.getElem?_set_ne (Ne.symm hne)] at hi; exact .inl hi
    · exact .inr (by simpa using hi)
theorem WOK.setOb {g : G} {w w' : World} {id b : Nat} {x0 x1 : OB} (hw : WOK g w H) (hH : H[id]? = some (.ob x0)) (hb : g.σ id = some b)
    (hsame : w'.os = w.os ∧ w'.tape = w.tape ∧ w'.output = w.output) (hsz : w'.heap.size = w.heap.size) (ho : ∀ b', b' ≠ b → w'.heap[b']? = w.heap[b']?)
    (hφ : Evo g w g w' → x1.φ g w' id b) : WOK g w' (H.set id (.ob x1)) ∧ Evo g w g w' := by
  have hidlt : id < H.length := (List.getElem?_eq_some_iff.1 hH).1
  have hX : g.X b := hw.blk id _ b hH (.inl hb)
  obtain ⟨b0, f1, f2, hPr, hPu⟩ := hw.ob id x0 hH
  obtain rfl : b = b0 := by rw [hb] at f1; exact Option.some.inj f1
  have hev : Evo g w g w' := {
    same := hsame
    size := by omega
    pr := fun b' o hp => ⟨hp, by
      have hne : b' ≠ b := fun e => by subst e; exact hPr o hp
      simp [World.cell?, ho b' hne]⟩
    prn := fun b o h => .inl h
    x := fun b h => .inl h
    keep := fun b' _ hx => ho b' (fun e => by subst e; exact hx hX)
    σ := fun _ _ h => h
    τ := fun _ m a cap h => ⟨m, a, cap, h, .inr ⟨rfl, rfl, rfl⟩⟩ }
  have hget : ∀ (i : Nat) e, (H.set id (.ob x1))[i]? = some e → (i = id ∧ e = .ob x1) ∨ (i ≠ id ∧ H[i]? = some e) := by
    intro i e he
    by_cases hi : i = id
    · subst hi; rw [List.getElem?_set_self hidlt] at he; exact .inl ⟨rfl, (Option.some.inj he).symm⟩
    · rw [List.getElem?_set_ne (Ne.symm hi)] at he; exact .inr ⟨hi, he⟩
  have hblk : ∀ (i : Nat) e b', (H.set id (.ob x1))[i]? = some e → g.blk i e b' → ∃ e', H[i]? = some e' ∧ g.blk i e' b' := by
    intro i e b' he hb'
    rcases hget i e he with ⟨rfl, rfl⟩ | ⟨_, h⟩
    · exact ⟨_, hH, hb'⟩
    · exact ⟨e, h, hb'⟩
  refine ⟨⟨fun b o h => by rw [hsz]; exact hw.pr b o h, fun b h => by rw [hsz]; exact hw.xs b h, ?_, ?_, ?_, ?_, ?_, ?_, ?_, hw.kcE hev⟩, hev⟩
  · intro i e b' he hb'
    obtain ⟨e', h1, h2⟩ := hblk i e b' he hb'
    exact hw.blk i e' b' h1 h2
  · intro i i' e e' b' he he' hb1 hb2
    obtain ⟨e1, h1, h2⟩ := hblk i e b' he hb1
    obtain ⟨e3, h3, h4⟩ := hblk i' e' b' he' hb2
    exact hw.sep i i' e1 e3 b' h1 h3 h2 h4
  · intro i ci hi
    rcases hget i _ hi with ⟨_, he⟩ | ⟨hne, h⟩
    · cases he
    · obtain ⟨b1, arr1, et1, g1, g2, g3, g4, g5⟩ := hw.row i ci h
      have hne' : b1 ≠ b := fun e => hne (hw.sep i id _ _ b1 h hH (by simpa [G.blk] using g1) (by rw [e]; exact .inl hb))
      exact ⟨b1, arr1, et1, g1, (ho b1 hne').trans g2, g3, fun k x v hx hv => (g4 k x v hx hv).mono hev, g5⟩
  · intro i n e s hi
    rcases hget i _ hi with ⟨_, he⟩ | ⟨hne, h⟩
    · cases he
    · obtain ⟨a, cap, g1, g2, g3, g4⟩ := hw.tok i n e s h
      refine ⟨a, cap, g1, g2, g3, fun hlt => ?_⟩
      obtain ⟨b1, arr1, k1, k2, k3, k4⟩ := g4 hlt
      have hne' : b1 ≠ b := fun e' => hne (hw.sep i id _ _ b1 h hH (by simp [G.blk, g1, hlt, k1]) (by rw [e']; exact .inl hb))
      exact ⟨b1, arr1, k1, (ho b1 hne').trans k2, k3, k4⟩
  · intro i l e s hi
    rcases hget i _ hi with ⟨_, he⟩ | ⟨hne, h⟩
    · cases he
    · obtain ⟨a, cap, g1, g2, g3, g4⟩ := hw.lst i l e s h
      refine ⟨a, cap, g1, g2, g3, fun hlt => ?_⟩
      obtain ⟨b1, arr1, k1, k0, k2, k3, k4, k5⟩ := g4 hlt
      have hne' : b1 ≠ b := fun e' => hne (hw.sep i id _ _ b1 h hH (by simp [G.blk, g1, hlt, k1]) (by rw [e']; exact .inl hb))
      exact ⟨b1, arr1, k1, k0, (ho b1 hne').trans k2, k3, k4, fun k x v hx hv => (k5 k x v hx hv).mono hev.pr⟩
  · intro i x hi
    rcases hget i _ hi with ⟨rfl, he⟩ | ⟨hne, h⟩
    · injection he with he; subst he
      exact ⟨b, hb, hφ hev, hPr, hPu⟩
    · obtain ⟨b1, q1, q2, q3, q4⟩ := hw.ob i x h
      have hne' : b1 ≠ b := fun e => hne (hw.sep i id _ _ b1 h hH (.inl q1) (by rw [e]; exact .inl hb))
      have hnu : ∀ b', g.υ i b' → b' ≠ b := fun b' hu e => hne (hw.sep i id _ _ b' h hH (.inr hu) (by rw [e]; exact .inl hb))
      exact ⟨b1, q1, x.st hev.w rfl rfl (ho b1 hne') (fun b' hu => ho b' (hnu b' hu)) q2, q3, q4⟩
  · intro i hi
    refine hw.free i ?_
    rcases hi with hi | hi
    · rcases hget i _ hi with ⟨_, he⟩ | ⟨_, h⟩
      · cases he
      · exact .inl h
    · exact .inr (by simpa using hi)
end

/-! ### maps -/
def mfind {κ ν : Type} [DecidableEq κ] : List (κ × ν) → κ → Option Nat
  | [], _ => none
  | x :: m, k => if k = x.1 then some 0 else (mfind m k).map (· + 1)
def mget {κ ν : Type} [DecidableEq κ] (m : List (κ × ν)) (k : κ) : Option ν := (mfind m k).bind fun j => (m[j]?).map (·.2)
def mput {κ ν : Type} [DecidableEq κ] (m : List (κ × ν)) (k : κ) (v : ν) : List (κ × ν) := match mfind m k with
  | some j => m.set j (k, v)
  | none => m ++ [(k, v)]
theorem mfind_lt {κ ν : Type} [DecidableEq κ] {k : κ} : ∀ {m : List (κ × ν)} {j : Nat}, mfind m k = some j → ∃ x, m[j]? = some x ∧ x.1 = k
  | x :: m, j, h => by
    unfold mfind at h
    split at h
    · rename_i e
      injection h with h; subst h
      exact ⟨x, rfl, e.symm⟩
    · cases hm : mfind m k with
      | none => rw [hm] at h; cases h
      | some i =>
        rw [hm] at h
        simp only [Option.map_some, Option.some.injEq] at h
        subst h
        obtain ⟨y, h1, h2⟩ := mfind_lt hm
        exact ⟨y, by simpa using h1, h2⟩

/-- Keys of a map as data. -/
structure KeyF (P : Program) (kt : TypeId) {κ : Type} [DecidableEq κ] (fk : κ → D) (kv : κ → Value) (d : TypeDesc) : Prop where
  ty : P.underlying kt = some d
  isk : ∀ x, MapKept.IsKey d (kv x)
  rep : ∀ {Pr : Nat → Nat → Prop} {w : World} {x : κ} {v : Value}, RepD Pr w (fk x) v → v = kv x
  mkr : ∀ {Pr : Nat → Nat → Prop} {w : World} {x : κ}, RepD Pr w (fk x) (kv x)
  same : ∀ x y, Instr.sameNow d (kv x) (kv y) = some (decide (x = y))
theorem keyStr {P : Program} {kt : TypeId} (h : P.underlying kt = some .string) : KeyF P kt D.str (fun s => .string ⟨s.toArray⟩) .string where
  ty := h
  isk := fun _ => trivial
  rep := fun h => by cases h; rfl
  mkr := .str _
  same := fun x y => by
    have e : ((⟨x.toArray⟩ : ByteArray) == ⟨y.toArray⟩) = decide (x = y) := by
      rw [Bool.eq_iff_iff, MapKept.bytes_beq, decide_eq_true_iff]
      exact ⟨fun hh => by simpa using congrArg (fun b : ByteArray => b.data.toList) hh, fun h => by rw [h]⟩
    simp only [Instr.sameNow, e]
theorem keyInt {P : Program} {kt : TypeId} {k : IntKind} (h : P.underlying kt = some (.int k)) : KeyF P kt (D.int k) (fun n => .int k n) (.int k) where
  ty := h
  isk := fun _ => rfl
  rep := fun h => by cases h; rfl
  mkr := .int _ _
  same := fun x y => by
    simp only [Instr.sameNow, if_pos]
    congr 1

/-- The entries of a map, the first that came first. -/
def MapAt (Pr : Nat → Nat → Prop) (w : World) (b : Nat) (M : List (D × D)) : Prop :=
  ∃ es : Array MapEntry, w.heap[b]? = some (.map es M.length) ∧ es.size = M.length ∧ ∀ (i : Nat) x e, M[i]? = some x → es[i]? = some e → e.born = i ∧ RepD Pr w x.1 e.key ∧ RepD Pr w x.2 e.val
def mpO (M : List (D × D)) : OB where
  φ := fun g w _ b => MapAt g.Pr w b M
  st := fun {g g' w w' _ b} he _ _ hb _ h => by
    obtain ⟨es, h1, h2, h3⟩ := h
    exact ⟨es, hb.trans h1, h2, fun i x e hx hv => by
      obtain ⟨k1, k2, k3⟩ := h3 i x e hx hv
      exact ⟨k1, k2.mono he.pr, k3.mono he.pr⟩⟩
  fr := true
  fre := fun _ {g g' w i j b} hP _ _ h => by rw [hP]; exact h
theorem obR_mp {S : List Nat} {M : List (D × D)} : ObR S (mpO M) (mpO M) := fun _ h => h

section
variable {P : Program} {ρ : Operand → V} {H : List HE} {ty : TypeId} {κ ν : Type} [DecidableEq κ] {fk : κ → D} {fv : ν → D} {kv : κ → Value} {d : TypeDesc}
theorem Is.mp {x : Operand} {id : Nat} {g : G} {w : World} {r : Operand → Value} (hx : Is (ρ x) (.mp id)) (h : Rep g w (ρ x) (r x)) : ∃ b, g.σ id = some b ∧ r x = .map (some b) := by
  have := hx.rep h
  generalize hr : r x = v at this
  cases this with
  | mp hb => exact ⟨_, hb, rfl⟩
theorem find_map {Pr : Nat → Nat → Prop} {w : World} {kt : TypeId} (hK : KeyF P kt fk kv d) (k : κ) : ∀ (m : List (κ × ν)) (es : List MapEntry) (i : Nat), es.length = m.length →
    (∀ (j : Nat) x e, m[j]? = some x → es[j]? = some e → RepD Pr w (fk x.1) e.key) →
    Instr.findNow d (kv k) es i = some (match mfind m k with | some j => (es[j]?).map fun e => (i + j, e.val) | none => none)
  | [], [], i, _, _ => rfl
  | x :: m, e :: es, i, hl, h => by
    have hk := hK.rep (h 0 x e rfl rfl)
    unfold Instr.findNow mfind
    rw [hk, hK.same]
    by_cases he : k = x.1
    · simp [he]
    · rw [decide_eq_false he, if_neg he]
      have := find_map hK k m es (i + 1) (by simpa using hl) (fun j y e' h1 h2 => h (j + 1) y e' (by simpa using h1) (by simpa using h2))
      simp only [this]
      cases mfind m k with
      | none => rfl
      | some j =>
        simp only [Option.map_some, List.getElem?_cons_succ]
        rw [show i + 1 + j = i + (j + 1) by omega]
theorem run_find {w : World} {kt : TypeId} {es : Array MapEntry} {Pr : Nat → Nat → Prop} {m : List (κ × ν)} (hK : KeyF P kt fk kv d) (k : κ) (h2 : es.size = m.length)
    (h3 : ∀ (i : Nat) x e, (m.map fun q => (fk q.1, fv q.2))[i]? = some x → es[i]? = some e → e.born = i ∧ RepD Pr w x.1 e.key ∧ RepD Pr w x.2 e.val) :
    (Instr.findKey kt (kv k) es.toList).run P w = .ok (match mfind m k with | some j => (es[j]?).map fun e => (j, e.val) | none => none) w := by
  refine MapKept.run_findKey hK.ty ?_
  rw [find_map (Pr := Pr) (w := w) hK k m es.toList 0 (by simpa using h2) (fun j x e h1 h4 => (h3 j (fk x.1, fv x.2) e (by rw [List.getElem?_map, h1]; rfl) (by simpa using h4)).2.1)]
  cases mfind m k with
  | none => rfl
  | some j => simp

theorem op_makeMap {t : TypeId} {n : Nat} (hn : H.length = n) : OpV P (.makeMap t none) ty ρ H (.mp n) (H ++ [.ob (mpO [])]) := by
  subst hn
  intro g w r pos after guard dst hw _
  obtain ⟨g', h1, h2, h3⟩ := hw.addFree.newOb (id := H.length) (x0 := mpO []) (o0 := .map #[] 0) (by simp) (fun g' w' _ h => ⟨#[], h, rfl, fun i x e hx => by simp at hx⟩)
  rw [set_last] at h1
  unfold OpRuns
  simp [execOp, Instr.makeMap]
  exact ⟨g', h1, h2, .mp h3⟩
theorem op_lookup {x y : Operand} {t kt et : TypeId} {id : Nat} {m : List (κ × ν)} {k : κ} {z : ν} {zv : Value} (hK : KeyF P kt fk kv d) (ht : P.underlying t = some (.map kt et)) (hx : Is (ρ x) (.mp id)) (hy : As (ρ y) (fk k))
    (hH : H[id]? = some (.ob (mpO (m.map fun q => (fk q.1, fv q.2))))) (hz : ∃ i, P.info? et = some i ∧ i.zero = some zv) (hzv : ∀ Pr w, RepD Pr w (fv z) zv) :
    OpV P (.lookup t x y false) ty ρ H (.d (fv ((mget m k).getD z))) H :=
  OpV.of_val fun g w r hw h => by
    obtain ⟨b, hb, hr⟩ := hx.mp (h x (by simp [Op.operands]))
    have hk := hK.rep (hy.rep (h y (by simp [Op.operands])))
    obtain ⟨b', f1, ⟨es, e1, e2, e3⟩, f3, _⟩ := hw.ob id _ hH
    obtain rfl : b = b' := by rw [hb] at f1; exact Option.some.inj f1
    obtain ⟨inf, z1, z2⟩ := hz
    have hf := run_find (P := P) (Pr := g.Pr) (w := w) (fv := fv) hK k (by simpa using e2) e3
    simp only [List.length_map] at e1 e2
    have hc : ∀ em, (Instr.checkKey em 10000 kt (kv k)).run P w = .ok () w := fun em => MapKept.run_checkKey hK.ty (hK.isk k) em 9999
    unfold mget
    cases hm : mfind m k with
    | none =>
      rw [hm] at hf
      refine ⟨zv, fun _ _ _ _ => ?_, .d (hzv _ _)⟩
      simp [execOp, hr, hk, Instr.lookup, run_underlying ht, MapKept.run_getObj_map e1, hc, hf, Result.andThen, zeroValue, typeInfo, z1, z2]
    | some j =>
      rw [hm] at hf
      obtain ⟨q, q1, q2⟩ := mfind_lt hm
      have hj : j < es.size := by rw [e2]; exact (List.getElem?_eq_some_iff.1 q1).1
      have he : es[j]? = some es[j] := by simp [hj]
      refine ⟨es[j].val, fun _ _ _ _ => ?_, ?_⟩
      · simp only [he, Option.map_some] at hf
        simp [execOp, hr, hk, Instr.lookup, run_underlying ht, MapKept.run_getObj_map e1, hc, hf, Result.andThen]
      · simp only [Option.bind_some, q1, Option.map_some, Option.getD_some]
        exact .d (e3 j _ _ (by simp [q1]; rfl) he).2.2
theorem op_mapUpdate {x y u : Operand} {t kt et : TypeId} {id : Nat} {m : List (κ × ν)} {k : κ} {v : ν} (hK : KeyF P kt fk kv d) (ht : P.underlying t = some (.map kt et)) (hx : Is (ρ x) (.mp id)) (hy : As (ρ y) (fk k)) (hu : As (ρ u) (fv v))
    (hH : H[id]? = some (.ob (mpO (m.map fun q => (fk q.1, fv q.2))))) :
    OpV P (.mapUpdate t x y u) ty ρ H .any (H.set id (.ob (mpO ((mput m k v).map fun q => (fk q.1, fv q.2))))) := by
  intro g w r pos after guard dst hw h
  obtain ⟨b, hb, hr⟩ := hx.mp (h x (by simp [Op.operands]))
  have hk := hK.rep (hy.rep (h y (by simp [Op.operands])))
  have hv := hu.rep (h u (by simp [Op.operands]))
  obtain ⟨b', f1, ⟨es, e1, e2, e3⟩, f3, _⟩ := hw.ob id _ hH
  obtain rfl : b = b' := by rw [hb] at f1; exact Option.some.inj f1
  have hf := run_find (P := P) (Pr := g.Pr) (w := w) (fv := fv) hK k (by simpa using e2) e3
  simp only [List.length_map] at e1 e2
  have hc : (Instr.checkKey false 10000 kt (kv k)).run P w = .ok () w := MapKept.run_checkKey hK.ty (hK.isk k) false 9999
  have hst : (Instr.keyThatStays (kv k) (kv k)).run P w = .ok (kv k) w := MapKept.run_keyThatStays (hK.isk k)
  have hbl : b < w.heap.size := (Array.getElem?_eq_some_iff.1 e1).1
  have fin : ∀ o', (mpO ((mput m k v).map fun q => (fk q.1, fv q.2))).φ g { w with heap := w.heap.setIfInBounds b o' } id b →
      ∃ g', WOK g' { w with heap := w.heap.setIfInBounds b o' } (H.set id (.ob (mpO ((mput m k v).map fun q => (fk q.1, fv q.2))))) ∧ Evo g w g' { w with heap := w.heap.setIfInBounds b o' } ∧ Rep g' { w with heap := w.heap.setIfInBounds b o' } .any undef := fun o' hφ => by
    obtain ⟨k1, k2⟩ := hw.setOb (w' := { w with heap := w.heap.setIfInBounds b o' }) hH hb ⟨rfl, rfl, rfl⟩ (by simp) (fun b' hne => by
      show (w.heap.setIfInBounds b o')[b']? = _
      rw [Array.getElem?_setIfInBounds_ne (Ne.symm hne)]) (fun _ => hφ)
    exact ⟨g, k1, k2, .any⟩
  have hev : ∀ o', ∀ b' o, g.Pr b' o → g.Pr b' o ∧ World.cell? { w with heap := w.heap.setIfInBounds b o' } ⟨b', o, none⟩ = w.cell? ⟨b', o, none⟩ := fun o' b' o hp => ⟨hp, by
    have hne : b' ≠ b := fun e => by subst e; exact f3 o hp
    simp [World.cell?, Array.getElem?_setIfInBounds_ne (Ne.symm hne)]⟩
  unfold OpRuns
  cases hm : mfind m k with
  | none =>
    rw [hm] at hf
    simp [execOp, hr, hk, Instr.mapUpdate, run_underlying ht, MapKept.run_getObj_map e1, hc, hf, Result.andThen, MapKept.run_setObj_map _ e1]
    refine fin _ ⟨es.push ⟨kv k, r u, m.length⟩, ?_, ?_, ?_⟩
    · simp [mput, hm, hbl]
    · simp [mput, hm, e2]
    · intro i x e hx he
      simp only [mput, hm, List.map_append, List.map_cons, List.map_nil] at hx
      by_cases hi : i < m.length
      · rw [List.getElem?_append_left (by simpa using hi)] at hx
        rw [Array.getElem?_push, if_neg (by omega)] at he
        obtain ⟨q1, q2, q3⟩ := e3 i x e hx he
        exact ⟨q1, q2.mono (hev _), q3.mono (hev _)⟩
      · rw [List.getElem?_append_right (by simpa using hi)] at hx
        have hi0 : i - m.length = 0 := by
          have := (List.getElem?_eq_some_iff.1 hx).1
          simp at this; omega
        have : i = m.length := by omega
        subst this
        simp only [List.length_map, Nat.sub_self, List.getElem?_cons_zero, Option.some.injEq] at hx
        subst hx
        rw [Array.getElem?_push, if_pos e2.symm] at he
        injection he with he; subst he
        exact ⟨rfl, hK.mkr, hv.mono (hev _)⟩
  | some j =>
    rw [hm] at hf
    obtain ⟨q, q1, q2⟩ := mfind_lt hm
    have hj : j < es.size := by rw [e2]; exact (List.getElem?_eq_some_iff.1 q1).1
    have hje : es[j]? = some es[j] := by simp [hj]
    have hjk : es[j].key = kv k := by
      have := hK.rep (e3 j _ _ (by simp [q1]; rfl) hje).2.1
      rw [this, q2]
    simp only [hje, Option.map_some] at hf
    simp [execOp, hr, hk, Instr.mapUpdate, run_underlying ht, MapKept.run_getObj_map e1, hc, hf, Result.andThen, MapKept.run_setObj_map _ e1, hje, hjk, hst]
    refine fin _ ⟨es.modify j fun e => { e with key := kv k, val := r u }, ?_, ?_, ?_⟩
    · simp [mput, hm, hbl]
    · simp [mput, hm, e2]
    · intro i x e hx he
      simp only [mput, hm, List.map_set] at hx
      rw [Array.getElem?_modify] at he
      by_cases hij : j = i
      · subst hij
        rw [if_pos rfl, hje] at he
        rw [List.getElem?_set_self (by simpa [e2] using hj)] at hx
        injection hx with hx; subst hx
        simp only [Option.map_some, Option.some.injEq] at he
        subst he
        exact ⟨(e3 j _ _ (by simp [q1]; rfl) hje).1, hK.mkr, hv.mono (hev _)⟩
      · rw [if_neg hij] at he
        rw [List.getElem?_set_ne hij] at hx
        obtain ⟨q1, q2, q3⟩ := e3 i x e hx he
        exact ⟨q1, q2.mono (hev _), q3.mono (hev _)⟩
end
end
section
/- Going through maps in whatever order, and through texts: what it comes to. Conditions: none. -/
open Go

/-! ### the plain language -/
def iterR {σ τ α : Type} (f : σ → α → Option (σ ⊕ τ)) (fin : σ → τ) : σ → List α → Option τ
  | s, [] => some (fin s)
  | s, e :: p => (f s e).bind fun r => match r with
    | .inl s' => iterR f fin s' p
    | .inr t => some t
/-- The entries in whatever order: what all orders lead to. -/
noncomputable def rangeM {σ τ α : Type} (f : σ → α → Option (σ ⊕ τ)) (fin : σ → τ) (s : σ) (l : List α) : Option τ :=
  open Classical in if h : ∃ t, ∀ p : List α, p.Perm l → iterR f fin s p = some t then some h.choose else none
theorem rangeM_all {σ τ α : Type} {f : σ → α → Option (σ ⊕ τ)} {fin : σ → τ} {s : σ} {l : List α} {t : τ} (h : rangeM f fin s l = some t) : ∀ p : List α, p.Perm l → iterR f fin s p = some t := by
  unfold rangeM at h
  split at h
  · rename_i hh
    injection h with h
    subst h
    exact hh.choose_spec
  · cases h
theorem rangeM_of {σ τ α : Type} {f : σ → α → Option (σ ⊕ τ)} {fin : σ → τ} {s : σ} {l : List α} {t : τ} (h : ∀ p : List α, p.Perm l → iterR f fin s p = some t) : rangeM f fin s l = some t := by
  unfold rangeM
  have hh : ∃ t, ∀ p : List α, p.Perm l → iterR f fin s p = some t := ⟨t, h⟩
  rw [dif_pos hh]
  have h1 := hh.choose_spec l (List.Perm.refl _)
  rw [h l (List.Perm.refl _)] at h1
  exact h1.symm

/-! ### iterators over maps -/
def itO (mid n : Nat) (S : List Nat) : OB where
  φ := fun g w _ r => ∃ bm, g.σ mid = some bm ∧ w.heap[r]? = some (.mapIter (some bm) n S.toArray n)
  st := fun {g g' w w' _ r} he _ _ hb _ h => by
    obtain ⟨bm, h1, h2⟩ := h
    exact ⟨bm, he.σ _ _ h1, hb.trans h2⟩
  fr := false
  fre := fun h => by cases h
theorem obR_it {T : List Nat} {mid mid' n : Nat} {S : List Nat} (h : T[mid']? = some mid) : ObR T (itO mid n S) (itO mid' n S) := fun {g w i j b} _ hφ => by
  obtain ⟨bm, h1, h2⟩ := hφ
  exact ⟨bm, by simp [G.ren, h, h1], h2⟩

theorem WOK.drew {g : G} {w : World} {H : List HE} (h3 : WOK g w H) : WOK g w.drew H ∧ Evo g w g w.drew := by
  have hev : Evo g w g w.drew := ⟨⟨rfl, rfl, rfl⟩, Nat.le_refl _, fun _ _ h => ⟨h, rfl⟩, fun _ _ h => .inl h, fun _ h => .inl h, fun _ _ _ => rfl, fun _ _ h => h, fun _ m a cap h => ⟨m, a, cap, h, .inr ⟨rfl, rfl, rfl⟩⟩⟩
  refine ⟨⟨h3.pr, h3.xs, h3.blk, h3.sep, fun id c hc => ?_, h3.tok, fun id l e s hc => ?_, fun id x hc => ?_, h3.free, h3.kcE hev⟩, hev⟩
  · obtain ⟨b, arr, et, e1, e2, e3, e4, e5⟩ := h3.row id c hc
    exact ⟨b, arr, et, e1, e2, e3, fun k x v hx hv => (e4 k x v hx hv).mono hev, e5⟩
  · obtain ⟨a, cap, k1, k2, k3, k4⟩ := h3.lst id l e s hc
    refine ⟨a, cap, k1, k2, k3, fun hlt => ?_⟩
    obtain ⟨b, arr, q1, q0, q2, q3, q4, q5⟩ := k4 hlt
    exact ⟨b, arr, q1, q0, q2, q3, q4, fun k x v hx hv => (q5 k x v hx hv).mono hev.pr⟩
  · obtain ⟨b, q1, q2, q3, q4⟩ := h3.ob id x hc
    exact ⟨b, q1, x.st hev.w rfl rfl rfl (fun _ _ => rfl) q2, q3, q4⟩

section
variable {P : Program} {ρ : Operand → V} {H : List HE} {ty : TypeId}
theorem op_rangeMap {x : Operand} {t kt et : TypeId} {mid n : Nat} {M : List (D × D)} (ht : P.underlying t = some (.map kt et)) (hx : Is (ρ x) (.mp mid)) (hH : H[mid]? = some (.ob (mpO M))) (hn : H.length = n) :
    OpV P (.range t x) ty ρ H (.ptr n 0) (H ++ [.ob (itO mid M.length [])]) := by
  subst hn
  intro g w r pos after guard dst hw h
  obtain ⟨b, hb, hr⟩ := hx.mp (h x (by simp [Op.operands]))
  obtain ⟨b', f1, ⟨es, e1, e2, e3⟩, f3, _⟩ := hw.ob mid _ hH
  obtain rfl : b = b' := by rw [hb] at f1; exact Option.some.inj f1
  obtain ⟨g', h1, h2, h3⟩ := hw.addFree.newOb (id := H.length) (x0 := itO mid M.length []) (o0 := .mapIter (some b) M.length #[] M.length) (by simp) (fun g' w' he hh => ⟨b, he.σ _ _ hb, hh⟩)
  rw [set_last] at h1
  unfold OpRuns
  simp [execOp, hr, Instr.range, run_underlying ht, MapKept.run_getObj_map e1, Result.andThen]
  exact ⟨g', h1, h2, .ptr h3⟩
theorem op_entry {x : Operand} {mid rid i : Nat} {M : List (D × D)} {S : List Nat} {e : D × D} (hx : Is (ρ x) (.ptr rid 0)) (hH : H[rid]? = some (.ob (itO mid M.length (S ++ [i])))) (hM : H[mid]? = some (.ob (mpO M))) (he : M[i]? = some e) :
    OpV P (.entry x) ty ρ H (.tup [.d e.1, .d e.2]) H :=
  OpV.of_val fun g w r hw h => by
    obtain ⟨b, f1, ⟨es, e1, e2, e3⟩, f3, _⟩ := hw.ob mid _ hM
    obtain ⟨rb, r1, ⟨bm, r2, r3⟩, _⟩ := hw.ob rid _ hH
    obtain rfl : b = bm := by rw [f1] at r2; exact Option.some.inj r2
    have hp := hx.rep (h x (by simp [Op.operands]))
    generalize hr : r x = u at hp
    cases hp with
    | @ptr _ _ b' hb =>
      obtain rfl : b' = rb := by rw [hb] at r1; exact Option.some.inj r1
      have hi : i < es.size := by rw [e2]; exact (List.getElem?_eq_some_iff.1 he).1
      have hei : es[i]? = some es[i] := by simp [hi]
      obtain ⟨q1, q2, q3⟩ := e3 i e _ he hei
      have hnd : (es.toList.map (·.born)).Nodup := by
        have : es.toList.map (·.born) = List.range es.size := by
          apply List.ext_getElem
          · simp
          · intro k h1 h2
            simp only [List.length_map, Array.length_toList] at h1
            obtain ⟨y, hy⟩ : ∃ y, M[k]? = some y := ⟨_, List.getElem?_eq_getElem (by omega)⟩
            have := (e3 k y es[k] hy (by simp [h1])).1
            simp [this]
        rw [this]; exact List.nodup_range
      have hrun := run_entry_at (P := P) w b' b M.length S.toArray es M.length es[i] (by rw [q1]; simpa using r3) e1 (by simp) hnd
      refine ⟨.tuple #[es[i].key, es[i].val], fun _ _ _ _ => by simp [execOp, hr, hrun], .tup rfl (fun k y v hy hv => ?_)⟩
      match k, hy, hv with
      | 0, hy, hv => simp at hy hv; subst hy; subst hv; exact .d q2
      | 1, hy, hv => simp at hy hv; subst hy; subst hv; exact .d q3
      | k + 2, hy, _ => simp at hy

/-- An operation that ends in one of several ways. -/
def OpVN (P : Program) (o : Op) (ty : TypeId) (ρ : Operand → V) (H : List HE) (R : V → List HE → Prop) : Prop :=
  ∀ g w r pos after guard dst, WOK g w H → (∀ x, x ∈ o.operands → Rep g w (ρ x) (r x)) →
    OpRuns P ⟨dst, o, ty, pos, after, guard⟩ r w fun rv w' => ∃ g' v H', R v H' ∧ WOK g' w' H' ∧ Evo g w g' w' ∧ Rep g' w' v rv
theorem AL.stepN {F : FC} {K : St → Prop} {st : St} {ops : Array Oper} {dst : Option Nat} {o : Op} {ty : TypeId} {pos : String} {after : Array Edge} {rest : List Oper} {R : V → List HE → Prop}
    (hd : dlt dst F.n = true) (h : OpVN F.P o ty (Ab.ρ st.env) st.H R) (k : ∀ v H', R v H' → AL F ops K rest ⟨updO st.env dst v, H'⟩) : AL F ops K (⟨dst, o, ty, pos, after, none⟩ :: rest) st := by
  have hd := dlt_lt hd
  rintro a w ⟨h1, h2, g, h3, h4, h5⟩
  simp only [wpL, Region.wanted, if_true]
  refine OpRuns.wp (h g w a.eval pos after none dst h3 (fun x _ => Rep.eval h5 x)) ?_
  rintro rv w' ⟨g', v, H', hR, hw', he, hr⟩
  exact k v H' hR _ _ (Sim.put h1 h2 h4 h5 hd hw' he hr)
theorem op_nextMap {x : Operand} {mid rid : Nat} {M : List (D × D)} {S : List Nat} (hx : Is (ρ x) (.ptr rid 0)) (hH : H[rid]? = some (.ob (itO mid M.length S))) (hM : H[mid]? = some (.ob (mpO M))) :
    OpVN P (.next x false) ty ρ H fun v H' => (v = .tup [.d (.bool false)] ∧ H' = H ∧ ∀ i, i < M.length → i ∈ S) ∨
      ∃ i e, M[i]? = some e ∧ i ∉ S ∧ v = .tup [.d (.bool true), .d e.1, .d e.2] ∧ H' = H.set rid (.ob (itO mid M.length (S ++ [i]))) := by
  intro g w r pos after guard dst hw h
  obtain ⟨b, f1, ⟨es, e1, e2, e3⟩, f3, _⟩ := hw.ob mid _ hM
  obtain ⟨rb, r1, ⟨bm, r2, r3⟩, _⟩ := hw.ob rid _ hH
  obtain rfl : b = bm := by rw [f1] at r2; exact Option.some.inj r2
  have hp := hx.rep (h x (by simp [Op.operands]))
  generalize hr : r x = u at hp
  cases hp with
  | @ptr _ _ b' hb =>
    obtain rfl : b' = rb := by rw [hb] at r1; exact Option.some.inj r1
    have idx : ∀ e ∈ es.toList, ∃ i x, M[i]? = some x ∧ es[i]? = some e ∧ e.born = i ∧ RepD g.Pr w x.1 e.key ∧ RepD g.Pr w x.2 e.val := by
      intro e he
      obtain ⟨i, hi⟩ := List.getElem?_of_mem he
      rw [Array.getElem?_toList] at hi
      have hil : i < M.length := by rw [← e2]; exact (Array.getElem?_eq_some_iff.1 hi).1
      obtain ⟨q1, q2, q3⟩ := e3 i M[i] e (List.getElem?_eq_getElem hil) hi
      exact ⟨i, M[i], List.getElem?_eq_getElem hil, hi, q1, q2, q3⟩
    have hold : ∀ x ∈ es.toList, x.born < M.length := by
      intro e he
      obtain ⟨i, x, k1, _, k2, _⟩ := idx e he
      rw [k2]; exact (List.getElem?_eq_some_iff.1 k1).1
    rcases run_next_at (P := P) w ty b' b M.length M.length S.toArray es M.length r3 e1 hold (Nat.le_refl _) with ⟨l0, hrun⟩ | ⟨e, he, w1, hw1, hrun⟩
    · unfold OpRuns
      simp [execOp, hr, hrun]
      refine ⟨g, _, H, .inl ⟨rfl, rfl, fun i hi => ?_⟩, hw, .refl _ _, .tup rfl (fun k y v hy hv => ?_)⟩
      · have hie : i < es.size := by omega
        have hq := (e3 i M[i] es[i] (List.getElem?_eq_getElem hi) (by simp [hie])).1
        have hl : leftOf es S.toArray = #[] := Array.eq_empty_of_size_eq_zero l0
        unfold leftOf at hl
        rw [Array.filter_eq_empty_iff] at hl
        have := hl es[i] (by simp)
        simpa [hq] using this
      · match k, hy, hv with
        | 0, hy, hv => simp at hy hv; subst hy; subst hv; exact .d (.bool _)
        | k + 1, hy, _ => simp at hy
    · have hmem : e ∈ es.toList ∧ ¬ S.toArray.contains e.born = true := by
        unfold leftOf at he
        simp only [Array.toList_filter, List.mem_filter] at he
        exact ⟨he.1, by simpa using he.2⟩
      obtain ⟨i, x, k1, k2, k3, k4, k5⟩ := idx e hmem.1
      have hiS : i ∉ S := by
        have := hmem.2
        rw [k3] at this
        simpa using this
      have hww : WOK g w1 H ∧ Evo g w g w1 := by
        rcases hw1 with rfl | rfl
        · exact ⟨hw, .refl _ _⟩
        · exact hw.drew
      have r3' : w1.heap[b']? = some (.mapIter (some b) M.length S.toArray M.length) := by rcases hw1 with rfl | rfl <;> exact r3
      have hbl : b' < w1.heap.size := (Array.getElem?_eq_some_iff.1 r3').1
      obtain ⟨j1, j2⟩ := hww.1.setOb (x1 := itO mid M.length (S ++ [i])) (w' := ChangeMaps.setBlock w1 b' (.mapIter (some b) M.length (S.toArray.push e.born) M.length)) hH hb ⟨rfl, rfl, rfl⟩ (by simp [ChangeMaps.setBlock]) (fun b2 hne => by
        show (w1.heap.setIfInBounds b' _)[b2]? = _
        rw [Array.getElem?_setIfInBounds_ne (Ne.symm hne)]) (fun _ => ⟨b, f1, by
          show (w1.heap.setIfInBounds b' _)[b']? = _
          rw [Array.getElem?_setIfInBounds_self_of_lt hbl, k3]; simp⟩)
      have hev := hww.2.trans j2
      unfold OpRuns
      simp only [execOp, hr, Sem.run_bind, hrun, Result.andThen_ok, Sem.run_pure]
      refine ⟨g, _, _, .inr ⟨i, x, k1, hiS, rfl, rfl⟩, j1, hev, .tup rfl (fun k y v hy hv => ?_)⟩
      match k, hy, hv with
      | 0, hy, hv => simp at hy hv; subst hy; subst hv; exact .d (.bool _)
      | 1, hy, hv => simp at hy hv; subst hy; subst hv; exact .d (k4.mono hev.pr)
      | 2, hy, hv => simp at hy hv; subst hy; subst hv; exact .d (k5.mono hev.pr)
      | k + 3, hy, _ => simp at hy
end

/-- What is left of a list, by places. -/
def left {α : Type} (l : List α) (S : List Nat) : List Nat → List α := fun I => I.filterMap fun i => if i ∈ S then none else l[i]?
theorem left_take {α : Type} {l : List α} {S : List Nat} {i : Nat} {e : α} (he : l[i]? = some e) (hi : i ∉ S) : ∀ {I : List Nat}, I.Nodup → i ∈ I → (e :: left l (S ++ [i]) I).Perm (left l S I)
  | [], _, h => by cases h
  | a :: I, hn, h => by
    rw [List.nodup_cons] at hn
    unfold left
    by_cases hai : a = i
    · subst hai
      rw [List.filterMap_cons, List.filterMap_cons, if_pos (by simp), if_neg hi, he]
      refine List.Perm.cons _ ?_
      have : ∀ J : List Nat, a ∉ J → List.filterMap (fun k => if k ∈ S ++ [a] then none else l[k]?) J = List.filterMap (fun k => if k ∈ S then none else l[k]?) J := by
        intro J
        induction J with
        | nil => intro _; rfl
        | cons k J ih =>
          intro hk
          simp only [List.mem_cons, not_or] at hk
          have hiff : (k ∈ S ++ [a]) ↔ k ∈ S := by simp [Ne.symm hk.1]
          rw [List.filterMap_cons, List.filterMap_cons, ih hk.2]
          simp only [hiff]
      rw [this I hn.1]
    · have hm : i ∈ I := by rcases List.mem_cons.1 h with h | h; exact absurd h.symm hai; exact h
      have ih := left_take he hi hn.2 hm
      unfold left at ih
      rw [List.filterMap_cons, List.filterMap_cons]
      by_cases haS : a ∈ S
      · rw [if_pos (by simp [haS]), if_pos haS]; exact ih
      · rw [if_neg (by simp [haS, hai]), if_neg haS]
        cases hla : l[a]? with
        | none => exact ih
        | some x => exact (List.Perm.swap _ _ _).trans (ih.cons _)
theorem left_none {α : Type} {l : List α} {S : List Nat} (h : ∀ i, i < l.length → i ∈ S) : left l S (List.range l.length) = [] := by
  unfold left
  rw [List.filterMap_eq_nil_iff]
  intro i hi
  rw [if_pos (h i (List.mem_range.1 hi))]
theorem left_all {α : Type} {l : List α} : left l [] (List.range l.length) = l := by
  unfold left
  simp only [List.not_mem_nil, if_false]
  apply List.ext_getElem?
  intro k
  have key : ∀ (n : Nat), n ≤ l.length → (List.range n).filterMap (fun i => l[i]?) = l.take n := by
    intro n
    induction n with
    | zero => intro _; simp
    | succ n ih =>
      intro h
      rw [List.range_succ, List.filterMap_append, ih (by omega), List.take_add_one]
      simp [List.getElem?_eq_getElem (show n < l.length by omega)]
  rw [key l.length (Nat.le_refl _), List.take_length]

/-- A loop over the entries of a map. -/
theorem AW.loopR {F : FC} {Q : Exit → St → Prop} {σ τ α : Type} {body : Code} {E : Nat → V} {H : List HE} (n0 : Nat) (keep : List Nat) (m : σ → List (Nat × V)) (K : σ → OB → List HE)
    {f : σ → α → Option (σ ⊕ τ)} {fin : σ → τ} {fx : α → D × D} {l : List α} {s0 : σ} {t : τ} {rg dn dk it B mid rid : Nat} {ty1 ty2 : TypeId} {p1 p2 : String} {a1 a2 : Array Edge}
    (hr : rangeM f fin s0 l = some t) (hg : ∀ id, n0 ≤ id → F.g0.σ id = none ∧ F.g0.τ id = none) (h0 : Meets n0 E keep (m s0) (K s0 (itO mid l.length [])) ⟨E, H⟩)
    (hit : ∀ s, Ab.head keep E (m s) it = .ptr rid 0) (hK1 : ∀ s x, (K s x)[rid]? = some (.ob x)) (hK2 : ∀ s x, (K s x)[mid]? = some (.ob (mpO (l.map fx)))) (hset : ∀ s x y, (K s x).set rid (.ob y) = K s y)
    (hd1 : dlt (some dn) F.n = true) (hd2 : dlt (some dk) F.n = true)
    (step : ∀ (inv : σ → Prop) (s : σ) (e : α) (S : List Nat) (i : Nat) (y : σ ⊕ τ), l[i]? = some e → f s e = some y → (match y with | .inl s' => inv s' | .inr v => some v = some t) →
      AW F body (thenQ (fun st => ∃ s', inv s' ∧ Meets n0 E keep (m s') (K s' (itO mid l.length (S ++ [i]))) st) Q) ⟨upd (upd (Ab.head keep E (m s)) dn (.tup [.d (.bool true), .d (fx e).1, .d (fx e).2])) dk (.d (.bool true)), K s (itO mid l.length (S ++ [i]))⟩)
    (done : ∀ (s : σ) (S : List Nat), some (fin s) = some t → Q (.exit B) ⟨upd (upd (Ab.head keep E (m s)) dn (.tup [.d (.bool false)])) dk (.d (.bool false)), K s (itO mid l.length S)⟩) :
    AW F (.loop (.seq (.region rg #[⟨some dn, .next (.tmp it) false, ty1, p1, a1, none⟩, ⟨some dk, .extract (.tmp dn) 0, ty2, p2, a2, none⟩] false) (.seq (.cond (.tmp dk) .skip (.exit B)) body))) Q ⟨E, H⟩ := by
  have hML : (l.map fx).length = l.length := by simp
  refine AW.loop (α := List Nat × σ) (fun x => ∀ p : List α, p.Perm (left l x.1 (List.range l.length)) → iterR f fin x.2 p = some t) (fun x => ⟨Ab.head keep E (m x.2), K x.2 (itO mid l.length x.1)⟩) (fun x => (left l x.1 (List.range l.length)).length) ([], s0) ?_ (fun _ _ hs => meets_sim hg hs h0) ?_
  · intro p hp
    dsimp only at hp
    rw [left_all] at hp
    exact rangeM_all hr p hp
  rintro ⟨S, s⟩ hI
  dsimp only at hI
  refine AW.seqR ?_
  refine AL.stepN hd1 (op_nextMap (mid := mid) (rid := rid) (M := l.map fx) (S := S) (.e (hit s)) (by rw [hML]; exact hK1 s _) (hK2 s _)) ?_
  rintro v H' (⟨rfl, rfl, hall⟩ | ⟨i, e', he', hiS, rfl, rfl⟩)
  · refine AL.s (v := .d (.bool false)) (H' := K s (itO mid l.length S)) hd2 (op_extractV (l := [.d (.bool false)]) (.e (upd_same _ _ _)) rfl) ?_
    refine AL.nil ?_
    refine AW.seq ?_
    refine AW.cond (b := false) (upd_same _ _ _) (fun h => by cases h) (fun _ => ?_)
    refine AW.exit ?_
    refine tq_exit ?_
    refine tq_exit ?_
    refine done s S ?_
    have := hI [] (by rw [left_none (fun i hi => hall i (by simpa using hi))])
    exact this
  · rw [hML, hset]
    refine AL.s (v := .d (.bool true)) (H' := K s (itO mid l.length (S ++ [i]))) hd2 (op_extractV (l := [.d (.bool true), .d e'.1, .d e'.2]) (.e (upd_same _ _ _)) rfl) ?_
    refine AL.nil ?_
    refine AW.seq ?_
    refine AW.cond (b := true) (upd_same _ _ _) (fun _ => ?_) (fun h => by cases h)
    refine AW.skip ?_
    refine nq ?_
    obtain ⟨e, he, rfl⟩ : ∃ e, l[i]? = some e ∧ e' = fx e := by
      simp only [List.getElem?_map, Option.map_eq_some_iff] at he'
      obtain ⟨e, h1, h2⟩ := he'
      exact ⟨e, h1, h2.symm⟩
    have hi : i ∈ List.range l.length := List.mem_range.2 (List.getElem?_eq_some_iff.1 he).1
    have hperm := left_take he hiS List.nodup_range hi
    have hstep : ∀ p : List α, p.Perm (left l (S ++ [i]) (List.range l.length)) → (f s e).bind (fun r => match r with | .inl s' => iterR f fin s' p | .inr t => some t) = some t := fun p hp => hI (e :: p) ((hp.cons e).trans hperm)
    obtain ⟨y, hy⟩ : ∃ y, f s e = some y := by
      have := hstep _ (List.Perm.refl _)
      cases hfe : f s e with
      | none => rw [hfe] at this; cases this
      | some y => exact ⟨y, rfl⟩
    have hy2 : ∀ p : List α, p.Perm (left l (S ++ [i]) (List.range l.length)) → Sum.elim (fun s' => iterR f fin s' p) some y = some t := fun p hp => by
      have := hstep p hp
      rw [hy] at this
      cases y <;> exact this
    refine (step (fun s' => ∀ p : List α, p.Perm (left l (S ++ [i]) (List.range l.length)) → iterR f fin s' p = some t) s e S i y he hy ?_).mono ?_
    · cases y with
      | inl s' => exact hy2
      | inr v => exact hy2 _ (List.Perm.refl _)
    · intro ex st hq
      cases ex with
      | normal =>
        obtain ⟨s', h1, h2⟩ := hq
        refine ⟨(S ++ [i], s'), h1, ?_, fun a w hs => meets_sim hg hs h2⟩
        have := hperm.length_eq
        simp only [List.length_cons] at this
        show (left l (S ++ [i]) (List.range l.length)).length < (left l S (List.range l.length)).length
        omega
      | _ => exact hq

/-! ### texts -/
section
variable {P : Program} {ρ : Operand → V} {H : List HE} {ty : TypeId}
end
end
end Go.Proofs.YtkdefjliknpliaaGreatDoor.Ab
