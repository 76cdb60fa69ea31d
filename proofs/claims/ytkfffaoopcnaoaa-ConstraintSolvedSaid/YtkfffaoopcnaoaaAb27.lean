/- Maps that are made and written here, and texts that are gone through: what operations on them come to. Conditions: none. -/
import Derived.Test.YtkfffaoopcnaoaaAb26
import Derived.Maps.RangeRun
import Derived.Maps.Keyed
namespace Go.Proofs.Ytkfffaoopcnaoaa.Ab
open Go

section
variable {H : List HE}
/-- New memory: an entry that was free. -/
theorem WOK.newOb {g : G} {w : World} {id : Nat} {x0 : OB} {o0 : Obj} (hw : WOK g w H) (hH : H[id]? = some .free)
    (hφ : ∀ g' w', Evo g w g' w' → w'.heap[w.heap.size]? = some o0 → x0.φ g' w' id w.heap.size) :
    ∃ g', WOK g' { w with heap := w.heap.push o0 } (H.set id (.ob x0)) ∧ Evo g w g' { w with heap := w.heap.push o0 } ∧ g'.σ id = some w.heap.size := by
  have hidlt : id < H.length := (List.getElem?_eq_some_iff.1 hH).1
  obtain ⟨hfσ, hfτ, hfυ⟩ := hw.free id (.inl hH)
  let B := w.heap.size
  let w' : World := { w with heap := w.heap.push o0 }
  let g' : G := { σ := fun i => if i = id then some B else g.σ i, τ := g.τ, υ := g.υ, X := fun b => g.X b ∨ b = B, Pr := g.Pr }
  have hold : ∀ b, b < B → w'.heap[b]? = w.heap[b]? := fun b hb => by
    simp only [w', Array.getElem?_push]
    rw [if_neg (by omega)]
  have hnew : w'.heap[B]? = some o0 := by simp [w', B]
  have hsz : w'.heap.size = B + 1 := by simp [w', B]
  have hσ : ∀ i b, g.σ i = some b → i ≠ id := fun i b h e => by subst e; rw [hfσ] at h; cases h
  have hσ' : ∀ i, i ≠ id → g'.σ i = g.σ i := fun i h => by simp [g', h]
  have hev : Evo g w g' w' := {
    same := ⟨rfl, rfl, rfl⟩
    size := by omega
    pr := fun b o hp => ⟨hp, by have := hw.pr b o hp; simp [World.cell?, hold b this]⟩
    prn := fun b o h => .inl h
    x := fun b h => h.imp (fun h => h) (fun e => by omega)
    keep := fun b hb _ => hold b hb
    σ := fun i b h => by rw [hσ' i (hσ i b h)]; exact h
    τ := fun _ m a cap h => ⟨m, a, cap, h, .inr ⟨rfl, rfl, rfl⟩⟩ }
  have hget : ∀ (i : Nat) e, (H.set id (.ob x0))[i]? = some e → (i = id ∧ e = .ob x0) ∨ (i ≠ id ∧ H[i]? = some e) := by
    intro i e he
    by_cases hi : i = id
    · subst hi; rw [List.getElem?_set_self hidlt] at he; exact .inl ⟨rfl, (Option.some.inj he).symm⟩
    · rw [List.getElem?_set_ne (Ne.symm hi)] at he; exact .inr ⟨hi, he⟩
  have hblk : ∀ (i : Nat) e b', (H.set id (.ob x0))[i]? = some e → g'.blk i e b' → (i = id ∧ b' = B) ∨ (i ≠ id ∧ H[i]? = some e ∧ g.blk i e b' ∧ b' < B) := by
    intro i e b' he hb'
    rcases hget i e he with ⟨rfl, rfl⟩ | ⟨hne, h⟩
    · rcases hb' with hb' | hb'
      · simp [g'] at hb'; exact .inl ⟨rfl, hb'.symm⟩
      · exact absurd hb' (hfυ _)
    · have : g.blk i e b' := by
        cases e <;> simp [G.blk, g', hne] at hb' ⊢ <;> exact hb'
      exact .inr ⟨hne, h, this, hw.xs b' (hw.blk i e b' h this)⟩
  refine ⟨g', ⟨fun b o h => by have := hw.pr b o h; show b < w'.heap.size; omega, ?_, ?_, ?_, ?_, ?_, ?_, ?_, ?_, hw.kcE hev⟩, hev, by simp [g', B]⟩
  · intro b h
    show b < w'.heap.size
    rcases h with h | rfl
    · have := hw.xs b h; omega
    · omega
  · intro i e b' he hb'
    rcases hblk i e b' he hb' with ⟨_, rfl⟩ | ⟨_, h1, h2, _⟩
    · exact .inr rfl
    · exact .inl (hw.blk i e b' h1 h2)
  · intro i i' e e' b' he he' hb1 hb2
    rcases hblk i e b' he hb1 with ⟨r1, r2⟩ | ⟨_, h1, h2, h3⟩ <;> rcases hblk i' e' b' he' hb2 with ⟨s1, s2⟩ | ⟨_, h4, h5, h6⟩
    · omega
    · omega
    · omega
    · exact hw.sep i i' e e' b' h1 h4 h2 h5
  · intro i ci hi
    rcases hget i _ hi with ⟨_, he⟩ | ⟨hne, h⟩
    · cases he
    · obtain ⟨b1, arr1, et1, g1, g2, g3, g4, g5⟩ := hw.row i ci h
      have hlt := hw.xs b1 (hw.blk i _ b1 h (by simpa [G.blk] using g1))
      exact ⟨b1, arr1, et1, by rw [hσ' i hne]; exact g1, (hold b1 hlt).trans g2, g3, fun k x v hx hv => (g4 k x v hx hv).mono hev, g5⟩
  · intro i n e s hi
    rcases hget i _ hi with ⟨_, he⟩ | ⟨hne, h⟩
    · cases he
    · obtain ⟨a, cap, g1, g2, g3, g4⟩ := hw.tok i n e s h
      refine ⟨a, cap, g1, g2, g3, fun hlt => ?_⟩
      obtain ⟨b1, arr1, k1, k2, k3, k4⟩ := g4 hlt
      have hlt' := hw.xs b1 (hw.blk i _ b1 h (by simp [G.blk, g1, hlt, k1]))
      exact ⟨b1, arr1, k1, (hold b1 hlt').trans k2, k3, k4⟩
  · intro i l e s hi
    rcases hget i _ hi with ⟨_, he⟩ | ⟨hne, h⟩
    · cases he
    · obtain ⟨a, cap, g1, g2, g3, g4⟩ := hw.lst i l e s h
      refine ⟨a, cap, g1, g2, g3, fun hlt => ?_⟩
      obtain ⟨b1, arr1, k1, k0, k2, k3, k4, k5⟩ := g4 hlt
      have hlt' := hw.xs b1 (hw.blk i _ b1 h (by simp [G.blk, g1, hlt, k1]))
      exact ⟨b1, arr1, k1, by rw [hσ' i hne]; exact k0, (hold b1 hlt').trans k2, k3, k4, fun k x v hx hv => (k5 k x v hx hv).mono hev.pr⟩
  · intro i x hi
    rcases hget i _ hi with ⟨rfl, he⟩ | ⟨hne, h⟩
    · injection he with he; subst he
      exact ⟨B, by simp [g'], hφ g' w' hev hnew, fun o hp => by have := hw.pr B o hp; omega, fun b' o hu => absurd hu (hfυ _)⟩
    · obtain ⟨b1, q1, q2, q3, q4⟩ := hw.ob i x h
      have hlt := hw.xs b1 (hw.blk i _ b1 h (.inl q1))
      exact ⟨b1, by rw [hσ' i hne]; exact q1, x.st hev.w rfl rfl (hold b1 hlt) (fun b' hu => hold b' (hw.xs b' (hw.blk i _ b' h (.inr hu)))) q2, q3, q4⟩
  · intro i hi
    have hne : i ≠ id := by
      rintro rfl
      rcases hi with hi | hi
      · rw [List.getElem?_set_self hidlt] at hi; cases hi
      · simp at hi; omega
    rw [hσ' i hne]
    refine hw.free i ?_
    rcases hi with hi | hi
    · rw [List.getElem?_set_ne (Ne.symm hne)] at hi; exact .inl hi
    · exact .inr (by simpa using hi)
theorem WOK.setOb {g : G} {w w' : World} {id b : Nat} {x0 x1 : OB} (hw : WOK g w H) (hH : H[id]? = some (.ob x0)) (hb : g.σ id = some b)
    (hsame : w'.os = w.os ∧ w'.tape = w.tape ∧ w'.output = w.output) (hsz : w'.heap.size = w.heap.size) (ho : ∀ b', b' ≠ b → w'.heap[b']? = w.heap[b']?)
    (hφ : Evo g w g w' → x1.φ g w' id b) : WOK g w' (H.set id (.ob x1)) ∧ Evo g w g w' := by
  have hidlt : id < H.length := (List.getElem?_eq_some_iff.1 hH).1
  have hX : g.X b := hw.blk id _ b hH (.inl hb)
  obtain ⟨b0, f1, f2, hPr, hPu⟩ := hw.ob id x0 hH
  obtain rfl : b = b0 := by rw [hb] at f1; exact Option.some.inj f1
  have hev : Evo g w g w' := {
    same := hsame
    size := by omega
    pr := fun b' o hp => ⟨hp, by
      have hne : b' ≠ b := fun e => by subst e; exact hPr o hp
      simp [World.cell?, ho b' hne]⟩
    prn := fun b o h => .inl h
    x := fun b h => .inl h
    keep := fun b' _ hx => ho b' (fun e => by subst e; exact hx hX)
    σ := fun _ _ h => h
    τ := fun _ m a cap h => ⟨m, a, cap, h, .inr ⟨rfl, rfl, rfl⟩⟩ }
  have hget : ∀ (i : Nat) e, (H.set id (.ob x1))[i]? = some e → (i = id ∧ e = .ob x1) ∨ (i ≠ id ∧ H[i]? = some e) := by
    intro i e he
    by_cases hi : i = id
    · subst hi; rw [List.getElem?_set_self hidlt] at he; exact .inl ⟨rfl, (Option.some.inj he).symm⟩
    · rw [List.getElem?_set_ne (Ne.symm hi)] at he; exact .inr ⟨hi, he⟩
  have hblk : ∀ (i : Nat) e b', (H.set id (.ob x1))[i]? = some e → g.blk i e b' → ∃ e', H[i]? = some e' ∧ g.blk i e' b' := by
    intro i e b' he hb'
    rcases hget i e he with ⟨rfl, rfl⟩ | ⟨_, h⟩
    · exact ⟨_, hH, hb'⟩
    · exact ⟨e, h, hb'⟩
  refine ⟨⟨fun b o h => by rw [hsz]; exact hw.pr b o h, fun b h => by rw [hsz]; exact hw.xs b h, ?_, ?_, ?_, ?_, ?_, ?_, ?_, hw.kcE hev⟩, hev⟩
  · intro i e b' he hb'
    obtain ⟨e', h1, h2⟩ := hblk i e b' he hb'
    exact hw.blk i e' b' h1 h2
  · intro i i' e e' b' he he' hb1 hb2
    obtain ⟨e1, h1, h2⟩ := hblk i e b' he hb1
    obtain ⟨e3, h3, h4⟩ := hblk i' e' b' he' hb2
    exact hw.sep i i' e1 e3 b' h1 h3 h2 h4
  · intro i ci hi
    rcases hget i _ hi with ⟨_, he⟩ | ⟨hne, h⟩
    · cases he
    · obtain ⟨b1, arr1, et1, g1, g2, g3, g4, g5⟩ := hw.row i ci h
      have hne' : b1 ≠ b := fun e => hne (hw.sep i id _ _ b1 h hH (by simpa [G.blk] using g1) (by rw [e]; exact .inl hb))
      exact ⟨b1, arr1, et1, g1, (ho b1 hne').trans g2, g3, fun k x v hx hv => (g4 k x v hx hv).mono hev, g5⟩
  · intro i n e s hi
    rcases hget i _ hi with ⟨_, he⟩ | ⟨hne, h⟩
    · cases he
    · obtain ⟨a, cap, g1, g2, g3, g4⟩ := hw.tok i n e s h
      refine ⟨a, cap, g1, g2, g3, fun hlt => ?_⟩
      obtain ⟨b1, arr1, k1, k2, k3, k4⟩ := g4 hlt
      have hne' : b1 ≠ b := fun e' => hne (hw.sep i id _ _ b1 h hH (by simp [G.blk, g1, hlt, k1]) (by rw [e']; exact .inl hb))
      exact ⟨b1, arr1, k1, (ho b1 hne').trans k2, k3, k4⟩
  · intro i l e s hi
    rcases hget i _ hi with ⟨_, he⟩ | ⟨hne, h⟩
    · cases he
    · obtain ⟨a, cap, g1, g2, g3, g4⟩ := hw.lst i l e s h
      refine ⟨a, cap, g1, g2, g3, fun hlt => ?_⟩
      obtain ⟨b1, arr1, k1, k0, k2, k3, k4, k5⟩ := g4 hlt
      have hne' : b1 ≠ b := fun e' => hne (hw.sep i id _ _ b1 h hH (by simp [G.blk, g1, hlt, k1]) (by rw [e']; exact .inl hb))
      exact ⟨b1, arr1, k1, k0, (ho b1 hne').trans k2, k3, k4, fun k x v hx hv => (k5 k x v hx hv).mono hev.pr⟩
  · intro i x hi
    rcases hget i _ hi with ⟨rfl, he⟩ | ⟨hne, h⟩
    · injection he with he; subst he
      exact ⟨b, hb, hφ hev, hPr, hPu⟩
    · obtain ⟨b1, q1, q2, q3, q4⟩ := hw.ob i x h
      have hne' : b1 ≠ b := fun e => hne (hw.sep i id _ _ b1 h hH (.inl q1) (by rw [e]; exact .inl hb))
      have hnu : ∀ b', g.υ i b' → b' ≠ b := fun b' hu e => hne (hw.sep i id _ _ b' h hH (.inr hu) (by rw [e]; exact .inl hb))
      exact ⟨b1, q1, x.st hev.w rfl rfl (ho b1 hne') (fun b' hu => ho b' (hnu b' hu)) q2, q3, q4⟩
  · intro i hi
    refine hw.free i ?_
    rcases hi with hi | hi
    · rcases hget i _ hi with ⟨_, he⟩ | ⟨_, h⟩
      · cases he
      · exact .inl h
    · exact .inr (by simpa using hi)
end

/-! ### maps -/
def mfind {κ ν : Type} [DecidableEq κ] : List (κ × ν) → κ → Option Nat
  | [], _ => none
  | x :: m, k => if k = x.1 then some 0 else (mfind m k).map (· + 1)
def mget {κ ν : Type} [DecidableEq κ] (m : List (κ × ν)) (k : κ) : Option ν := (mfind m k).bind fun j => (m[j]?).map (·.2)
def mput {κ ν : Type} [DecidableEq κ] (m : List (κ × ν)) (k : κ) (v : ν) : List (κ × ν) := match mfind m k with
  | some j => m.set j (k, v)
  | none => m ++ [(k, v)]
theorem mfind_lt {κ ν : Type} [DecidableEq κ] {k : κ} : ∀ {m : List (κ × ν)} {j : Nat}, mfind m k = some j → ∃ x, m[j]? = some x ∧ x.1 = k
  | x :: m, j, h => by
    unfold mfind at h
    split at h
    · rename_i e
      injection h with h; subst h
      exact ⟨x, rfl, e.symm⟩
    · cases hm : mfind m k with
      | none => rw [hm] at h; cases h
      | some i =>
        rw [hm] at h
        simp only [Option.map_some, Option.some.injEq] at h
        subst h
        obtain ⟨y, h1, h2⟩ := mfind_lt hm
        exact ⟨y, by simpa using h1, h2⟩

/-- Keys of a map as data. -/
structure KeyF (P : Program) (kt : TypeId) {κ : Type} [DecidableEq κ] (fk : κ → D) (kv : κ → Value) (d : TypeDesc) : Prop where
  ty : P.underlying kt = some d
  isk : ∀ x, MapKept.IsKey d (kv x)
  rep : ∀ {Pr : Nat → Nat → Prop} {w : World} {x : κ} {v : Value}, RepD Pr w (fk x) v → v = kv x
  mkr : ∀ {Pr : Nat → Nat → Prop} {w : World} {x : κ}, RepD Pr w (fk x) (kv x)
  same : ∀ x y, Instr.sameNow d (kv x) (kv y) = some (decide (x = y))
theorem keyInt {P : Program} {kt : TypeId} {k : IntKind} (h : P.underlying kt = some (.int k)) : KeyF P kt (D.int k) (fun n => .int k n) (.int k) where
  ty := h
  isk := fun _ => rfl
  rep := fun h => by cases h; rfl
  mkr := .int _ _
  same := fun x y => by
    simp only [Instr.sameNow, if_pos]
    congr 1

/-- The entries of a map, the first that came first. -/
def MapAt (Pr : Nat → Nat → Prop) (w : World) (b : Nat) (M : List (D × D)) : Prop :=
  ∃ es : Array MapEntry, w.heap[b]? = some (.map es M.length) ∧ es.size = M.length ∧ ∀ (i : Nat) x e, M[i]? = some x → es[i]? = some e → e.born = i ∧ RepD Pr w x.1 e.key ∧ RepD Pr w x.2 e.val
def mpO (M : List (D × D)) : OB where
  φ := fun g w _ b => MapAt g.Pr w b M
  st := fun {g g' w w' _ b} he _ _ hb _ h => by
    obtain ⟨es, h1, h2, h3⟩ := h
    exact ⟨es, hb.trans h1, h2, fun i x e hx hv => by
      obtain ⟨k1, k2, k3⟩ := h3 i x e hx hv
      exact ⟨k1, k2.mono he.pr, k3.mono he.pr⟩⟩
  fr := true
  fre := fun _ {g g' w i j b} hP _ h => by rw [hP]; exact h
theorem obR_mp {S : List Nat} {M : List (D × D)} : ObR S (mpO M) (mpO M) := fun _ h => h

section
variable {P : Program} {ρ : Operand → V} {H : List HE} {ty : TypeId} {κ ν : Type} [DecidableEq κ] {fk : κ → D} {fv : ν → D} {kv : κ → Value} {d : TypeDesc}
theorem Is.mp {x : Operand} {id : Nat} {g : G} {w : World} {r : Operand → Value} (hx : Is (ρ x) (.mp id)) (h : Rep g w (ρ x) (r x)) : ∃ b, g.σ id = some b ∧ r x = .map (some b) := by
  have := hx.rep h
  generalize hr : r x = v at this
  cases this with
  | mp hb => exact ⟨_, hb, rfl⟩
theorem find_map {Pr : Nat → Nat → Prop} {w : World} {kt : TypeId} (hK : KeyF P kt fk kv d) (k : κ) : ∀ (m : List (κ × ν)) (es : List MapEntry) (i : Nat), es.length = m.length →
    (∀ (j : Nat) x e, m[j]? = some x → es[j]? = some e → RepD Pr w (fk x.1) e.key) →
    Instr.findNow d (kv k) es i = some (match mfind m k with | some j => (es[j]?).map fun e => (i + j, e.val) | none => none)
  | [], [], i, _, _ => rfl
  | x :: m, e :: es, i, hl, h => by
    have hk := hK.rep (h 0 x e rfl rfl)
    unfold Instr.findNow mfind
    rw [hk, hK.same]
    by_cases he : k = x.1
    · simp [he]
    · rw [decide_eq_false he, if_neg he]
      have := find_map hK k m es (i + 1) (by simpa using hl) (fun j y e' h1 h2 => h (j + 1) y e' (by simpa using h1) (by simpa using h2))
      simp only [this]
      cases mfind m k with
      | none => rfl
      | some j =>
        simp only [Option.map_some, List.getElem?_cons_succ]
        rw [show i + 1 + j = i + (j + 1) by omega]
theorem run_find {w : World} {kt : TypeId} {es : Array MapEntry} {Pr : Nat → Nat → Prop} {m : List (κ × ν)} (hK : KeyF P kt fk kv d) (k : κ) (h2 : es.size = m.length)
    (h3 : ∀ (i : Nat) x e, (m.map fun q => (fk q.1, fv q.2))[i]? = some x → es[i]? = some e → e.born = i ∧ RepD Pr w x.1 e.key ∧ RepD Pr w x.2 e.val) :
    (Instr.findKey kt (kv k) es.toList).run P w = .ok (match mfind m k with | some j => (es[j]?).map fun e => (j, e.val) | none => none) w := by
  refine MapKept.run_findKey hK.ty ?_
  rw [find_map (Pr := Pr) (w := w) hK k m es.toList 0 (by simpa using h2) (fun j x e h1 h4 => (h3 j (fk x.1, fv x.2) e (by rw [List.getElem?_map, h1]; rfl) (by simpa using h4)).2.1)]
  cases mfind m k with
  | none => rfl
  | some j => simp

theorem op_makeMap {t : TypeId} {n : Nat} (hn : H.length = n) : OpV P (.makeMap t none) ty ρ H (.mp n) (H ++ [.ob (mpO [])]) := by
  subst hn
  intro g w r pos after guard dst hw _
  obtain ⟨g', h1, h2, h3⟩ := hw.addFree.newOb (id := H.length) (x0 := mpO []) (o0 := .map #[] 0) (by simp) (fun g' w' _ h => ⟨#[], h, rfl, fun i x e hx => by simp at hx⟩)
  rw [set_last] at h1
  unfold OpRuns
  simp [execOp, Instr.makeMap]
  exact ⟨g', h1, h2, .mp h3⟩
theorem op_lookup {x y : Operand} {t kt et : TypeId} {id : Nat} {m : List (κ × ν)} {k : κ} {z : ν} {zv : Value} (hK : KeyF P kt fk kv d) (ht : P.underlying t = some (.map kt et)) (hx : Is (ρ x) (.mp id)) (hy : As (ρ y) (fk k))
    (hH : H[id]? = some (.ob (mpO (m.map fun q => (fk q.1, fv q.2))))) (hz : ∃ i, P.info? et = some i ∧ i.zero = some zv) (hzv : ∀ Pr w, RepD Pr w (fv z) zv) :
    OpV P (.lookup t x y false) ty ρ H (.d (fv ((mget m k).getD z))) H :=
  OpV.of_val fun g w r hw h => by
    obtain ⟨b, hb, hr⟩ := hx.mp (h x (by simp [Op.operands]))
    have hk := hK.rep (hy.rep (h y (by simp [Op.operands])))
    obtain ⟨b', f1, ⟨es, e1, e2, e3⟩, f3, _⟩ := hw.ob id _ hH
    obtain rfl : b = b' := by rw [hb] at f1; exact Option.some.inj f1
    obtain ⟨inf, z1, z2⟩ := hz
    have hf := run_find (P := P) (Pr := g.Pr) (w := w) (fv := fv) hK k (by simpa using e2) e3
    simp only [List.length_map] at e1 e2
    have hc : ∀ em, (Instr.checkKey em 10000 kt (kv k)).run P w = .ok () w := fun em => MapKept.run_checkKey hK.ty (hK.isk k) em 9999
    unfold mget
    cases hm : mfind m k with
    | none =>
      rw [hm] at hf
      refine ⟨zv, fun _ _ _ _ => ?_, .d (hzv _ _)⟩
      simp [execOp, hr, hk, Instr.lookup, run_underlying ht, MapKept.run_getObj_map e1, hc, hf, Result.andThen, zeroValue, typeInfo, z1, z2]
    | some j =>
      rw [hm] at hf
      obtain ⟨q, q1, q2⟩ := mfind_lt hm
      have hj : j < es.size := by rw [e2]; exact (List.getElem?_eq_some_iff.1 q1).1
      have he : es[j]? = some es[j] := by simp [hj]
      refine ⟨es[j].val, fun _ _ _ _ => ?_, ?_⟩
      · simp only [he, Option.map_some] at hf
        simp [execOp, hr, hk, Instr.lookup, run_underlying ht, MapKept.run_getObj_map e1, hc, hf, Result.andThen]
      · simp only [Option.bind_some, q1, Option.map_some, Option.getD_some]
        exact .d (e3 j _ _ (by simp [q1]; rfl) he).2.2
theorem op_lookupOk {x y : Operand} {t kt et : TypeId} {id : Nat} {m : List (κ × ν)} {k : κ} {z : ν} {zv : Value} (hK : KeyF P kt fk kv d) (ht : P.underlying t = some (.map kt et)) (hx : Is (ρ x) (.mp id)) (hy : As (ρ y) (fk k))
    (hH : H[id]? = some (.ob (mpO (m.map fun q => (fk q.1, fv q.2))))) (hz : ∃ i, P.info? et = some i ∧ i.zero = some zv) (hzv : ∀ Pr w, RepD Pr w (fv z) zv) :
    OpV P (.lookup t x y true) ty ρ H (.tup [.d (fv ((mget m k).getD z)), .d (.bool (mget m k).isSome)]) H :=
  OpV.of_val fun g w r hw h => by
    obtain ⟨b, hb, hr⟩ := hx.mp (h x (by simp [Op.operands]))
    have hk := hK.rep (hy.rep (h y (by simp [Op.operands])))
    obtain ⟨b', f1, ⟨es, e1, e2, e3⟩, f3, _⟩ := hw.ob id _ hH
    obtain rfl : b = b' := by rw [hb] at f1; exact Option.some.inj f1
    obtain ⟨inf, z1, z2⟩ := hz
    have hf := run_find (P := P) (Pr := g.Pr) (w := w) (fv := fv) hK k (by simpa using e2) e3
    simp only [List.length_map] at e1 e2
    have hc : ∀ em, (Instr.checkKey em 10000 kt (kv k)).run P w = .ok () w := fun em => MapKept.run_checkKey hK.ty (hK.isk k) em 9999
    have two : ∀ {a b : V} {u v : Value}, Rep g w a u → Rep g w b v → Rep g w (.tup [a, b]) (.tuple #[u, v]) := fun ha hb => .tup rfl (fun i x v hx hv => by
      match i, hx, hv with
      | 0, hx, hv => simp at hx hv; subst hx; subst hv; exact ha
      | 1, hx, hv => simp at hx hv; subst hx; subst hv; exact hb
      | i + 2, hx, _ => simp at hx)
    unfold mget
    cases hm : mfind m k with
    | none =>
      rw [hm] at hf
      refine ⟨.tuple #[zv, .bool false], fun _ _ _ _ => ?_, two (.d (hzv _ _)) (.d (.bool _))⟩
      simp [execOp, hr, hk, Instr.lookup, run_underlying ht, MapKept.run_getObj_map e1, hc, hf, Result.andThen, zeroValue, typeInfo, z1, z2]
    | some j =>
      rw [hm] at hf
      obtain ⟨q, q1, q2⟩ := mfind_lt hm
      have hj : j < es.size := by rw [e2]; exact (List.getElem?_eq_some_iff.1 q1).1
      have he : es[j]? = some es[j] := by simp [hj]
      refine ⟨.tuple #[es[j].val, .bool true], fun _ _ _ _ => ?_, two ?_ ?_⟩
      · simp only [he, Option.map_some] at hf
        simp [execOp, hr, hk, Instr.lookup, run_underlying ht, MapKept.run_getObj_map e1, hc, hf, Result.andThen]
      · simp only [Option.bind_some, q1, Option.map_some, Option.getD_some]
        exact .d (e3 j _ _ (by simp [q1]; rfl) he).2.2
      · simp only [Option.bind_some, q1, Option.map_some, Option.isSome_some]
        exact .d (.bool _)
theorem op_mapUpdate {x y u : Operand} {t kt et : TypeId} {id : Nat} {m : List (κ × ν)} {k : κ} {v : ν} (hK : KeyF P kt fk kv d) (ht : P.underlying t = some (.map kt et)) (hx : Is (ρ x) (.mp id)) (hy : As (ρ y) (fk k)) (hu : As (ρ u) (fv v))
    (hH : H[id]? = some (.ob (mpO (m.map fun q => (fk q.1, fv q.2))))) :
    OpV P (.mapUpdate t x y u) ty ρ H .any (H.set id (.ob (mpO ((mput m k v).map fun q => (fk q.1, fv q.2))))) := by
  intro g w r pos after guard dst hw h
  obtain ⟨b, hb, hr⟩ := hx.mp (h x (by simp [Op.operands]))
  have hk := hK.rep (hy.rep (h y (by simp [Op.operands])))
  have hv := hu.rep (h u (by simp [Op.operands]))
  obtain ⟨b', f1, ⟨es, e1, e2, e3⟩, f3, _⟩ := hw.ob id _ hH
  obtain rfl : b = b' := by rw [hb] at f1; exact Option.some.inj f1
  have hf := run_find (P := P) (Pr := g.Pr) (w := w) (fv := fv) hK k (by simpa using e2) e3
  simp only [List.length_map] at e1 e2
  have hc : (Instr.checkKey false 10000 kt (kv k)).run P w = .ok () w := MapKept.run_checkKey hK.ty (hK.isk k) false 9999
  have hst : (Instr.keyThatStays (kv k) (kv k)).run P w = .ok (kv k) w := MapKept.run_keyThatStays (hK.isk k)
  have hbl : b < w.heap.size := (Array.getElem?_eq_some_iff.1 e1).1
  have fin : ∀ o', (mpO ((mput m k v).map fun q => (fk q.1, fv q.2))).φ g { w with heap := w.heap.setIfInBounds b o' } id b →
      ∃ g', WOK g' { w with heap := w.heap.setIfInBounds b o' } (H.set id (.ob (mpO ((mput m k v).map fun q => (fk q.1, fv q.2))))) ∧ Evo g w g' { w with heap := w.heap.setIfInBounds b o' } ∧ Rep g' { w with heap := w.heap.setIfInBounds b o' } .any undef := fun o' hφ => by
    obtain ⟨k1, k2⟩ := hw.setOb (w' := { w with heap := w.heap.setIfInBounds b o' }) hH hb ⟨rfl, rfl, rfl⟩ (by simp) (fun b' hne => by
      show (w.heap.setIfInBounds b o')[b']? = _
      rw [Array.getElem?_setIfInBounds_ne (Ne.symm hne)]) (fun _ => hφ)
    exact ⟨g, k1, k2, .any⟩
  have hev : ∀ o', ∀ b' o, g.Pr b' o → g.Pr b' o ∧ World.cell? { w with heap := w.heap.setIfInBounds b o' } ⟨b', o, none⟩ = w.cell? ⟨b', o, none⟩ := fun o' b' o hp => ⟨hp, by
    have hne : b' ≠ b := fun e => by subst e; exact f3 o hp
    simp [World.cell?, Array.getElem?_setIfInBounds_ne (Ne.symm hne)]⟩
  unfold OpRuns
  cases hm : mfind m k with
  | none =>
    rw [hm] at hf
    simp [execOp, hr, hk, Instr.mapUpdate, run_underlying ht, MapKept.run_getObj_map e1, hc, hf, Result.andThen, MapKept.run_setObj_map _ e1]
    refine fin _ ⟨es.push ⟨kv k, r u, m.length⟩, ?_, ?_, ?_⟩
    · simp [mput, hm, hbl]
    · simp [mput, hm, e2]
    · intro i x e hx he
      simp only [mput, hm, List.map_append, List.map_cons, List.map_nil] at hx
      by_cases hi : i < m.length
      · rw [List.getElem?_append_left (by simpa using hi)] at hx
        rw [Array.getElem?_push, if_neg (by omega)] at he
        obtain ⟨q1, q2, q3⟩ := e3 i x e hx he
        exact ⟨q1, q2.mono (hev _), q3.mono (hev _)⟩
      · rw [List.getElem?_append_right (by simpa using hi)] at hx
        have hi0 : i - m.length = 0 := by
          have := (List.getElem?_eq_some_iff.1 hx).1
          simp at this; omega
        have : i = m.length := by omega
        subst this
        simp only [List.length_map, Nat.sub_self, List.getElem?_cons_zero, Option.some.injEq] at hx
        subst hx
        rw [Array.getElem?_push, if_pos e2.symm] at he
        injection he with he; subst he
        exact ⟨rfl, hK.mkr, hv.mono (hev _)⟩
  | some j =>
    rw [hm] at hf
    obtain ⟨q, q1, q2⟩ := mfind_lt hm
    have hj : j < es.size := by rw [e2]; exact (List.getElem?_eq_some_iff.1 q1).1
    have hje : es[j]? = some es[j] := by simp [hj]
    have hjk : es[j].key = kv k := by
      have := hK.rep (e3 j _ _ (by simp [q1]; rfl) hje).2.1
      rw [this, q2]
    simp only [hje, Option.map_some] at hf
    simp [execOp, hr, hk, Instr.mapUpdate, run_underlying ht, MapKept.run_getObj_map e1, hc, hf, Result.andThen, MapKept.run_setObj_map _ e1, hje, hjk, hst]
    refine fin _ ⟨es.modify j fun e => { e with key := kv k, val := r u }, ?_, ?_, ?_⟩
    · simp [mput, hm, hbl]
    · simp [mput, hm, e2]
    · intro i x e hx he
      simp only [mput, hm, List.map_set] at hx
      rw [Array.getElem?_modify] at he
      by_cases hij : j = i
      · subst hij
        rw [if_pos rfl, hje] at he
        rw [List.getElem?_set_self (by simpa [e2] using hj)] at hx
        injection hx with hx; subst hx
        simp only [Option.map_some, Option.some.injEq] at he
        subst he
        exact ⟨(e3 j _ _ (by simp [q1]; rfl) hje).1, hK.mkr, hv.mono (hev _)⟩
      · rw [if_neg hij] at he
        rw [List.getElem?_set_ne hij] at hx
        obtain ⟨q1, q2, q3⟩ := e3 i x e hx he
        exact ⟨q1, q2.mono (hev _), q3.mono (hev _)⟩
end
end Go.Proofs.Ytkfffaoopcnaoaa.Ab
