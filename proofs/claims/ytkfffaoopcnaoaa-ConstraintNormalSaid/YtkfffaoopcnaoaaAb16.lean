/- Lists that are given up to be data, and lists that are lent to a call. Conditions: none. -/
import Derived.Test.YtkfffaoopcnaoaaAb15
namespace Go.Proofs.Ytkfffaoopcnaoaa.Ab
open Go

/-- The block of a list is read from now on, and not written. -/
theorem WOK.freeze {g : G} {w : World} {H : List HE} {id s : Nat} {l : List D} {e : TypeId} (hw : WOK g w H) (hH : H[id]? = some (.lst l e s)) (hs : ∀ x ∈ l, x.cells.length = s) :
    ∃ g', WOK g' w (H.set id .dead) ∧ Evo g w g' w ∧ (∀ i, g'.τ i = g.τ i) ∧ (∀ a cap, g.τ id = some (0, a, cap) → RepD g'.Pr w (.sl l) (.slice a l.length cap)) := by
  have hidlt : id < H.length := (List.getElem?_eq_some_iff.1 hH).1
  obtain ⟨a0, cap0, f1, f2, f3, f4⟩ := hw.lst id l e s hH
  let g' : G := { σ := g.σ, τ := g.τ, υ := g.υ, X := g.X, Pr := fun b o => g.Pr b o ∨ (0 < cap0 ∧ g.blk id (.lst l e s) b ∧ o < l.length * s) }
  have hXb : ∀ b, g.blk id (.lst l e s) b → g.X b := fun b hb => hw.blk id _ b hH hb
  have hev : Evo g w g' w := {
    same := ⟨rfl, rfl, rfl⟩
    size := Nat.le_refl _
    pr := fun b o hp => ⟨.inl hp, rfl⟩
    prn := fun b o h => by
      rcases h with h | ⟨_, h, _⟩
      · exact .inl h
      · exact .inr (.inl (hXb b h))
    x := fun b h => .inl h
    keep := fun b _ _ => rfl
    σ := fun _ _ h => h
    τ := fun _ m a cap h => ⟨m, a, cap, h, .inr ⟨rfl, rfl, rfl⟩⟩ }
  have hget : ∀ (i : Nat) e, (H.set id .dead)[i]? = some e → (i = id ∧ e = .dead) ∨ (i ≠ id ∧ H[i]? = some e) := by
    intro i e he
    by_cases hi : i = id
    · subst hi; rw [List.getElem?_set_self hidlt] at he; exact .inl ⟨rfl, (Option.some.inj he).symm⟩
    · rw [List.getElem?_set_ne (Ne.symm hi)] at he; exact .inr ⟨hi, he⟩
  have hne : ∀ (i : Nat) x b, i ≠ id → H[i]? = some x → g.blk i x b → ¬ g.blk id (.lst l e s) b := fun i x b hi hx hb hc => hi (hw.sep i id _ _ b hx hH hb hc)
  refine ⟨g', ⟨?_, hw.xs, ?_, ?_, ?_, ?_, ?_, ?_, ?_, hw.kcE hev⟩, hev, fun _ => rfl, ?_⟩
  · intro b o h
    rcases h with h | ⟨_, h, _⟩
    · exact hw.pr b o h
    · exact hw.xs b (hXb b h)
  · intro i x b he hb
    rcases hget i x he with ⟨rfl, rfl⟩ | ⟨hi, h⟩
    · simp [G.blk] at hb
    · exact hw.blk i x b h (by cases x <;> exact hb)
  · intro i i' x x' b he he' hb hb'
    rcases hget i x he with ⟨rfl, rfl⟩ | ⟨hi, h⟩
    · simp [G.blk] at hb
    · rcases hget i' x' he' with ⟨rfl, rfl⟩ | ⟨hi', h'⟩
      · simp [G.blk] at hb'
      · exact hw.sep i i' x x' b h h' (by cases x <;> exact hb) (by cases x' <;> exact hb')
  · intro i c he
    rcases hget i _ he with ⟨_, h⟩ | ⟨hi, h⟩
    · cases h
    · obtain ⟨b1, arr1, et1, g1, g2, g3, g4, g5⟩ := hw.row i c h
      refine ⟨b1, arr1, et1, g1, g2, g3, fun k x v hx hv => (g4 k x v hx hv).mono hev, fun o hp => ?_⟩
      rcases hp with hp | ⟨_, hp, _⟩
      · exact g5 o hp
      · exact hne i _ b1 hi h g1 hp
  · intro i n e1 s1 he
    rcases hget i _ he with ⟨_, h⟩ | ⟨hi, h⟩
    · cases h
    · obtain ⟨a, cap, g1, g2, g3, g4⟩ := hw.tok i n e1 s1 h
      refine ⟨a, cap, g1, g2, g3, fun hlt => ?_⟩
      obtain ⟨b1, arr1, k1, k2, k3, k4⟩ := g4 hlt
      refine ⟨b1, arr1, k1, k2, k3, fun o hp => ?_⟩
      rcases hp with hp | ⟨_, hp, _⟩
      · exact k4 o hp
      · exact absurd hp (hne i _ b1 hi h (by simp [G.blk, g1, hlt, k1]))
  · intro i l1 e1 s1 he
    rcases hget i _ he with ⟨_, h⟩ | ⟨hi, h⟩
    · cases h
    · obtain ⟨a, cap, g1, g2, g3, g4⟩ := hw.lst i l1 e1 s1 h
      refine ⟨a, cap, g1, g2, g3, fun hlt => ?_⟩
      obtain ⟨b1, arr1, k1, k0, k2, k3, k4, k5⟩ := g4 hlt
      refine ⟨b1, arr1, k1, k0, k2, k3, fun o hp => ?_, fun k x v hx hv => (k5 k x v hx hv).mono hev.pr⟩
      rcases hp with hp | ⟨_, hp, _⟩
      · exact k4 o hp
      · exact absurd hp (hne i _ b1 hi h (by simp [G.blk, g1, hlt, k1]))
  · intro i x he
    rcases hget i _ he with ⟨_, h⟩ | ⟨hi, h⟩
    · cases h
    · obtain ⟨b1, q1, q2, q3, q4⟩ := hw.ob i x h
      refine ⟨b1, q1, x.st hev.w rfl rfl rfl (fun _ _ => rfl) q2, fun o hp => ?_, fun b' o hu hp => ?_⟩
      · rcases hp with hp | ⟨_, hp, _⟩
        · exact q3 o hp
        · exact hne i _ b1 hi h (.inl q1) hp
      · rcases hp with hp | ⟨_, hp, _⟩
        · exact q4 b' o hu hp
        · exact hne i _ b' hi h (.inr hu) hp
  · intro i hi
    have hne : i ≠ id := by
      rintro rfl
      rcases hi with hi | hi
      · rw [List.getElem?_set_self hidlt] at hi; cases hi
      · simp at hi; omega
    refine hw.free i ?_
    rcases hi with hi | hi
    · rw [List.getElem?_set_ne (Ne.symm hne)] at hi; exact .inl hi
    · exact .inr (by simpa using hi)
  · intro a cap ht
    rw [f1] at ht; injection ht with ht; injection ht with _ ht; injection ht with h1 h2
    subst h1; subst h2
    refine .sl l a0 cap0 s (fun k => match a0 with | some ad => (w.cell? ⟨ad.block, k, none⟩).getD undef | none => undef) hs f2 (fun hnil => ?_) (fun k x hx => ?_)
    · have hlpos : 0 < l.length := List.length_pos_iff.2 hnil
      have hc : 0 < cap0 := by omega
      obtain ⟨b, arr, rfl, q0, q2, q3, q4, q5⟩ := f4 hc
      refine ⟨b, 0, rfl, fun k hk => ⟨.inr ⟨hc, by simp [G.blk, f1, hc], by omega⟩, ?_⟩⟩
      have hka : k < arr.size := by
        rw [q3]; exact Nat.lt_of_lt_of_le hk (Nat.mul_le_mul_right _ f2)
      simp only [Nat.zero_add, cell_of_cells q2]
      simp [hka]
    · have hfl := flat_length hs
      have hkl : k < l.length * s := by rw [← hfl]; exact (List.getElem?_eq_some_iff.1 hx).1
      have hc : 0 < cap0 := by
        rcases Nat.eq_zero_or_pos cap0 with h | h
        · have : l.length = 0 := by omega
          rw [this] at hkl; simp at hkl
        · exact h
      obtain ⟨b, arr, rfl, q0, q2, q3, q4, q5⟩ := f4 hc
      have hka : k < arr.size := by
        rw [q3]; exact Nat.lt_of_lt_of_le hkl (Nat.mul_le_mul_right _ f2)
      simp only [cell_of_cells q2]
      have : arr[k]? = some arr[k] := by simp [hka]
      rw [this]
      exact (q5 k x _ hx this).mono hev.pr

def setE (E : Nat → V) : List Nat → V → Nat → V
  | [], _ => E
  | t :: ts, v => upd (setE E ts v) t v
def SameE (E : Nat → V) (v : V) : List Nat → Prop
  | [] => True
  | t :: ts => E t = v ∧ SameE E v ts
theorem setE_rep {g : G} {w : World} {E : Nat → V} {v u : V} {i : Nat} {r : Value} (hr : Rep g w (E i) r) (huv : Rep g w u r → Rep g w v r) : ∀ {ts : List Nat}, SameE E u ts → Rep g w (setE E ts v i) r
  | [], _ => hr
  | t :: ts, h => by
    simp only [setE]
    by_cases hi : i = t
    · subst hi
      rw [upd_same]
      rw [h.1] at hr
      exact huv hr
    · rw [upd_ne _ _ hi]; exact setE_rep hr huv h.2

theorem AW.freeze {F : FC} {Q : Exit → St → Prop} {c : Code} {E : Nat → V} {H : List HE} {α : Type} {f : α → D} {l : List α} {e : TypeId} {s len : Nat} (id : Nat) (ts : List Nat) (hH : H[id]? = some (.lst (l.map f) e s)) (hl : l.length = len) (hf : En f s)
    (hE : SameE E (.hs id 0 len s) ts) (h : AW F c Q ⟨setE E ts (.d (.sl (l.map f))), H.set id .dead⟩) : AW F c Q ⟨E, H⟩ := by
  rintro a w ⟨h1, h2, g, h3, h4, h5⟩
  obtain ⟨a0, cap0, k1, k2, _⟩ := h3.lst id _ _ _ hH
  obtain ⟨g', w1, w2, w3, w4⟩ := h3.freeze hH (hf.szL l)
  refine h a w ⟨h1, h2, g', w1, h4.trans w2, fun i => setE_rep ((h5 i).mono w2) (fun hr => ?_) hE⟩
  generalize a.tmps.getD i undef = r at hr
  cases hr with
  | @hs _ _ _ _ m cap' n0 c0 a' a0' p1 p2 =>
    rw [w3, k1] at p1; injection p1 with p1; injection p1 with p1 p3; injection p3 with p3 p4
    obtain ⟨r1, r2, r3, _⟩ := hs0 (p2 p1.symm)
    have := w4 a0 cap0 k1
    subst r1; subst r3; subst p3; subst p4
    rw [r2, ← hl]
    simp only [List.length_map] at this
    exact .d this

/-- Plain results: nothing in memory. -/
def D.flatOk : D → Bool
  | .int _ _ | .bool _ | .str _ => true
  | .tup l => l.all fun x => match x with | .int _ _ | .bool _ | .str _ => true | _ => false
  | _ => false
theorem RepD.plain {Pr Pr' : Nat → Nat → Prop} {w w' : World} {x : D} {r : Value} (hx : x.flatOk = true) (h : RepD Pr w x r) : RepD Pr' w' x r := by
  cases h with
  | bool b => exact .bool b
  | int k n => exact .int k n
  | str s => exact .str s
  | raw => exact .raw _
  | agg l arr hs hr => simp [D.flatOk] at hx
  | sl => simp [D.flatOk] at hx
  | tup l arr hs hr =>
    refine .tup l arr hs (fun i y v hy hv => ?_)
    have := List.all_eq_true.1 hx y (List.mem_of_getElem? hy)
    have h2 := hr i y v hy hv
    cases h2 <;> simp at this
    · exact .bool _
    · exact .int _ _
    · exact .str _

/-- Arguments of a call: data, or lists that are lent to it. -/
inductive ArgsM (ρ : Operand → V) (H : List HE) (ids : List Nat) : List Operand → List D → Prop
  | nil : ArgsM ρ H ids [] []
  | d {x : Operand} {d : D} {xs : List Operand} {ds : List D} : As (ρ x) d → ArgsM ρ H ids xs ds → ArgsM ρ H ids (x :: xs) (d :: ds)
  | l {x : Operand} {α : Type} {f : α → D} {l : List α} {id len s : Nat} {e : TypeId} {xs : List Operand} {ds : List D} : Is (ρ x) (.hs id 0 len s) → H[id]? = some (.lst (l.map f) e s) → l.length = len → En f s → inB ids id = true →
      ArgsM ρ H ids xs ds → ArgsM ρ H ids (x :: xs) (.sl (l.map f) :: ds)

theorem ArgsM.get {ρ : Operand → V} {H : List HE} {ids : List Nat} {xs : List Operand} {ds : List D} (h : ArgsM ρ H ids xs ds) : xs.length = ds.length ∧ ∀ (i : Nat) d, ds[i]? = some d → ∃ x, xs[i]? = some x ∧
    (As (ρ x) d ∨ ∃ (l : List D) (id len s : Nat) (e : TypeId), Is (ρ x) (.hs id 0 len s) ∧ H[id]? = some (.lst l e s) ∧ l.length = len ∧ (∀ x ∈ l, x.cells.length = s) ∧ id ∈ ids ∧ d = .sl l) := by
  induction h with
  | nil => simp
  | d ha _ ih =>
    refine ⟨by simp [ih.1], fun i d hd => ?_⟩
    cases i with
    | zero => simp only [List.getElem?_cons_zero, Option.some.injEq] at hd; subst hd; exact ⟨_, rfl, .inl ha⟩
    | succ i => exact ih.2 i d (by simpa using hd)
  | l h1 h2 h3 h4 h5 _ ih =>
    refine ⟨by simp [ih.1], fun i d hd => ?_⟩
    cases i with
    | zero => simp only [List.getElem?_cons_zero, Option.some.injEq] at hd; subst hd; exact ⟨_, rfl, .inr ⟨_, _, _, _, _, h1, h2, by simpa using h3, h4.szL _, inB_mem.1 h5, rfl⟩⟩
    | succ i => exact ih.2 i d (by simpa using hd)

section
variable {P : Program} {ρ : Operand → V} {H : List HE} {ty : TypeId}
end
end Go.Proofs.Ytkfffaoopcnaoaa.Ab
