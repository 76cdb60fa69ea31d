/- Maps and texts in terms of plain lists, arrays with indexes that are reckoned, rows that are given up to be data, closures that read. strings.Join in the plain language. strconv.Itoa in the plain language. Conditions: none. -/
import Derived.Test.YtindppnanjcoaaaGreatDoorAb28
import Derived.Below
import Derived.Lib.Join
import Derived.Lib.ItoaNum
section
namespace Go.Proofs.YtindppnanjcoaaaGreatDoor.Ab
open Go Go.RowKit

section
variable {P : Program} {ρ : Operand → V} {H : List HE} {ty : TypeId}
end

/-! ### cells of arrays -/
def AtD (X : List D) (n s : Nat) (c : List D) : Prop := (X.drop n).take s = c ∧ c.length = s ∧ n + s ≤ X.length
def PutD (X : List D) (n s : Nat) (c X' : List D) : Prop := c.length = s ∧ X' = X.take n ++ c ++ X.drop (n + s)
theorem AtD.root {X : List D} : AtD X 0 X.length X := ⟨by simp, rfl, by simp⟩
theorem PutD.root {X X' : List D} (h : X'.length = X.length) : PutD X 0 X.length X' X' := ⟨h, by simp⟩
theorem flat_cons {x : D} {l : List D} : D.flat (x :: l) = x.cells ++ D.flat l := by simp [D.flat]
theorem flat_at {α : Type} {f : α → D} {s : Nat} (hf : En f s) : ∀ {l : List α} {i : Nat} {y : α}, l[i]? = some y → ((D.flat (l.map f)).drop (i * s)).take s = (f y).cells ∧ i * s + s ≤ (D.flat (l.map f)).length
  | a :: l, 0, y, h => by
    simp only [List.getElem?_cons_zero, Option.some.injEq] at h
    subst h
    have := hf.sz a
    rw [List.map_cons, flat_cons, Nat.zero_mul, List.drop_zero]
    refine ⟨by rw [← this, List.take_left'] ; rfl, by rw [List.length_append]; omega⟩
  | a :: l, i + 1, y, h => by
    have ih := flat_at hf (l := l) (i := i) (y := y) (by simpa using h)
    rw [List.map_cons, flat_cons]
    have hs := hf.sz a
    have e : (i + 1) * s = (f a).cells.length + i * s := by rw [hs, Nat.succ_mul, Nat.add_comm]
    rw [e, ← List.drop_drop, List.drop_left]
    exact ⟨ih.1, by rw [List.length_append]; omega⟩
theorem flat_put {α : Type} {f : α → D} {s : Nat} (hf : En f s) : ∀ {l : List α} {i : Nat} {y : α}, i < l.length → D.flat ((l.set i y).map f) = (D.flat (l.map f)).take (i * s) ++ (f y).cells ++ (D.flat (l.map f)).drop (i * s + s)
  | a :: l, 0, y, _ => by
    have := hf.sz a
    rw [List.set_cons_zero, List.map_cons, List.map_cons, flat_cons, flat_cons, Nat.zero_mul, List.take_zero, Nat.zero_add, List.nil_append, ← this, List.drop_left]
  | a :: l, i + 1, y, h => by
    have hil : i < l.length := by simpa using h
    have ih := flat_put hf (l := l) (i := i) (y := y) hil
    have hs := hf.sz a
    rw [List.set_cons_succ, List.map_cons, List.map_cons, flat_cons, flat_cons, ih]
    have e : (i + 1) * s = (f a).cells.length + i * s := by rw [hs, Nat.succ_mul, Nat.add_comm]
    have t1 : ∀ (L : List D) (k : Nat), ((f a).cells ++ L).take ((f a).cells.length + k) = (f a).cells ++ L.take k := fun L k => by rw [List.take_append, List.take_of_length_le (Nat.le_add_right _ _), Nat.add_sub_cancel_left]
    have t2 : ∀ (L : List D) (k : Nat), ((f a).cells ++ L).drop ((f a).cells.length + k) = L.drop k := fun L k => by rw [← List.drop_drop, List.drop_left]
    rw [e, t1, Nat.add_assoc, t2]
    simp only [List.append_assoc]
theorem AtD.ix {α : Type} {f : α → D} {X : List D} {n m s : Nat} {l : List α} {k : Int} {y : α} (hf : En f s) (h : AtD X n m (D.flat (l.map f))) (hv : ix l k = some y) : AtD X (n + k.toNat * s) s (f y).cells := by
  obtain ⟨h0, h1, h2⟩ := ix_inv hv
  obtain ⟨k1, k2⟩ := flat_at hf h1
  obtain ⟨q1, q2, q3⟩ := h
  rw [q2] at k2
  refine ⟨?_, hf.sz y, by omega⟩
  rw [← k1, ← q1, ← List.drop_drop, List.drop_take, List.take_take, Nat.min_eq_left (by omega)]
theorem PutD.ix {α : Type} {f : α → D} {X X' : List D} {n m s : Nat} {l l' : List α} {k : Int} {y : α} (hf : En f s) (h : AtD X n m (D.flat (l.map f))) (hp : PutD X n m (D.flat (l'.map f)) X') (hv : setI l k y = some l') : PutD X (n + k.toNat * s) s (f y).cells X' := by
  unfold setI at hv
  split at hv
  · rename_i hh
    injection hv with hv; subst hv
    obtain ⟨_, hx⟩ := hp
    obtain ⟨q1, q2, q3⟩ := h
    refine ⟨hf.sz y, ?_⟩
    have hlen : k.toNat * s + s ≤ m := by
      rw [← q2]
      exact (flat_at hf (List.getElem?_eq_getElem hh.2)).2
    rw [hx, flat_put hf hh.2, ← q1]
    have e1 : X.take (n + k.toNat * s) = X.take n ++ ((X.drop n).take m).take (k.toNat * s) := by
      rw [List.take_take, Nat.min_eq_left (by omega), List.take_add]
    have e2 : X.drop (n + k.toNat * s + s) = ((X.drop n).take m).drop (k.toNat * s + s) ++ X.drop (n + m) := by
      rw [List.drop_take, List.drop_drop, ← Nat.add_assoc]
      conv => lhs; rw [← List.take_append_drop (m - (k.toNat * s + s)) (X.drop (n + k.toNat * s + s))]
      rw [List.drop_drop]
      congr 2; omega
    rw [e1, e2]
    simp [List.append_assoc]
  · cases hv

section
variable {P : Program} {ρ : Operand → V} {H : List HE} {ty : TypeId}
theorem op_indexA {α : Type} {l : List α} {v : α} {x y : Operand} {t n e s id off : Nat} {k : IntKind} {a : Int} (hx : Is (ρ x) (.ptr id off)) (hy : As (ρ y) (.int k a)) (hv : ix l a = some v) (hl : l.length = n) (hu : P.underlying t = some (.array n e)) (hi : ∃ i, P.info? e = some i ∧ i.size = s) :
    OpV P (.indexAddr t x y) ty ρ H (.ptr id (off + a.toNat * s)) H := op_indexAddr_dyn hx hy hv hl hu hi
theorem op_loadAt1 {x : Operand} {t id n : Nat} {X : List D} {y : D} (hx : Is (ρ x) (.ptr id n)) (hH : H[id]? = some (.row (X.map .d))) (ha : AtD X n 1 [y]) (ht : Sc P t) : OpV P (.load t x) ty ρ H (.d y) H := by
  refine op_load_ptr1 hx hH ?_ ht
  obtain ⟨h1, _, _⟩ := ha
  have : ((X.drop n).take 1)[0]? = some y := by rw [h1]; rfl
  rw [List.getElem?_take, if_pos (by omega), List.getElem?_drop, Nat.add_zero] at this
  rw [List.getElem?_map, this]; rfl
theorem op_loadAtA {x : Operand} {t id n s : Nat} {X c : List D} (hx : Is (ρ x) (.ptr id n)) (hH : H[id]? = some (.row (X.map .d))) (ha : AtD X n s c) (ht : Ag P t s) : OpV P (.load t x) ty ρ H (.d (.agg c)) H := by
  obtain ⟨h1, h2, _⟩ := ha
  have h := op_load_ptrA (P := P) (ty := ty) (n := s) (cs := c.map .d) hx hH (by rw [← List.map_drop, ← List.map_take, h1]) (by simpa using h2) ht
  refine h.asD ?_
  have key : ∀ l : List D, optAll ((l.map V.d).map V.asD1) = some l := by
    intro l
    induction l with
    | nil => rfl
    | cons a l ih => simp only [List.map_cons, optAll, V.asD1, ih, Option.map_some]
  simp only [V.asD, V.asD2, key]
  rfl
theorem op_storeAt {x y : Operand} {t id n s : Nat} {X X' c c0 : List D} {u : V} (hx : Is (ρ x) (.ptr id n)) (hy : Is (ρ y) u) (hH : H[id]? = some (.row (X.map .d))) (ha : AtD X n s c0) (hp : PutD X n s c X') (hv : u.cs = c.map V.d) (h1 : (c.map V.d).all V.one = true) (hsz : ∃ i, P.info? t = some i ∧ i.size = s) :
    OpV P (.store t x y) ty ρ H .any (H.set id (.row (X'.map .d))) := by
  obtain ⟨p1, p2⟩ := hp
  obtain ⟨_, _, a3⟩ := ha
  have h := op_store (P := P) (ty := ty) (n := s) hx hy hH hv h1 hsz (by simpa using p1) (by simpa using a3)
  rw [splice_eq] at h
  rw [p2]
  simpa [← List.map_take, ← List.map_drop, p1] using h
end

/-! ### rows that are given up to be data -/
theorem WOK.freezeRow {g : G} {w : World} {H : List HE} {id : Nat} {c : List D} (hw : WOK g w H) (hH : H[id]? = some (.row (c.map .d))) :
    ∃ g', WOK g' w (H.set id .dead) ∧ Evo g w g' w ∧ (∀ i, g'.σ i = g.σ i) ∧ (∀ b, g.σ id = some b → ∃ f : Nat → Value, (∀ k, k < c.length → g'.Pr b (0 + k) ∧ w.cell? ⟨b, 0 + k, none⟩ = some (f k)) ∧ (∀ (k : Nat) x, c[k]? = some x → RepD g'.Pr w x (f k))) := by
  have hidlt : id < H.length := (List.getElem?_eq_some_iff.1 hH).1
  obtain ⟨b0, arr, et, f1, f2, f3, f4, f5⟩ := hw.row id _ hH
  let g' : G := { σ := g.σ, τ := g.τ, υ := g.υ, X := g.X, Pr := fun b o => g.Pr b o ∨ (b = b0 ∧ o < c.length) }
  have hX0 : g.X b0 := hw.blk id _ b0 hH f1
  have hev : Evo g w g' w := {
    same := ⟨rfl, rfl, rfl⟩
    size := Nat.le_refl _
    pr := fun b o hp => ⟨.inl hp, rfl⟩
    prn := fun b o h => by
      rcases h with h | ⟨rfl, _⟩
      · exact .inl h
      · exact .inr (.inl hX0)
    x := fun b h => .inl h
    keep := fun b _ _ => rfl
    σ := fun _ _ h => h
    τ := fun _ m a cap h => ⟨m, a, cap, h, .inr ⟨rfl, rfl, rfl⟩⟩ }
  have hget : ∀ (i : Nat) e, (H.set id .dead)[i]? = some e → (i = id ∧ e = .dead) ∨ (i ≠ id ∧ H[i]? = some e) := by
    intro i e he
    by_cases hi : i = id
    · subst hi; rw [List.getElem?_set_self hidlt] at he; exact .inl ⟨rfl, (Option.some.inj he).symm⟩
    · rw [List.getElem?_set_ne (Ne.symm hi)] at he; exact .inr ⟨hi, he⟩
  have hne : ∀ (i : Nat) x b, i ≠ id → H[i]? = some x → g.blk i x b → b ≠ b0 := fun i x b hi hx hb hc => hi (hw.sep i id _ _ b hx hH hb (by rw [hc]; exact f1))
  refine ⟨g', ⟨?_, hw.xs, ?_, ?_, ?_, ?_, ?_, ?_, ?_, hw.kcE hev⟩, hev, fun _ => rfl, ?_⟩
  · intro b o h
    rcases h with h | ⟨rfl, _⟩
    · exact hw.pr b o h
    · exact hw.xs b hX0
  · intro i x b he hb
    rcases hget i x he with ⟨rfl, rfl⟩ | ⟨hi, h⟩
    · simp [G.blk] at hb
    · exact hw.blk i x b h (by cases x <;> exact hb)
  · intro i i' x x' b he he' hb hb'
    rcases hget i x he with ⟨rfl, rfl⟩ | ⟨hi, h⟩
    · simp [G.blk] at hb
    · rcases hget i' x' he' with ⟨rfl, rfl⟩ | ⟨hi', h'⟩
      · simp [G.blk] at hb'
      · exact hw.sep i i' x x' b h h' (by cases x <;> exact hb) (by cases x' <;> exact hb')
  · intro i d he
    rcases hget i _ he with ⟨_, h⟩ | ⟨hi, h⟩
    · cases h
    · obtain ⟨b1, arr1, et1, g1, g2, g3, g4, g5⟩ := hw.row i d h
      refine ⟨b1, arr1, et1, g1, g2, g3, fun k x v hx hv => (g4 k x v hx hv).mono hev, fun o hp => ?_⟩
      rcases hp with hp | ⟨hp, _⟩
      · exact g5 o hp
      · exact hne i _ b1 hi h g1 hp
  · intro i n e1 s1 he
    rcases hget i _ he with ⟨_, h⟩ | ⟨hi, h⟩
    · cases h
    · obtain ⟨a, cap, g1, g2, g3, g4⟩ := hw.tok i n e1 s1 h
      refine ⟨a, cap, g1, g2, g3, fun hlt => ?_⟩
      obtain ⟨b1, arr1, k1, k2, k3, k4⟩ := g4 hlt
      refine ⟨b1, arr1, k1, k2, k3, fun o hp => ?_⟩
      rcases hp with hp | ⟨hp, _⟩
      · exact k4 o hp
      · exact absurd hp (hne i _ b1 hi h (by simp [G.blk, g1, hlt, k1]))
  · intro i l1 e1 s1 he
    rcases hget i _ he with ⟨_, h⟩ | ⟨hi, h⟩
    · cases h
    · obtain ⟨a, cap, g1, g2, g3, g4⟩ := hw.lst i l1 e1 s1 h
      refine ⟨a, cap, g1, g2, g3, fun hlt => ?_⟩
      obtain ⟨b1, arr1, k1, k0, k2, k3, k4, k5⟩ := g4 hlt
      refine ⟨b1, arr1, k1, k0, k2, k3, fun o hp => ?_, fun k x v hx hv => (k5 k x v hx hv).mono hev.pr⟩
      rcases hp with hp | ⟨hp, _⟩
      · exact k4 o hp
      · exact absurd hp (hne i _ b1 hi h (by simp [G.blk, g1, hlt, k1]))
  · intro i x he
    rcases hget i _ he with ⟨_, h⟩ | ⟨hi, h⟩
    · cases h
    · obtain ⟨b1, q1, q2, q3, q4⟩ := hw.ob i x h
      refine ⟨b1, q1, x.st hev.w rfl rfl rfl (fun _ _ => rfl) q2, fun o hp => ?_, fun b' o hu hp => ?_⟩
      · rcases hp with hp | ⟨hp, _⟩
        · exact q3 o hp
        · exact hne i _ b1 hi h (.inl q1) hp
      · rcases hp with hp | ⟨hp, _⟩
        · exact q4 b' o hu hp
        · exact hne i _ b' hi h (.inr hu) hp
  · intro i hi
    have hne : i ≠ id := by
      rintro rfl
      rcases hi with hi | hi
      · rw [List.getElem?_set_self hidlt] at hi; cases hi
      · simp at hi; omega
    refine hw.free i ?_
    rcases hi with hi | hi
    · rw [List.getElem?_set_ne (Ne.symm hne)] at hi; exact .inl hi
    · exact .inr (by simpa using hi)
  · intro b hb
    obtain rfl : b = b0 := by rw [hb] at f1; exact Option.some.inj f1
    simp only [List.length_map] at f3
    refine ⟨fun k => (w.cell? ⟨b, k, none⟩).getD undef, fun k hk => ⟨.inr ⟨rfl, by omega⟩, ?_⟩, fun k x hx => ?_⟩
    · have hka : k < arr.size := by omega
      simp only [Nat.zero_add, cell_of_cells f2]
      simp [hka]
    · have hkl : k < c.length := (List.getElem?_eq_some_iff.1 hx).1
      have hka : arr[k]? = some arr[k] := by simp [show k < arr.size by omega]
      simp only [cell_of_cells f2, hka, Option.getD_some]
      have := (f4 k (.d x) arr[k] (by simp [hx]) hka).mono hev
      cases this with
      | d h => exact h
theorem AW.freezeRow {F : FC} {Q : Exit → St → Prop} {c : Code} {E : Nat → V} {H : List HE} {cs : List D} (id : Nat) (ts : List Nat) (hH : H[id]? = some (.row (cs.map .d)))
    (hE : SameE E (.ptr id 0) ts) (h : AW F c Q ⟨setE E ts (.vp cs 0), H.set id .dead⟩) : AW F c Q ⟨E, H⟩ := by
  rintro a w ⟨h1, h2, g, h3, h4, h5⟩
  obtain ⟨g', w1, w2, w3, w4⟩ := h3.freezeRow hH
  refine h a w ⟨h1, h2, g', w1, h4.trans w2, fun i => setE_rep ((h5 i).mono w2) (fun hr => ?_) hE⟩
  generalize a.tmps.getD i undef = r at hr
  cases hr with
  | ptr hb =>
    rw [w3] at hb
    obtain ⟨f, k1, k2⟩ := w4 _ hb
    exact .vp k1 k2
section
variable {P : Program} {ρ : Operand → V} {H : List HE} {ty : TypeId}
/-- The whole of an array as a list. -/
theorem op_sliceArr {α : Type} {f : α → D} {l : List α} {x : Operand} {t n e s : Nat} {X : List D} (hx : Is (ρ x) (.vp X 0)) (hX : X = D.flat (l.map f)) (hf : En f s) (hl : l.length = n) (hu : P.underlying t = some (.array n e)) (hi : ∃ i, P.info? e = some i ∧ i.size = s) :
    OpV P (.slice t x none none none) ty ρ H (.ex (l.map f)) H :=
  OpV.of_val fun g w r hw h => by
    have hp := hx.rep (h x (by simp [Op.operands]))
    generalize hr : r x = u at hp
    cases hp with
    | @vp _ _ b o fn k1 k2 =>
      obtain ⟨i, hi1, hi2⟩ := hi
      subst hl
      have hX' : X.length = l.length * s := by
        rw [hX, flat_length (s := s) (hf.szL l), List.length_map]
      have hsl : RepD g.Pr w (.sl (l.map f)) (.slice (some ⟨b, o + 0, none⟩) l.length l.length) := by
        have key : RepD g.Pr w (.sl (l.map f)) (.slice (some ⟨b, o + 0, none⟩) (l.map f).length l.length) :=
          .sl (l.map f) _ _ s fn (hf.szL l) (by simp) (fun _ => ⟨b, o, rfl, fun k hk => k1 k (by rw [hX']; simpa using hk)⟩) (fun k x hx => k2 k x (by rw [hX]; exact hx))
        rwa [List.length_map] at key
      refine ⟨.slice (some ⟨b, o + 0, none⟩) l.length l.length, fun _ _ _ _ => ?_, ?_⟩
      · by_cases h0 : l.length = 0
        · simp [execOp, hr, Instr.sliceAt, run_underlying hu, Instr.sureAddr, Instr.sliceBounds, run_sizeOf' hi1, Result.andThen, h0]
        · simp [execOp, hr, Instr.sliceAt, run_underlying hu, Instr.sureAddr, Instr.sliceBounds, run_sizeOf' hi1, Result.andThen, h0, Addr.add_none]
      · have := Rep.ex (l := l.map f) (a := some ⟨b, o + 0, none⟩) (g := g) (w := w) (by simpa using hsl)
        simpa using this
theorem part_rep {α : Type} {f : α → D} {y : α} {e s off : Nat} {Pr : Nat → Nat → Prop} {w : World} {X : List D} {xs : Array Value} (hX : RepD Pr w (.agg X) (.agg xs)) (ha : AtD X off s (f y).cells)
    (hi : (Sc P e ∧ ∀ z, (f z).cells = [f z]) ∨ (Ag P e s ∧ ∀ z, f z = .agg (f z).cells)) : ∃ v, RepD Pr w (f y) v ∧ ∀ w', (part e xs off).run P w' = .ok v w' := by
  obtain ⟨h1, h2, h3⟩ := ha
  cases hX with
  | agg _ _ k1 k2 =>
    have get : ∀ (i : Nat), i < s → ∃ x v, (f y).cells[i]? = some x ∧ xs[off + i]? = some v ∧ RepD Pr w x v := by
      intro i hi
      obtain ⟨x, hx⟩ : ∃ x, (f y).cells[i]? = some x := ⟨_, List.getElem?_eq_getElem (by omega)⟩
      have hv : xs[off + i]? = some (xs[off + i]'(by omega)) := by simp [show off + i < xs.size by omega]
      refine ⟨_, _, hx, hv, k2 (off + i) _ _ ?_ hv⟩
      rw [← h1, List.getElem?_take, if_pos hi, List.getElem?_drop] at hx
      exact hx
    rcases hi with ⟨hs, hz⟩ | ⟨hs, hz⟩
    · obtain ⟨d, hu, hd⟩ := hs.u
      have hs1 : s = 1 := by rw [← h2, hz]; rfl
      subst hs1
      obtain ⟨x, v, g1, g2, g3⟩ := get 0 (by omega)
      rw [hz] at g1
      simp only [List.getElem?_cons_zero, Option.some.injEq] at g1
      subst g1
      exact ⟨v, g3, fun w' => by simp at g2; simp [part, run_isAgg' hu, hd, g2, Result.andThen]⟩
    · obtain ⟨d, hu, hd⟩ := hs.u
      obtain ⟨i, hi1, hi2⟩ := hs.i
      refine ⟨.agg (xs.extract off (off + s)), ?_, fun w' => by simp [part, run_isAgg' hu, hd, run_sizeOf' hi1, hi2, Result.andThen]⟩
      rw [hz y]
      refine .agg _ _ (by simp; omega) (fun i x v hx hv => ?_)
      have his : i < s := by rw [← h2]; exact (List.getElem?_eq_some_iff.1 hx).1
      obtain ⟨x', v', g1, g2, g3⟩ := get i his
      rw [g1] at hx; injection hx with hx; subst hx
      rw [Array.getElem?_extract, if_pos (by omega)] at hv
      rw [g2] at hv; injection hv with hv; subst hv
      exact g3
theorem op_indexAgg {α : Type} {f : α → D} {l : List α} {v : α} {x y : Operand} {t n e s : Nat} {X : List D} {k : IntKind} {a : Int} (hx : As (ρ x) (.agg X)) (hX : X = D.flat (l.map f)) (hf : En f s) (hy : As (ρ y) (.int k a)) (hv : ix l a = some v) (hl : l.length = n) (hu : P.underlying t = some (.array n e))
    (hi : (Sc P e ∧ ∀ z, (f z).cells = [f z]) ∨ (Ag P e s ∧ ∀ z, f z = .agg (f z).cells)) (hsz : ∃ i, P.info? e = some i ∧ i.size = s) : OpV P (.index t x y) ty ρ H (.d (f v)) H :=
  OpV.of_val fun g w r hw h => by
    have hxr := hx.rep (h x (by simp [Op.operands]))
    have hyr := hy.int (h y (by simp [Op.operands]))
    generalize hr : r x = u at hxr
    have hagg : ∃ xs, u = .agg xs := by cases hxr; exact ⟨_, rfl⟩
    obtain ⟨xs, rfl⟩ := hagg
    subst hX
    obtain ⟨h0, h1, h2⟩ := ix_inv hv
    obtain ⟨q1, q2⟩ := flat_at hf h1
    obtain ⟨u, g1, g2⟩ := part_rep (P := P) hxr ⟨q1, hf.sz v, q2⟩ hi
    obtain ⟨i, i1, i2⟩ := hsz
    subst hl
    refine ⟨u, fun _ _ _ _ => ?_, .d g1⟩
    have hlt : a < (l.length : Int) := by omega
    simp [execOp, hr, hyr, Instr.index, asIntOf, run_underlying hu, h0, hlt, run_sizeOf' i1, i2, g2, Result.andThen]
end

/-! ### calls that leave behind what was there -/
theorem WOK.below {g : G} {w w' : World} {H : List HE} (hw : WOK g w H) (hb : Below w.heap.size w w') : WOK g w' H ∧ Evo g w g w' := by
  have hcell : ∀ b o, b < w.heap.size → w'.cell? ⟨b, o, none⟩ = w.cell? ⟨b, o, none⟩ := fun b o h => hb.cell (p := ⟨b, o, none⟩) h
  have hev : Evo g w g w' := {
    same := ⟨hb.os, hb.tape, hb.output⟩
    size := hb.size
    pr := fun b o h => ⟨h, hcell b o (hw.pr b o h)⟩
    prn := fun b o h => .inl h
    x := fun b h => .inl h
    keep := fun b h _ => hb.block b h
    σ := fun _ _ h => h
    τ := fun _ m a cap h => ⟨m, a, cap, h, .inr ⟨rfl, rfl, rfl⟩⟩ }
  refine ⟨⟨fun b o h => Nat.lt_of_lt_of_le (hw.pr b o h) hb.size, fun b h => Nat.lt_of_lt_of_le (hw.xs b h) hb.size, hw.blk, hw.sep, fun id c hc => ?_, fun id n e s hc => ?_, fun id l e s hc => ?_, fun id x hc => ?_, hw.free, hw.kcE hev⟩, hev⟩
  · obtain ⟨b, arr, et, e1, e2, e3, e4, e5⟩ := hw.row id c hc
    exact ⟨b, arr, et, e1, (hb.block b (hw.xs b (hw.blk id _ b hc e1))).trans e2, e3, fun k x v hx hv => (e4 k x v hx hv).mono hev, e5⟩
  · obtain ⟨a, cap, k1, k2, k3, k4⟩ := hw.tok id n e s hc
    refine ⟨a, cap, k1, k2, k3, fun hlt => ?_⟩
    obtain ⟨b, arr, q1, q2, q3, q4⟩ := k4 hlt
    exact ⟨b, arr, q1, (hb.block b (hw.xs b (hw.blk id _ b hc (by simp [G.blk, k1, hlt, q1])))).trans q2, q3, q4⟩
  · obtain ⟨a, cap, k1, k2, k3, k4⟩ := hw.lst id l e s hc
    refine ⟨a, cap, k1, k2, k3, fun hlt => ?_⟩
    obtain ⟨b, arr, q1, q0, q2, q3, q4, q5⟩ := k4 hlt
    exact ⟨b, arr, q1, q0, (hb.block b (hw.xs b (hw.blk id _ b hc (by simp [G.blk, k1, hlt, q1])))).trans q2, q3, q4, fun k x v hx hv => (q5 k x v hx hv).mono hev.pr⟩
  · obtain ⟨b, q1, q2, q3, q4⟩ := hw.ob id x hc
    exact ⟨b, q1, x.st hev.w rfl rfl (hb.block b (hw.xs b (hw.blk id _ b hc (.inl q1)))) (fun b' hu => hb.block b' (hw.xs b' (hw.blk id _ b' hc (.inr hu)))) q2, q3, q4⟩
theorem Fn.of_below {P : Program} {f : FuncId} {args : List D} {res : D} (h : ∀ g w vals, WOK g w [] → vals.size = args.length → (∀ (i : Nat) x v, args[i]? = some x → vals[i]? = some v → RepD g.Pr w x v) →
    Calls P f vals w fun e w' => ∃ rv, e = .returned rv ∧ Below w.heap.size w w' ∧ RepD g.Pr w' res rv) : Fn P f args res := by
  intro g w vals hw hs ha
  refine (h g w vals hw (by simpa using hs) (fun i x v hx hv => ?_)).mono ?_
  · have := ha i (.d x) v (by simp [hx]) hv
    cases this with
    | d h => exact h
  · rintro e w' ⟨rv, rfl, hb, hr⟩
    obtain ⟨w1, w2⟩ := hw.below hb
    exact ⟨rv, .d res, g, [], rfl, w1, w2, .d hr, rfl⟩

/-! ### comparing arrays -/
def EqD {α : Type} [DecidableEq α] (P : Program) (t : TypeId) (f : α → D) (d : Nat) : Prop :=
  ∀ Pr w x y a b, RepD Pr w (f x) a → RepD Pr w (f y) b → ∀ w', (Op.equalIn d t a b).run P w' = .ok (decide (x = y)) w'
theorem EqD.int {P : Program} {t : TypeId} {k : IntKind} {d : Nat} (h : P.underlying t = some (.int k)) : EqD P t (D.int k) (d + 1) := by
  intro Pr w x y a b ha hb w'
  cases ha; cases hb
  rw [run_equalIn_int (P := P) w' d t k k x y h]; congr 1
theorem EqD.bool {P : Program} {t : TypeId} {d : Nat} (h : P.underlying t = some .bool) : EqD P t D.bool (d + 1) := by
  intro Pr w x y a b ha hb w'
  cases ha; cases hb
  rw [run_equalIn_bool' (P := P) w' d t x y h]; congr 1
theorem EqD.str {P : Program} {t : TypeId} {d : Nat} (h : P.underlying t = some .string) : EqD P t D.str (d + 1) := by
  intro Pr w x y a b ha hb w'
  cases ha; cases hb
  rw [run_equalIn_string (P := P) w' d t ⟨x.toArray⟩ ⟨y.toArray⟩ h]; congr 1
  rw [ByteArray.toList_eq, ByteArray.toList_eq, Bool.eq_iff_iff]; simp
theorem EqD.arr {α β : Type} [DecidableEq α] [DecidableEq β] {P : Program} {t e n s d : Nat} {f : α → D} {fb : β → D} {lx : β → List α} (hu : P.underlying t = some (.array n e)) (hsz : ∃ i, P.info? e = some i ∧ i.size = s) (hf : En f s)
    (hi : (Sc P e ∧ ∀ z, (f z).cells = [f z]) ∨ (Ag P e s ∧ ∀ z, f z = .agg (f z).cells)) (hE : EqD P e f d) (hb : ∀ x, fb x = .agg (D.flat ((lx x).map f))) (hl : ∀ x, (lx x).length = n) (hj : ∀ x y, lx x = lx y → x = y) : EqD P t fb (d + 1) := by
  intro Pr w x y a b ha hbb w'
  rw [hb] at ha hbb
  have h1 : ∃ xs, a = .agg xs := by cases ha; exact ⟨_, rfl⟩
  have h2 : ∃ ys, b = .agg ys := by cases hbb; exact ⟨_, rfl⟩
  obtain ⟨xs, rfl⟩ := h1
  obtain ⟨ys, rfl⟩ := h2
  obtain ⟨i, i1, i2⟩ := hsz
  have key : ∀ (m k : Nat), k + m = n → (Sem.run P (forIn (List.range' k m) ((none, ()) : Option Bool × Unit) fun i r => do
      if (!(← Op.equalIn d e (← part e xs (i * s)) (← part e ys (i * s)))) = true then pure (ForInStep.done (some false, ())) else pure (ForInStep.yield (none, ()))) w') =
      .ok (if (lx x).drop k = (lx y).drop k then none else some false, ()) w' := by
    intro m
    induction m with
    | zero =>
      intro k hk
      have := hl x; have := hl y
      rw [List.drop_of_length_le (by omega), List.drop_of_length_le (by omega)]
      simp
    | succ m ih =>
      intro k hk
      have hx1 := hl x; have hy1 := hl y
      have ex : (lx x)[k]? = some ((lx x)[k]'(by omega)) := List.getElem?_eq_getElem _
      have ey : (lx y)[k]? = some ((lx y)[k]'(by omega)) := List.getElem?_eq_getElem _
      obtain ⟨p1, p2⟩ := flat_at hf ex
      obtain ⟨q1, q2⟩ := flat_at hf ey
      obtain ⟨u, u1, u2⟩ := part_rep (P := P) ha ⟨p1, hf.sz _, p2⟩ hi
      obtain ⟨v, v1, v2⟩ := part_rep (P := P) hbb ⟨q1, hf.sz _, q2⟩ hi
      have hc := hE Pr w _ _ u v u1 v1 w'
      rw [List.drop_eq_getElem_cons (show k < (lx x).length by omega), List.drop_eq_getElem_cons (show k < (lx y).length by omega)]
      rw [List.range'_succ, List.forIn_cons]
      simp only [Sem.run_bind, u2, v2, Result.andThen_ok, hc]
      by_cases hxy : (lx x)[k]'(by omega) = (lx y)[k]'(by omega)
      · simp only [hxy, decide_true, Bool.not_true, Bool.false_eq_true, if_false, Sem.run_pure, Result.andThen_ok, List.cons.injEq, true_and]
        exact ih (k + 1) (by omega)
      · have hne : ¬ ((lx x)[k]'(by omega) :: (lx x).drop (k + 1) = (lx y)[k]'(by omega) :: (lx y).drop (k + 1)) := fun e => hxy (List.cons.inj e).1
        rw [decide_eq_false hxy]
        simp only [Bool.not_false, if_true, Sem.run_pure, Result.andThen_ok, if_neg hne]
  have := key n 0 (by omega)
  have hr : ∀ (g : Nat → Option Bool × Unit → Sem (ForInStep (Option Bool × Unit))), forIn [0:n] ((none, ()) : Option Bool × Unit) g = forIn (List.range' 0 n) (none, ()) g := fun g => by
    simp
  simp only [Op.equalIn, Sem.run_bind, run_underlying hu, Result.andThen_ok, run_sizeOf' i1, i2]
  rw [hr, this]
  simp only [List.drop_zero, Result.andThen_ok]
  by_cases hxy : lx x = lx y
  · rw [if_pos hxy, hj x y hxy]; simp
  · rw [if_neg hxy, decide_eq_false (fun e => hxy (by rw [e]))]; simp
theorem EqS.of {α : Type} [DecidableEq α] {P : Program} {t : TypeId} {f : α → D} {X : α → List D} (hg : P.eqGuardType P.depth t = false) (h : EqD P t f 10000) (hX : ∀ x, f x = .agg (X x)) : EqS P t f := by
  refine ⟨hg, fun Pr w x y a b ha hb => ?_⟩
  have k := h Pr w x y a b ha hb
  rw [hX] at ha hb
  cases ha; cases hb
  exact ⟨_, _, rfl, rfl, k⟩
/-- The fields of two rows are compared as what they mean. -/
inductive EqFs (P : Program) (d : Nat) (X Y : List D) : List Field → Bool → Prop
  | nil : EqFs P d X Y [] true
  | cons {α : Type} [DecidableEq α] {ff : α → D} {u v : α} {s : Nat} {f : Field} {fs : List Field} {b : Bool} : f.name ≠ "_" → AtD X f.offset s (ff u).cells → AtD Y f.offset s (ff v).cells →
      ((Sc P f.type ∧ ∀ z, (ff z).cells = [ff z]) ∨ (Ag P f.type s ∧ ∀ z, ff z = .agg (ff z).cells)) → EqD P f.type ff d → EqFs P d X Y fs b → EqFs P d X Y (f :: fs) (decide (u = v) && b)
theorem EqFs.run {P : Program} {d : Nat} {X Y : List D} {Pr : Nat → Nat → Prop} {w : World} {xs ys : Array Value} (hx : RepD Pr w (.agg X) (.agg xs)) (hy : RepD Pr w (.agg Y) (.agg ys)) {fs : List Field} {b : Bool} (h : EqFs P d X Y fs b) :
    ∀ w', (Op.eqFields d xs ys fs).run P w' = .ok b w' := by
  induction h with
  | nil => intro w'; simp [Op.eqFields]
  | cons h1 h2 h3 h4 h5 _ ih =>
    intro w'
    obtain ⟨u, u1, u2⟩ := part_rep (P := P) hx h2 h4
    obtain ⟨v, v1, v2⟩ := part_rep (P := P) hy h3 h4
    have hc := h5 Pr w _ _ u v u1 v1 w'
    simp only [Op.eqFields, h1, ne_eq, not_false_eq_true, if_true, Sem.run_bind, u2, v2, Result.andThen_ok, hc, Sem.run_ite, Sem.run_pure, ih]
    split <;> simp_all
theorem EqD.st {α : Type} [DecidableEq α] {P : Program} {t : TypeId} {d : Nat} {fb : α → D} {X : α → List D} {fs : Array Field} (hu : P.underlying t = some (.struct fs)) (hp : P.stoodInHeld t = false) (hX : ∀ x, fb x = .agg (X x))
    (h : ∀ x y, ∃ b, EqFs P d (X x) (X y) fs.toList b ∧ b = decide (x = y)) : EqD P t fb (d + 1) := by
  intro Pr w x y a b ha hb w'
  rw [hX] at ha hb
  obtain ⟨c, h1, h2⟩ := h x y
  have e1 : ∃ xs, a = .agg xs := by cases ha; exact ⟨_, rfl⟩
  have e2 : ∃ ys, b = .agg ys := by cases hb; exact ⟨_, rfl⟩
  obtain ⟨xs, rfl⟩ := e1
  obtain ⟨ys, rfl⟩ := e2
  have hf : P.fieldsOf t = fs := by simp [Program.fieldsOf, hu]
  rw [run_equalIn_agg w' d t xs ys (by rw [hf]; exact hu) hp, hf, EqFs.run ha hb h1 w', h2]
end Go.Proofs.YtindppnanjcoaaaGreatDoor.Ab
end
section
namespace Go.Proofs.YtindppnanjcoaaaGreatDoor.Ab
open Go
def joinM (xs : List (List UInt8)) (sep : List UInt8) : Option (List UInt8) :=
  if xs.length ≤ 140737488355328 ∧ (Lib.join xs sep).length ≤ 140737488355328 then some (Lib.join xs sep) else none
end Go.Proofs.YtindppnanjcoaaaGreatDoor.Ab
end
section
namespace Go.Proofs.YtindppnanjcoaaaGreatDoor.Ab
open Go
def itoaM (n : Int) : Option (List UInt8) := if -9223372036854775808 ≤ n ∧ n ≤ 9223372036854775807 then some (Lib.itoa n) else none
end Go.Proofs.YtindppnanjcoaaaGreatDoor.Ab
end
