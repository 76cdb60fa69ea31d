/- Going through maps in whatever order, and through texts: what it comes to. Maps and texts in terms of plain lists, arrays with indexes that are reckoned, rows that are given up to be data, closures that read. Lists of lists whose rows are written: one entry of the heap for all of them. Lists of rows that are written in place: their elements and the fields of these. Pieces of lists that are written in place: their elements; 'clear'. Conditions: none. -/
import Derived.Test.YtlbiooppadlolaaGreatDoorAb27
import Derived.Below
import Derived.Lib.SliceRun
section
namespace Go.Proofs.YtlbiooppadlolaaGreatDoor.Ab
open Go

/-! ### the plain language -/
/-! ### iterators over maps -/
theorem WOK.drew {g : G} {w : World} {H : List HE} (h3 : WOK g w H) : WOK g w.drew H ∧ Evo g w g w.drew := by
  have hev : Evo g w g w.drew := ⟨⟨rfl, rfl, rfl⟩, Nat.le_refl _, fun _ _ h => ⟨h, rfl⟩, fun _ _ h => .inl h, fun _ h => .inl h, fun _ _ _ => rfl, fun _ _ h => h, fun _ m a cap h => ⟨m, a, cap, h, .inr ⟨rfl, rfl, rfl⟩⟩⟩
  refine ⟨⟨h3.pr, h3.xs, h3.blk, h3.sep, fun id c hc => ?_, h3.tok, fun id l e s hc => ?_, fun id x hc => ?_, h3.free, h3.kcE hev⟩, hev⟩
  · obtain ⟨b, arr, et, e1, e2, e3, e4, e5⟩ := h3.row id c hc
    exact ⟨b, arr, et, e1, e2, e3, fun k x v hx hv => (e4 k x v hx hv).mono hev, e5⟩
  · obtain ⟨a, cap, k1, k2, k3, k4⟩ := h3.lst id l e s hc
    refine ⟨a, cap, k1, k2, k3, fun hlt => ?_⟩
    obtain ⟨b, arr, q1, q0, q2, q3, q4, q5⟩ := k4 hlt
    exact ⟨b, arr, q1, q0, q2, q3, q4, fun k x v hx hv => (q5 k x v hx hv).mono hev.pr⟩
  · obtain ⟨b, q1, q2, q3, q4⟩ := h3.ob id x hc
    exact ⟨b, q1, x.st hev.w rfl rfl rfl (fun _ _ => rfl) q2, q3, q4⟩

section
variable {P : Program} {ρ : Operand → V} {H : List HE} {ty : TypeId}
end

/-- What is left of a list, by places. -/
def left {α : Type} (l : List α) (S : List Nat) : List Nat → List α := fun I => I.filterMap fun i => if i ∈ S then none else l[i]?
/-! ### texts -/
section
variable {P : Program} {ρ : Operand → V} {H : List HE} {ty : TypeId}
end
end Go.Proofs.YtlbiooppadlolaaGreatDoor.Ab
end
section
namespace Go.Proofs.YtlbiooppadlolaaGreatDoor.Ab
open Go Go.RowKit

section
variable {P : Program} {ρ : Operand → V} {H : List HE} {ty : TypeId}
theorem op_moveM {x : Operand} {id : Nat} (h : Is (ρ x) (.mp id)) : OpV P (.move x) ty ρ H (.mp id) H := op_move h
theorem op_assignM {x : Operand} {id : Nat} (h : Is (ρ x) (.mp id)) : OpV P (.assign x) ty ρ H (.mp id) H := op_assign h
theorem op_mapUpdateM {κ ν : Type} [DecidableEq κ] {fk : κ → D} {fv : ν → D} {kv : κ → Value} {d : TypeDesc} {x y u : Operand} {t kt et : TypeId} {id : Nat} {m r : List (κ × ν)} {k : κ} {v : ν} (hK : KeyF P kt fk kv d) (ht : P.underlying t = some (.map kt et)) (hx : Is (ρ x) (.mp id)) (hy : As (ρ y) (fk k)) (hu : As (ρ u) (fv v))
    (hH : H[id]? = some (.ob (mpO (m.map fun q => (fk q.1, fv q.2))))) (hr : some (mput m k v) = some r) : OpV P (.mapUpdate t x y u) ty ρ H .any (H.set id (.ob (mpO (r.map fun q => (fk q.1, fv q.2))))) := by
  obtain rfl := Option.some.inj hr
  exact op_mapUpdate hK ht hx hy hu hH
end

/-! ### cells of arrays -/
def AtD (X : List D) (n s : Nat) (c : List D) : Prop := (X.drop n).take s = c ∧ c.length = s ∧ n + s ≤ X.length
def PutD (X : List D) (n s : Nat) (c X' : List D) : Prop := c.length = s ∧ X' = X.take n ++ c ++ X.drop (n + s)
theorem flat_cons {x : D} {l : List D} : D.flat (x :: l) = x.cells ++ D.flat l := by simp [D.flat]
theorem flat_at {α : Type} {f : α → D} {s : Nat} (hf : En f s) : ∀ {l : List α} {i : Nat} {y : α}, l[i]? = some y → ((D.flat (l.map f)).drop (i * s)).take s = (f y).cells ∧ i * s + s ≤ (D.flat (l.map f)).length
  | a :: l, 0, y, h => by
    simp only [List.getElem?_cons_zero, Option.some.injEq] at h
    subst h
    have := hf.sz a
    rw [List.map_cons, flat_cons, Nat.zero_mul, List.drop_zero]
    refine ⟨by rw [← this, List.take_left'] ; rfl, by rw [List.length_append]; omega⟩
  | a :: l, i + 1, y, h => by
    have ih := flat_at hf (l := l) (i := i) (y := y) (by simpa using h)
    rw [List.map_cons, flat_cons]
    have hs := hf.sz a
    have e : (i + 1) * s = (f a).cells.length + i * s := by rw [hs, Nat.succ_mul, Nat.add_comm]
    rw [e, ← List.drop_drop, List.drop_left]
    exact ⟨ih.1, by rw [List.length_append]; omega⟩
theorem flat_put {α : Type} {f : α → D} {s : Nat} (hf : En f s) : ∀ {l : List α} {i : Nat} {y : α}, i < l.length → D.flat ((l.set i y).map f) = (D.flat (l.map f)).take (i * s) ++ (f y).cells ++ (D.flat (l.map f)).drop (i * s + s)
  | a :: l, 0, y, _ => by
    have := hf.sz a
    rw [List.set_cons_zero, List.map_cons, List.map_cons, flat_cons, flat_cons, Nat.zero_mul, List.take_zero, Nat.zero_add, List.nil_append, ← this, List.drop_left]
  | a :: l, i + 1, y, h => by
    have hil : i < l.length := by simpa using h
    have ih := flat_put hf (l := l) (i := i) (y := y) hil
    have hs := hf.sz a
    rw [List.set_cons_succ, List.map_cons, List.map_cons, flat_cons, flat_cons, ih]
    have e : (i + 1) * s = (f a).cells.length + i * s := by rw [hs, Nat.succ_mul, Nat.add_comm]
    have t1 : ∀ (L : List D) (k : Nat), ((f a).cells ++ L).take ((f a).cells.length + k) = (f a).cells ++ L.take k := fun L k => by rw [List.take_append, List.take_of_length_le (Nat.le_add_right _ _), Nat.add_sub_cancel_left]
    have t2 : ∀ (L : List D) (k : Nat), ((f a).cells ++ L).drop ((f a).cells.length + k) = L.drop k := fun L k => by rw [← List.drop_drop, List.drop_left]
    rw [e, t1, Nat.add_assoc, t2]
    simp only [List.append_assoc]
theorem AtD.ix {α : Type} {f : α → D} {X : List D} {n m s : Nat} {l : List α} {k : Int} {y : α} (hf : En f s) (h : AtD X n m (D.flat (l.map f))) (hv : ix l k = some y) : AtD X (n + k.toNat * s) s (f y).cells := by
  obtain ⟨h0, h1, h2⟩ := ix_inv hv
  obtain ⟨k1, k2⟩ := flat_at hf h1
  obtain ⟨q1, q2, q3⟩ := h
  rw [q2] at k2
  refine ⟨?_, hf.sz y, by omega⟩
  rw [← k1, ← q1, ← List.drop_drop, List.drop_take, List.take_take, Nat.min_eq_left (by omega)]
theorem PutD.ix {α : Type} {f : α → D} {X X' : List D} {n m s : Nat} {l l' : List α} {k : Int} {y : α} (hf : En f s) (h : AtD X n m (D.flat (l.map f))) (hp : PutD X n m (D.flat (l'.map f)) X') (hv : setI l k y = some l') : PutD X (n + k.toNat * s) s (f y).cells X' := by
  unfold setI at hv
  split at hv
  · rename_i hh
    injection hv with hv; subst hv
    obtain ⟨_, hx⟩ := hp
    obtain ⟨q1, q2, q3⟩ := h
    refine ⟨hf.sz y, ?_⟩
    have hlen : k.toNat * s + s ≤ m := by
      rw [← q2]
      exact (flat_at hf (List.getElem?_eq_getElem hh.2)).2
    rw [hx, flat_put hf hh.2, ← q1]
    have e1 : X.take (n + k.toNat * s) = X.take n ++ ((X.drop n).take m).take (k.toNat * s) := by
      rw [List.take_take, Nat.min_eq_left (by omega), List.take_add]
    have e2 : X.drop (n + k.toNat * s + s) = ((X.drop n).take m).drop (k.toNat * s + s) ++ X.drop (n + m) := by
      rw [List.drop_take, List.drop_drop, ← Nat.add_assoc]
      conv => lhs; rw [← List.take_append_drop (m - (k.toNat * s + s)) (X.drop (n + k.toNat * s + s))]
      rw [List.drop_drop]
      congr 2; omega
    rw [e1, e2]
    simp [List.append_assoc]
  · cases hv

section
variable {P : Program} {ρ : Operand → V} {H : List HE} {ty : TypeId}
end

/-! ### rows that are given up to be data -/
section
variable {P : Program} {ρ : Operand → V} {H : List HE} {ty : TypeId}
theorem part_rep {α : Type} {f : α → D} {y : α} {e s off : Nat} {Pr : Nat → Nat → Prop} {w : World} {X : List D} {xs : Array Value} (hX : RepD Pr w (.agg X) (.agg xs)) (ha : AtD X off s (f y).cells)
    (hi : (Sc P e ∧ ∀ z, (f z).cells = [f z]) ∨ (Ag P e s ∧ ∀ z, f z = .agg (f z).cells)) : ∃ v, RepD Pr w (f y) v ∧ ∀ w', (part e xs off).run P w' = .ok v w' := by
  obtain ⟨h1, h2, h3⟩ := ha
  cases hX with
  | agg _ _ k1 k2 =>
    have get : ∀ (i : Nat), i < s → ∃ x v, (f y).cells[i]? = some x ∧ xs[off + i]? = some v ∧ RepD Pr w x v := by
      intro i hi
      obtain ⟨x, hx⟩ : ∃ x, (f y).cells[i]? = some x := ⟨_, List.getElem?_eq_getElem (by omega)⟩
      have hv : xs[off + i]? = some (xs[off + i]'(by omega)) := by simp [show off + i < xs.size by omega]
      refine ⟨_, _, hx, hv, k2 (off + i) _ _ ?_ hv⟩
      rw [← h1, List.getElem?_take, if_pos hi, List.getElem?_drop] at hx
      exact hx
    rcases hi with ⟨hs, hz⟩ | ⟨hs, hz⟩
    · obtain ⟨d, hu, hd⟩ := hs.u
      have hs1 : s = 1 := by rw [← h2, hz]; rfl
      subst hs1
      obtain ⟨x, v, g1, g2, g3⟩ := get 0 (by omega)
      rw [hz] at g1
      simp only [List.getElem?_cons_zero, Option.some.injEq] at g1
      subst g1
      exact ⟨v, g3, fun w' => by simp at g2; simp [part, run_isAgg' hu, hd, g2, Result.andThen]⟩
    · obtain ⟨d, hu, hd⟩ := hs.u
      obtain ⟨i, hi1, hi2⟩ := hs.i
      refine ⟨.agg (xs.extract off (off + s)), ?_, fun w' => by simp [part, run_isAgg' hu, hd, run_sizeOf' hi1, hi2, Result.andThen]⟩
      rw [hz y]
      refine .agg _ _ (by simp; omega) (fun i x v hx hv => ?_)
      have his : i < s := by rw [← h2]; exact (List.getElem?_eq_some_iff.1 hx).1
      obtain ⟨x', v', g1, g2, g3⟩ := get i his
      rw [g1] at hx; injection hx with hx; subst hx
      rw [Array.getElem?_extract, if_pos (by omega)] at hv
      rw [g2] at hv; injection hv with hv; subst hv
      exact g3
/-- A piece whose room ends where it ends. -/
theorem op_slice3 {α : Type} {f : α → D} {l r : List α} {x a c : Operand} {t e s bytes : Nat} {hi : Int} {k k' : IntKind} (hx : As (ρ x) (.sl (l.map f))) (ht : SlT P t e s bytes) (ha : As (ρ a) (.int k hi)) (hc : As (ρ c) (.int k' hi)) (hv : slc l 0 hi = some r) :
    OpV P (.slice t x none (some a) (some c)) ty ρ H (.ex (r.map f)) H :=
  OpV.of_val fun g w rr hw h => by
    have hxr := hx.rep (h x (by simp [Op.operands]))
    have har := ha.int (h a (by simp [Op.operands]))
    have hcr := hc.int (h c (by simp [Op.operands]))
    obtain ⟨ad, cap, e1, e2⟩ := slice_form hxr
    rw [e1] at hxr
    simp only [List.length_map] at e1 e2
    unfold slc at hv
    split at hv
    · rename_i hh
      injection hv with hv; subst hv
      obtain ⟨ie, z, hie, hsz, _⟩ := ht.i
      obtain ⟨n, rfl⟩ : ∃ n : Nat, hi = (n : Int) := ⟨hi.toNat, by omega⟩
      have hn : n ≤ l.length := by omega
      have hb1 : ∀ k y c, n ≤ y → (Instr.sliceBound (.int k (n : Int)) y c).run P w = .ok n w := fun k y c hy => by
        simp [Instr.sliceBound, asIntOf, show ((n : Int) ≤ (y : Int)) by omega]
      have hrep : RepD g.Pr w (.sl ((l.take n).map f)) (.slice ad n n) := by
        have hlen : ((l.take n).map f).length = n := by simp; omega
        cases hxr with
        | sl _ _ _ s' fn q1 q2 q3 q4 =>
          have key : RepD g.Pr w (.sl ((l.take n).map f)) (.slice ad ((l.take n).map f).length n) := by
            refine .sl _ ad n s' fn (fun x hx => q1 x ?_) (by rw [hlen]; exact Nat.le_refl _) (fun hne => ?_) (fun i x hx => q4 i x ?_)
            · rw [List.map_take] at hx; exact List.mem_of_mem_take hx
            · have hne' : l.map f ≠ [] := fun h0 => hne (by rw [List.map_take, h0, List.take_nil])
              obtain ⟨b, o, rfl, h5⟩ := q3 hne'
              exact ⟨b, o, rfl, fun j hj => h5 j (Nat.lt_of_lt_of_le hj (Nat.mul_le_mul_right _ (by rw [hlen, List.length_map]; omega)))⟩
            · have e : l.map f = (l.take n).map f ++ (l.drop n).map f := by rw [← List.map_append, List.take_append_drop]
              rw [e]
              have : D.flat ((l.take n).map f ++ (l.drop n).map f) = D.flat ((l.take n).map f) ++ D.flat ((l.drop n).map f) := by simp only [D.flat, List.flatMap_append]
              rw [this, List.getElem?_append_left (List.getElem?_eq_some_iff.1 hx).1]
              exact hx
          rwa [hlen] at key
      have e0 : (l.take (n : Int).toNat).drop (0 : Int).toNat = l.take n := by simp
      rw [e0]
      have hlen : ((l.take n).map f).length = n := by simp; omega
      refine ⟨.slice (if n = 0 then ad else ad.map (·.add (0 * ie.size))) n n, fun _ _ _ _ => ?_, ?_⟩
      · simp [execOp, Instr.sliceAt, Instr.slice, Instr.sliceBounds, run_underlying ht.u, e1, har, hcr, hb1 _ cap _ (by omega), hb1 _ n _ (Nat.le_refl _), run_sizeOf' hie, Result.andThen]
      · have hid : (if n = 0 then ad else ad.map (·.add (0 * ie.size))) = ad := by
          split
          · rfl
          · cases ad with
            | none => rfl
            | some a => obtain ⟨b, o, q⟩ := a; simp [Addr.add]
        rw [hid]
        have := Rep.ex (g := g) (w := w) (l := (l.take n).map f) (a := ad) (by rw [hlen]; exact hrep)
        rwa [hlen] at this
    · cases hv
end

/-! ### calls that leave behind what was there -/
theorem WOK.below {g : G} {w w' : World} {H : List HE} (hw : WOK g w H) (hb : Below w.heap.size w w') : WOK g w' H ∧ Evo g w g w' := by
  have hcell : ∀ b o, b < w.heap.size → w'.cell? ⟨b, o, none⟩ = w.cell? ⟨b, o, none⟩ := fun b o h => hb.cell (p := ⟨b, o, none⟩) h
  have hev : Evo g w g w' := {
    same := ⟨hb.os, hb.tape, hb.output⟩
    size := hb.size
    pr := fun b o h => ⟨h, hcell b o (hw.pr b o h)⟩
    prn := fun b o h => .inl h
    x := fun b h => .inl h
    keep := fun b h _ => hb.block b h
    σ := fun _ _ h => h
    τ := fun _ m a cap h => ⟨m, a, cap, h, .inr ⟨rfl, rfl, rfl⟩⟩ }
  refine ⟨⟨fun b o h => Nat.lt_of_lt_of_le (hw.pr b o h) hb.size, fun b h => Nat.lt_of_lt_of_le (hw.xs b h) hb.size, hw.blk, hw.sep, fun id c hc => ?_, fun id n e s hc => ?_, fun id l e s hc => ?_, fun id x hc => ?_, hw.free, hw.kcE hev⟩, hev⟩
  · obtain ⟨b, arr, et, e1, e2, e3, e4, e5⟩ := hw.row id c hc
    exact ⟨b, arr, et, e1, (hb.block b (hw.xs b (hw.blk id _ b hc e1))).trans e2, e3, fun k x v hx hv => (e4 k x v hx hv).mono hev, e5⟩
  · obtain ⟨a, cap, k1, k2, k3, k4⟩ := hw.tok id n e s hc
    refine ⟨a, cap, k1, k2, k3, fun hlt => ?_⟩
    obtain ⟨b, arr, q1, q2, q3, q4⟩ := k4 hlt
    exact ⟨b, arr, q1, (hb.block b (hw.xs b (hw.blk id _ b hc (by simp [G.blk, k1, hlt, q1])))).trans q2, q3, q4⟩
  · obtain ⟨a, cap, k1, k2, k3, k4⟩ := hw.lst id l e s hc
    refine ⟨a, cap, k1, k2, k3, fun hlt => ?_⟩
    obtain ⟨b, arr, q1, q0, q2, q3, q4, q5⟩ := k4 hlt
    exact ⟨b, arr, q1, q0, (hb.block b (hw.xs b (hw.blk id _ b hc (by simp [G.blk, k1, hlt, q1])))).trans q2, q3, q4, fun k x v hx hv => (q5 k x v hx hv).mono hev.pr⟩
  · obtain ⟨b, q1, q2, q3, q4⟩ := hw.ob id x hc
    exact ⟨b, q1, x.st hev.w rfl rfl (hb.block b (hw.xs b (hw.blk id _ b hc (.inl q1)))) (fun b' hu => hb.block b' (hw.xs b' (hw.blk id _ b' hc (.inr hu)))) q2, q3, q4⟩
/-! ### comparing arrays -/
def EqD {α : Type} [DecidableEq α] (P : Program) (t : TypeId) (f : α → D) (d : Nat) : Prop :=
  ∀ Pr w x y a b, RepD Pr w (f x) a → RepD Pr w (f y) b → ∀ w', (Op.equalIn d t a b).run P w' = .ok (decide (x = y)) w'
theorem EqD.int {P : Program} {t : TypeId} {k : IntKind} {d : Nat} (h : P.underlying t = some (.int k)) : EqD P t (D.int k) (d + 1) := by
  intro Pr w x y a b ha hb w'
  cases ha; cases hb
  rw [run_equalIn_int (P := P) w' d t k k x y h]; congr 1
theorem EqD.bool {P : Program} {t : TypeId} {d : Nat} (h : P.underlying t = some .bool) : EqD P t D.bool (d + 1) := by
  intro Pr w x y a b ha hb w'
  cases ha; cases hb
  rw [run_equalIn_bool' (P := P) w' d t x y h]; congr 1
theorem EqD.str {P : Program} {t : TypeId} {d : Nat} (h : P.underlying t = some .string) : EqD P t D.str (d + 1) := by
  intro Pr w x y a b ha hb w'
  cases ha; cases hb
  rw [run_equalIn_string (P := P) w' d t ⟨x.toArray⟩ ⟨y.toArray⟩ h]; congr 1
  rw [ByteArray.toList_eq, ByteArray.toList_eq, Bool.eq_iff_iff]; simp
theorem EqD.arr {α β : Type} [DecidableEq α] [DecidableEq β] {P : Program} {t e n s d : Nat} {f : α → D} {fb : β → D} {lx : β → List α} (hu : P.underlying t = some (.array n e)) (hsz : ∃ i, P.info? e = some i ∧ i.size = s) (hf : En f s)
    (hi : (Sc P e ∧ ∀ z, (f z).cells = [f z]) ∨ (Ag P e s ∧ ∀ z, f z = .agg (f z).cells)) (hE : EqD P e f d) (hb : ∀ x, fb x = .agg (D.flat ((lx x).map f))) (hl : ∀ x, (lx x).length = n) (hj : ∀ x y, lx x = lx y → x = y) : EqD P t fb (d + 1) := by
  intro Pr w x y a b ha hbb w'
  rw [hb] at ha hbb
  have h1 : ∃ xs, a = .agg xs := by cases ha; exact ⟨_, rfl⟩
  have h2 : ∃ ys, b = .agg ys := by cases hbb; exact ⟨_, rfl⟩
  obtain ⟨xs, rfl⟩ := h1
  obtain ⟨ys, rfl⟩ := h2
  obtain ⟨i, i1, i2⟩ := hsz
  have key : ∀ (m k : Nat), k + m = n → (Sem.run P (forIn (List.range' k m) ((none, ()) : Option Bool × Unit) fun i r => do
      if (!(← Op.equalIn d e (← part e xs (i * s)) (← part e ys (i * s)))) = true then pure (ForInStep.done (some false, ())) else pure (ForInStep.yield (none, ()))) w') =
      .ok (if (lx x).drop k = (lx y).drop k then none else some false, ()) w' := by
    intro m
    induction m with
    | zero =>
      intro k hk
      have := hl x; have := hl y
      rw [List.drop_of_length_le (by omega), List.drop_of_length_le (by omega)]
      simp
    | succ m ih =>
      intro k hk
      have hx1 := hl x; have hy1 := hl y
      have ex : (lx x)[k]? = some ((lx x)[k]'(by omega)) := List.getElem?_eq_getElem _
      have ey : (lx y)[k]? = some ((lx y)[k]'(by omega)) := List.getElem?_eq_getElem _
      obtain ⟨p1, p2⟩ := flat_at hf ex
      obtain ⟨q1, q2⟩ := flat_at hf ey
      obtain ⟨u, u1, u2⟩ := part_rep (P := P) ha ⟨p1, hf.sz _, p2⟩ hi
      obtain ⟨v, v1, v2⟩ := part_rep (P := P) hbb ⟨q1, hf.sz _, q2⟩ hi
      have hc := hE Pr w _ _ u v u1 v1 w'
      rw [List.drop_eq_getElem_cons (show k < (lx x).length by omega), List.drop_eq_getElem_cons (show k < (lx y).length by omega)]
      rw [List.range'_succ, List.forIn_cons]
      simp only [Sem.run_bind, u2, v2, Result.andThen_ok, hc]
      by_cases hxy : (lx x)[k]'(by omega) = (lx y)[k]'(by omega)
      · simp only [hxy, decide_true, Bool.not_true, Bool.false_eq_true, if_false, Sem.run_pure, Result.andThen_ok, List.cons.injEq, true_and]
        exact ih (k + 1) (by omega)
      · have hne : ¬ ((lx x)[k]'(by omega) :: (lx x).drop (k + 1) = (lx y)[k]'(by omega) :: (lx y).drop (k + 1)) := fun e => hxy (List.cons.inj e).1
        rw [decide_eq_false hxy]
        simp only [Bool.not_false, if_true, Sem.run_pure, Result.andThen_ok, if_neg hne]
  have := key n 0 (by omega)
  have hr : ∀ (g : Nat → Option Bool × Unit → Sem (ForInStep (Option Bool × Unit))), forIn [0:n] ((none, ()) : Option Bool × Unit) g = forIn (List.range' 0 n) (none, ()) g := fun g => by
    simp
  simp only [Op.equalIn, Sem.run_bind, run_underlying hu, Result.andThen_ok, run_sizeOf' i1, i2]
  rw [hr, this]
  simp only [List.drop_zero, Result.andThen_ok]
  by_cases hxy : lx x = lx y
  · rw [if_pos hxy, hj x y hxy]; simp
  · rw [if_neg hxy, decide_eq_false (fun e => hxy (by rw [e]))]; simp
theorem EqS.of {α : Type} [DecidableEq α] {P : Program} {t : TypeId} {f : α → D} {X : α → List D} (hg : P.eqGuardType P.depth t = false) (h : EqD P t f 10000) (hX : ∀ x, f x = .agg (X x)) : EqS P t f := by
  refine ⟨hg, fun Pr w x y a b ha hb => ?_⟩
  have k := h Pr w x y a b ha hb
  rw [hX] at ha hb
  cases ha; cases hb
  exact ⟨_, _, rfl, rfl, k⟩
/-- The fields of two rows are compared as what they mean. -/
inductive EqFs (P : Program) (d : Nat) (X Y : List D) : List Field → Bool → Prop
  | nil : EqFs P d X Y [] true
  | cons {α : Type} [DecidableEq α] {ff : α → D} {u v : α} {s : Nat} {f : Field} {fs : List Field} {b : Bool} : f.name ≠ "_" → AtD X f.offset s (ff u).cells → AtD Y f.offset s (ff v).cells →
      ((Sc P f.type ∧ ∀ z, (ff z).cells = [ff z]) ∨ (Ag P f.type s ∧ ∀ z, ff z = .agg (ff z).cells)) → EqD P f.type ff d → EqFs P d X Y fs b → EqFs P d X Y (f :: fs) (decide (u = v) && b)
theorem EqFs.run {P : Program} {d : Nat} {X Y : List D} {Pr : Nat → Nat → Prop} {w : World} {xs ys : Array Value} (hx : RepD Pr w (.agg X) (.agg xs)) (hy : RepD Pr w (.agg Y) (.agg ys)) {fs : List Field} {b : Bool} (h : EqFs P d X Y fs b) :
    ∀ w', (Op.eqFields d xs ys fs).run P w' = .ok b w' := by
  induction h with
  | nil => intro w'; simp [Op.eqFields]
  | cons h1 h2 h3 h4 h5 _ ih =>
    intro w'
    obtain ⟨u, u1, u2⟩ := part_rep (P := P) hx h2 h4
    obtain ⟨v, v1, v2⟩ := part_rep (P := P) hy h3 h4
    have hc := h5 Pr w _ _ u v u1 v1 w'
    simp only [Op.eqFields, h1, ne_eq, not_false_eq_true, if_true, Sem.run_bind, u2, v2, Result.andThen_ok, hc, Sem.run_ite, Sem.run_pure, ih]
    split <;> simp_all
theorem EqD.st {α : Type} [DecidableEq α] {P : Program} {t : TypeId} {d : Nat} {fb : α → D} {X : α → List D} {fs : Array Field} (hu : P.underlying t = some (.struct fs)) (hp : P.stoodInHeld t = false) (hX : ∀ x, fb x = .agg (X x))
    (h : ∀ x y, ∃ b, EqFs P d (X x) (X y) fs.toList b ∧ b = decide (x = y)) : EqD P t fb (d + 1) := by
  intro Pr w x y a b ha hb w'
  rw [hX] at ha hb
  obtain ⟨c, h1, h2⟩ := h x y
  have e1 : ∃ xs, a = .agg xs := by cases ha; exact ⟨_, rfl⟩
  have e2 : ∃ ys, b = .agg ys := by cases hb; exact ⟨_, rfl⟩
  obtain ⟨xs, rfl⟩ := e1
  obtain ⟨ys, rfl⟩ := e2
  have hf : P.fieldsOf t = fs := by simp [Program.fieldsOf, hu]
  rw [run_equalIn_agg w' d t xs ys (by rw [hf]; exact hu) hp, hf, EqFs.run ha hb h1 w', h2]
end Go.Proofs.YtlbiooppadlolaaGreatDoor.Ab
end
section
namespace Go.Proofs.YtlbiooppadlolaaGreatDoor.Ab
open Go

/-- A row: data, or memory of its own. -/
def RowAt (g : G) (w : World) (id b : Nat) (e : TypeId) : Bool → List D → Value → Prop
  | false, l, v => RepD g.Pr w (.sl l) v
  | true, l, v => ∃ a cap, v = .slice a l.length cap ∧ l.length ≤ cap ∧ (l ≠ [] → ∃ br arr, a = some ⟨br, 0, none⟩ ∧ g.υ id br ∧ br ≠ b ∧ w.heap[br]? = some (.cells arr e (0, 0)) ∧ l.length ≤ arr.size ∧
      ∀ (k : Nat) x u, l[k]? = some x → arr[k]? = some u → RepD g.Pr w x u)
def rowB : Value → Option Nat
  | .slice (some a) _ _ => some a.block
  | _ => none
structure NlAt (g : G) (w : World) (id b : Nat) (e eo : TypeId) (N : Nat) (M : List (Bool × List D)) (Vs : List Value) : Prop where
  len : Vs.length = M.length
  n : M.length = N
  own : ∃ cap arr, g.τ id = some (0, some ⟨b, 0, none⟩, cap) ∧ N ≤ cap ∧ 0 < cap ∧ w.heap[b]? = some (.cells arr eo (0, 0)) ∧ N ≤ arr.size ∧ ∀ (k : Nat) v, Vs[k]? = some v → arr[k]? = some v
  row : ∀ (k : Nat) m v, M[k]? = some m → Vs[k]? = some v → RowAt g w id b e m.1 m.2 v
  dis : ∀ (k k' : Nat) l l' v v' B, k ≠ k' → M[k]? = some (true, l) → M[k']? = some (true, l') → l ≠ [] → l' ≠ [] → Vs[k]? = some v → Vs[k']? = some v' → rowB v = some B → rowB v' = some B → False

theorem RowAt.mono {g g' : G} {w w' : World} {id id' b : Nat} {e : TypeId} {f : Bool} {l : List D} {v : Value} (hP : ∀ b o, g.Pr b o → g'.Pr b o ∧ w'.cell? ⟨b, o, none⟩ = w.cell? ⟨b, o, none⟩)
    (hu : ∀ b', g.υ id b' → g'.υ id' b') (ho : ∀ b', g.υ id b' → b' ≠ b → w'.heap[b']? = w.heap[b']?) (h : RowAt g w id b e f l v) : RowAt g' w' id' b e f l v := by
  cases f with
  | false => exact RepD.mono hP h
  | true =>
    obtain ⟨a, cap, h1, h2, h3⟩ := h
    refine ⟨a, cap, h1, h2, fun hl => ?_⟩
    obtain ⟨br, arr, k1, k2, k3, k4, k5, k6⟩ := h3 hl
    exact ⟨br, arr, k1, hu _ k2, k3, (ho _ k2 k3).trans k4, k5, fun k x u hx hu' => (k6 k x u hx hu').mono hP⟩
theorem NlAt.st {g g' : G} {w w' : World} {id b : Nat} {e eo : TypeId} {N : Nat} {M : List (Bool × List D)} {Vs : List Value} (he : EvoW g w g' w') (ht : g'.τ id = g.τ id) (hu : g'.υ id = g.υ id) (hb : w'.heap[b]? = w.heap[b]?)
    (ho : ∀ b', g.υ id b' → w'.heap[b']? = w.heap[b']?) (h : NlAt g w id b e eo N M Vs) : NlAt g' w' id b e eo N M Vs where
  len := h.len
  n := h.n
  own := by
    obtain ⟨cap, arr, h1, h2, h3, h4, h5, h6⟩ := h.own
    exact ⟨cap, arr, ht ▸ h1, h2, h3, hb.trans h4, h5, h6⟩
  row := fun k m v hm hv => (h.row k m v hm hv).mono he.pr (fun b' hb' => by rw [hu]; exact hb') (fun b' hb' _ => ho b' hb')
  dis := h.dis
/-- Such a list, the values of its rows known; and not known. -/
def nlV (e eo : TypeId) (N : Nat) (M : List (Bool × List D)) (Vs : List Value) : OB where
  φ := fun g w id b => NlAt g w id b e eo N M Vs
  st := fun he ht hu hb ho h => h.st he ht hu hb ho
  fr := false
  fre := fun h => by cases h
def nlO (e eo : TypeId) (N : Nat) (M : List (Bool × List D)) : OB where
  φ := fun g w id b => ∃ Vs, NlAt g w id b e eo N M Vs
  st := fun he ht hu hb ho ⟨Vs, h⟩ => ⟨Vs, h.st he ht hu hb ho⟩
  fr := true
  fre := fun _ {g g' w i j b} hP ht hu ⟨Vs, h⟩ => ⟨Vs, ⟨h.len, h.n, by rw [ht]; exact h.own, fun k m v hm hv => RowAt.mono (g := g) (g' := g') (id := i) (id' := j) (fun b o hp => ⟨by rw [hP]; exact hp, rfl⟩) (fun b' hb' => by rw [hu]; exact hb') (fun _ _ _ => rfl) (h.row k m v hm hv), h.dis⟩⟩
section
variable {F : FC} {K : St → Prop} {ops : Array Oper} {os : List Oper} {E : Nat → V} {H : List HE} {e eo : TypeId} {N : Nat} {M : List (Bool × List D)}
end

/-! ### operations, the lists as plain Lean -/
def nlD {α : Type} (f : α → D) (M : List (Bool × List α)) : List (Bool × List D) := M.map fun r => (r.1, r.2.map f)
section
variable {P : Program} {ρ : Operand → V} {H : List HE} {ty : TypeId} {α : Type} {f : α → D} {e eo : TypeId} {N : Nat} {M : List (Bool × List α)} {Vs : List Value}
theorem set_cases {H : List HE} {id : Nat} {x : HE} (h : id < H.length) {i : Nat} {e : HE} (he : (H.set id x)[i]? = some e) : (i = id ∧ e = x) ∨ (i ≠ id ∧ H[i]? = some e) := by
  by_cases hi : i = id
  · subst hi; rw [List.getElem?_set_self h] at he; exact .inl ⟨rfl, (Option.some.inj he).symm⟩
  · rw [List.getElem?_set_ne (Ne.symm hi)] at he; exact .inr ⟨hi, he⟩

theorem put_get {arr : Array Value} {v : Value} {i k : Nat} {u : Value} (hi : i < arr.size) (h : (arr.toList.take (i + 0) ++ (#[v] : Array Value).toList ++ arr.toList.drop (i + 0 + (#[v] : Array Value).toList.length)).toArray[k]? = some u) :
    (k = i ∧ u = v) ∨ (k ≠ i ∧ arr[k]? = some u) := by
  simp only [Nat.add_zero, List.getElem?_toArray] at h
  have l2 : (List.take i arr.toList).length = i := by simp; omega
  rw [List.append_assoc] at h
  by_cases hk : k < i
  · rw [List.getElem?_append_left (by omega), List.getElem?_take, if_pos hk, Array.getElem?_toList] at h
    exact .inr ⟨by omega, h⟩
  · rw [List.getElem?_append_right (by omega), l2] at h
    by_cases hk2 : k = i
    · subst hk2
      simp at h
      exact .inl ⟨rfl, h.symm⟩
    · rw [List.getElem?_append_right (by simp; omega), List.getElem?_drop, Array.getElem?_toList] at h
      refine .inr ⟨hk2, ?_⟩
      rw [← h]; congr 1; simp; omega
end

section
variable {F : FC} {Q : Exit → St → Prop} {c y : Code} {st : St} {ops : Array Oper}
end
section
variable {P : Program} {ρ : Operand → V} {H : List HE} {ty : TypeId} {α : Type} {f : α → D} {e eo : TypeId} {N : Nat} {M : List (Bool × List α)} {Vs : List Value}
end
end Go.Proofs.YtlbiooppadlolaaGreatDoor.Ab
end
section
namespace Go.Proofs.YtlbiooppadlolaaGreatDoor.Ab
open Go

theorem flat_lenE {α : Type} {f : α → D} {s : Nat} (hf : En f s) (l : List α) : (D.flat (l.map f)).length = l.length * s := by
  induction l with
  | nil => simp [D.flat]
  | cons y l ih => rw [List.map_cons, flat_cons, List.length_append, ih, hf.sz]; simp [Nat.add_mul, Nat.add_comm]

section
variable {P : Program} {ρ : Operand → V} {H : List HE} {ty : TypeId} {α : Type} {f : α → D} {l : List α} {v : α} {s : Nat} {a : Int}
end
end Go.Proofs.YtlbiooppadlolaaGreatDoor.Ab
end
section
namespace Go.Proofs.YtlbiooppadlolaaGreatDoor.Ab
open Go

theorem subA_pos {b cap off s len : Nat} (h : 0 < len) (hc : len + off ≤ cap) : subA (some ⟨b, 0, none⟩) cap off s = some ⟨b, off * s, none⟩ := by
  unfold subA
  split
  · rename_i h0; subst h0; simp
  · rw [if_neg (by omega)]
    simp only [Option.map_some, Addr.add]
    split
    · rename_i h1; rw [h1]
    · simp
section
variable {P : Program} {ρ : Operand → V} {H : List HE} {ty : TypeId} {α : Type} {f : α → D} {l r : List α} {v : α} {s : Nat} {a lo : Int}
/-- The value of a piece that is not empty. -/
theorem piece_form {g : G} {w : World} {id off len : Nat} {u : Value} {e : TypeId} {ls : List D} (hw : WOK g w H) (hH : H[id]? = some (.lst ls e s)) (hr : Rep g w (.hs id off len s) u) (hlen : 0 < len) :
    ∃ b cap arr, u = .slice (some ⟨b, off * s, none⟩) len (cap - off) ∧ len + off ≤ cap ∧ g.τ id = some (0, some ⟨b, 0, none⟩, cap) ∧ 0 < cap ∧ ls.length ≤ cap ∧ g.σ id = some b ∧ w.heap[b]? = some (.cells arr e (0, 0)) ∧ arr.size = cap * s ∧ (∀ (k : Nat) x v, (D.flat ls)[k]? = some x → arr[k]? = some v → RepD g.Pr w x v) := by
  obtain ⟨a1, cap, f1, f2, f3, f4⟩ := hw.lst id ls e s hH
  cases hr with
  | hs p1 p2 =>
    rw [f1] at p1; injection p1 with p1; injection p1 with p1 p3; injection p3 with p3 p4
    subst p1; subst p3; subst p4
    obtain ⟨r1, r2, r3, r4⟩ := p2 rfl
    obtain ⟨b, arr, q1, q0, q2, q3, q4, q5⟩ := f4 (by omega)
    subst q1
    rw [subA_pos hlen r4] at r1
    subst r1; subst r2; subst r3
    exact ⟨b, cap, arr, rfl, r4, f1, by omega, f2, q0, q2, q3, q5⟩
theorem op_indexAddr_pc {x y : Operand} {t e bytes id : Nat} {k : IntKind} {ls : List D} (hx : Is (ρ x) (.hs id lo.toNat r.length s)) (hlo : 0 ≤ lo) (hH : H[id]? = some (.lst ls e s))
    (hy : As (ρ y) (.int k a)) (hv : ix r a = some v) (ht : SlT P t e s bytes) : OpV P (.indexAddr t x y) ty ρ H (.ptr id ((lo + a).toNat * s)) H :=
  OpV.of_val fun g w rr hw h => by
    have h1 := hx.rep (h x (by simp [Op.operands]))
    have h2 := hy.int (h y (by simp [Op.operands]))
    obtain ⟨i, hi, hv'⟩ := ix_nat hv
    subst hi
    have hil : i < r.length := (List.getElem?_eq_some_iff.1 hv').1
    obtain ⟨b, cap, arr, e1, e2, _, _, _, q0, _⟩ := piece_form hw hH h1 (by omega)
    obtain ⟨ie, z, hie, hsz, _⟩ := ht.i
    have e3 : (lo + (i : Int)).toNat = lo.toNat + i := by omega
    refine ⟨.pointer (some ⟨b, (lo + (i : Int)).toNat * s, none⟩), fun _ _ _ _ => ?_, .ptr q0⟩
    rw [e3, Nat.add_mul]
    simp [execOp, Instr.indexAt, asIntOf, e1, h2, run_underlying ht.u, hil, run_sizeOf' hie, hsz, Addr.add]
theorem op_load_lp1 {x : Operand} {t id : Nat} {e : TypeId} (h1 : ∀ x, (f x).cells = [f x]) (hx : Is (ρ x) (.ptr id (a.toNat * 1))) (hH : H[id]? = some (.lst (l.map f) e 1)) (hv : ix l a = some v) (ht : Sc P t) :
    OpV P (.load t x) ty ρ H (.d (f v)) H := op_load_lp h1 (by rwa [Nat.mul_one] at hx) hH hv ht
theorem slc_lo {l r : List α} {lo hi : Int} (h : slc l lo hi = some r) : 0 ≤ lo := by
  unfold slc at h
  split at h
  · omega
  · cases h
/-- A list whose piece is made zero. -/
def clrL (l : List α) (off len : Nat) (z : α) : List α := l.take off ++ List.replicate len z ++ l.drop (off + len)
theorem clrL_len {off len : Nat} {z : α} (h : off + len ≤ l.length) : (clrL l off len z).length = l.length := by simp [clrL]; omega
theorem zeros_at {zs : Array Value} {n k : Nat} {v : Value} (h : (Builtin.zeroCells zs n).toList[k]? = some v) : ∃ q, q = k % zs.size ∧ zs[q]? = some v := by
  have hk : k < n * zs.size := by
    have := (List.getElem?_eq_some_iff.1 h).1
    simpa [Builtin.zeroCells] using this
  have hs : 0 < zs.size := by
    rcases Nat.eq_zero_or_pos zs.size with h0 | h0
    · rw [h0] at hk; simp at hk
    · exact h0
  have hq : k % zs.size < zs.size := Nat.mod_lt _ hs
  refine ⟨_, rfl, ?_⟩
  simp only [Builtin.zeroCells, Array.toList_map, Array.toList_range, List.getElem?_map, List.getElem?_range hk, Option.map_some, Option.some.injEq] at h
  rw [← h, getElem!_pos zs _ hq, Array.getElem?_eq_getElem hq]
theorem zeros_len {zs : Array Value} {n : Nat} : (Builtin.zeroCells zs n).toList.length = n * zs.size := by simp [Builtin.zeroCells]
theorem set_self {H : List HE} {id : Nat} {e : HE} (h : H[id]? = some e) : H.set id e = H := by
  obtain ⟨h1, h2⟩ := List.getElem?_eq_some_iff.1 h
  rw [← h2]; exact List.set_getElem_self h1
theorem op_clear {z : α} {x : Operand} {t e bytes id off len : Nat} {zs : List Value} (hf : En f s) (hx : Is (ρ x) (.hs id off len s)) (hH : H[id]? = some (.lst (l.map f) e s)) (hlen : off + len ≤ l.length) (ht : SlT P t e s bytes) (hz : Zr P e zs) (hfz : (f z).cells = zs.map absC) :
    OpV P (.call ⟨.builtin .clear, #[x], #[t]⟩) ty ρ H (.tup []) (H.set id (.lst ((clrL l off len z).map f) e s)) := by
  intro g w rr pos after guard dst hw h
  have hxr := hx.rep (h x (by simp [Op.operands, Call.operands]))
  obtain ⟨inf, zv, hi, hsz, hby, hz1, hz2⟩ := ht.i
  obtain ⟨inf', zv', k1, k2, k3, k4⟩ := hz.z
  rw [hi] at k1; injection k1 with k1; subst k1
  rw [hz1] at k2; injection k2 with k2; subst k2
  have hzs : zv.cells.size = s := by omega
  by_cases h0 : len = 0
  · subst h0
    have e0 : clrL l off 0 z = l := by simp [clrL]
    rw [e0, set_self hH]
    have hv : ∃ a0 c0, rr x = .slice a0 0 c0 := by
      generalize hu : rr x = u at hxr
      cases hxr with
      | hs p1 p2 =>
        obtain ⟨ad, cap, f1, f2, f3, f4⟩ := hw.lst id _ e s hH
        rw [f1] at p1; injection p1 with p1; injection p1 with p1 p3
        obtain ⟨r1, r2, r3, r4⟩ := p2 p1.symm
        subst r2; exact ⟨_, _, rfl⟩
    obtain ⟨a0, c0, hv⟩ := hv
    have hrun : (execOp rr ⟨dst, .call ⟨.builtin .clear, #[x], #[t]⟩, ty, pos, after, guard⟩).run P w = .ok (.value (.tuple #[])) w := by
      cases a0 <;> simp [execOp, resolve, invoke, builtin, Builtin.clear_, run_underlying ht.u, hv]
    unfold OpRuns
    rw [hrun]
    exact ⟨g, hw, Evo.refl g w, .tup rfl (by simp)⟩
  · obtain ⟨b, cap, arr, e1, e2, e3, e4, e5, q0, q2, q3, q5⟩ := piece_form hw hH hxr (by omega)
    have hcl : (Builtin.zeroCells zv.cells len).toList.length = len * s := by rw [zeros_len, hzs]
    have hls := flat_lenE hf l
    have hoff : off * s + len * s ≤ l.length * s := by rw [← Nat.add_mul]; exact Nat.mul_le_mul_right s hlen
    have hll : l.length * s ≤ arr.size := by rw [q3]; exact Nat.mul_le_mul_right s (by simpa using e5)
    have hone : ∀ v ∈ (Builtin.zeroCells zv.cells len).toList, v.oneCell' = true := fun v hv => by
      obtain ⟨j, hj⟩ := List.getElem?_of_mem hv
      obtain ⟨q, _, hq⟩ := zeros_at hj
      have h5 : (f z).cells[q]? = some (absC v) := by rw [hfz, ← k3, List.getElem?_map, Array.getElem?_toList, hq]; rfl
      have h6 := hf.one z (absC v) (List.mem_of_getElem? h5)
      exact (RepD.absC g.Pr w v).one h6
    have hst := run_storeCells_at P b (off * s) e (Builtin.zeroCells zv.cells len).toList 0 arr w q2 (by rw [hcl]; omega) hone
    have hrun : (execOp rr ⟨dst, .call ⟨.builtin .clear, #[x], #[t]⟩, ty, pos, after, guard⟩).run P w = .ok (.value (.tuple #[])) (w.setRow b (arr.toList.take (off * s + 0) ++ (Builtin.zeroCells zv.cells len).toList ++ arr.toList.drop (off * s + 0 + (Builtin.zeroCells zv.cells len).toList.length)).toArray) := by
      obtain ⟨m, rfl⟩ : ∃ m, len = m + 1 := ⟨len - 1, by omega⟩
      simp [execOp, resolve, invoke, builtin, Builtin.clear_, run_underlying ht.u, e1, run_zeroValue' hi hz1, hst]
    unfold OpRuns
    rw [hrun]
    refine ⟨g, ?_⟩
    have key := WOK.storeLst (w' := w.setRow b (arr.toList.take (off * s + 0) ++ (Builtin.zeroCells zv.cells len).toList ++ arr.toList.drop (off * s + 0 + (Builtin.zeroCells zv.cells len).toList.length)).toArray) (l' := (clrL l off len z).map f)
      (arr' := (arr.toList.take (off * s + 0) ++ (Builtin.zeroCells zv.cells len).toList ++ arr.toList.drop (off * s + 0 + (Builtin.zeroCells zv.cells len).toList.length)).toArray) hw hH e3 e4 q0 ⟨rfl, rfl, rfl⟩ (setRow_size w b _) (setRow_heap w b arr _ e _ q2) (fun b'' hne => setRow_other w b b'' _ hne)
      (by rw [List.length_map, clrL_len hlen]; simpa using e5) (by rw [← q3]; simp [hcl]; omega) (fun k x u hx hu' => by
        have hX : D.flat ((clrL l off len z).map f) = (D.flat (l.map f)).take (off * s) ++ D.flat ((List.replicate len z).map f) ++ (D.flat (l.map f)).drop (off * s + len * s) := by
          have hsplit : ∀ (n : Nat), n ≤ l.length → (D.flat (l.map f)).take (n * s) = D.flat ((l.take n).map f) ∧ (D.flat (l.map f)).drop (n * s) = D.flat ((l.drop n).map f) := fun n hn => by
            have e : l.map f = (l.take n).map f ++ (l.drop n).map f := by rw [← List.map_append, List.take_append_drop]
            have e' : D.flat (l.map f) = D.flat ((l.take n).map f) ++ D.flat ((l.drop n).map f) := by rw [e]; simp only [D.flat, List.flatMap_append]
            have hlen' : (D.flat ((l.take n).map f)).length = n * s := by rw [flat_lenE hf, List.length_take]; rw [Nat.min_eq_left hn]
            rw [e', ← hlen', List.take_left, List.drop_left]
            exact ⟨rfl, rfl⟩
          rw [← Nat.add_mul, (hsplit off (by omega)).1, (hsplit (off + len) hlen).2]
          simp only [clrL, List.map_append, D.flat, List.flatMap_append]
        simp only [Nat.add_zero, List.getElem?_toArray, hX, hcl] at hx hu'
        have hz0 : (D.flat ((List.replicate len z).map f)).length = len * s := by rw [flat_lenE hf, List.length_replicate]
        have l1 : (List.take (off * s) (D.flat (l.map f))).length = off * s := by simp; omega
        have l2 : (List.take (off * s) arr.toList).length = off * s := by simp; omega
        by_cases hk : k < off * s
        · rw [List.append_assoc, List.getElem?_append_left (by omega), List.getElem?_take, if_pos hk] at hx hu'
          rw [Array.getElem?_toList] at hu'
          exact q5 k x u hx hu'
        · rw [List.append_assoc, List.getElem?_append_right (by omega)] at hx hu'
          rw [l1] at hx
          rw [l2] at hu'
          by_cases hk2 : k - off * s < len * s
          · rw [List.getElem?_append_left (by omega)] at hx
            rw [List.getElem?_append_left (by omega)] at hu'
            rw [List.map_replicate] at hx
            obtain ⟨j, h7, h8⟩ := flat_rep (s := s) (hf.sz z) rfl hx
            obtain ⟨q, h9, h10⟩ := zeros_at hu'
            rw [hzs] at h9
            have : j = q := by omega
            subst this
            rw [hfz, ← k3, List.getElem?_map, Array.getElem?_toList, h10] at h7
            simp only [Option.map_some, Option.some.injEq] at h7
            rw [← h7]; exact RepD.absC g.Pr w u
          · rw [List.getElem?_append_right (by omega), List.getElem?_drop, hz0] at hx
            rw [List.getElem?_append_right (by omega), List.getElem?_drop, Array.getElem?_toList, hcl] at hu'
            exact q5 _ x u hx hu')
    exact ⟨key.1, key.2, .tup rfl (by simp)⟩
end
end Go.Proofs.YtlbiooppadlolaaGreatDoor.Ab
end
