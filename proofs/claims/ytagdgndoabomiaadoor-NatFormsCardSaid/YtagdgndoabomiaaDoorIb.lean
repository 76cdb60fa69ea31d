/- slices.Backward over a list of ints, and nat.Int, whose loop it is. Conditions: none. -/
import Derived.RangeFuncBox
import Derived.RangeFuncLeaves
import Derived.Shelf.Abstract
import Derived.WalkKit
import Derived.OwnWalkIn
import Derived.TacticsInMore
import Derived.LoopNIn
import Derived.LoopIn
import Derived.Test.YtagdgndoabomiaaDoorFc
namespace Go.Proofs.YtagdgndoabomiaaDoor.Ab
open Go Go.Proofs Go.RowKit Go.Shelf

attribute [local go_sem] Oper.semAt_some

namespace Bk
/-- WHAT HAS COME WHEN k ROUNDS ARE OVER. -/
def upto {α : Type} (f : Nat → α) (k : Nat) : List α := (List.range k).map f
theorem upto_succ {α : Type} (f : Nat → α) (k : Nat) : upto f (k + 1) = upto f k ++ [f k] := by simp [upto, List.range_succ]
theorem upto_length {α : Type} (f : Nat → α) (k : Nat) : (upto f k).length = k := by simp [upto]
/-- The round k of a loop from the end: the place and what stands there. -/
def pr (zs : List Int) (k : Nat) : Nat × Int := (zs.length - 1 - k, zs[zs.length - 1 - k]?.getD 0)
theorem upto_all (zs : List Int) : (upto (pr zs) zs.length).map (·.2) = zs.reverse := by
  apply List.ext_getElem
  · simp [upto]
  · intro i h1 h2
    simp [upto, pr] at h1 ⊢
    have : zs.length - 1 - i < zs.length := by omega
    simp [this]

/-- What lay below n₀ stays, and so does the block Bs. -/
def KB (n₀ Bs : Nat) (A B : World) : Prop := Below n₀ A B ∧ B.heap[Bs]? = A.heap[Bs]?
theorem KB.refl (n₀ Bs : Nat) (w : World) : KB n₀ Bs w w := ⟨Below.refl _ _, rfl⟩
theorem KB.trans {n₀ Bs : Nat} {A B C : World} (h : KB n₀ Bs A B) (k : KB n₀ Bs B C) : KB n₀ Bs A C := ⟨h.1.trans k.1, k.2.trans h.2⟩
theorem KB.box {n₀ Bs : Nat} {A B : World} (h : KB n₀ Bs A B) : B.cell? ⟨Bs, 0, none⟩ = A.cell? ⟨Bs, 0, none⟩ := by simp only [World.cell?, h.2]
theorem KB.b {n₀ Bs : Nat} {w : World} (hn : n₀ ≤ w.heap.size) (hB : Bs < w.heap.size) (W : World) (l : Nat) (o o' : Obj) (hl : w.heap.size ≤ l) (h : W.heap[l]? = some o) (h1 : o.isCells = false) (h2 : o.isWalk = false) : KB n₀ Bs W (W.putObj l o') :=
  ⟨belowK_b hn W l o o' hl h h1 h2, World.putObj_heap_other (by omega)⟩

set_option maxRecDepth 100000 in
set_option maxHeartbeats 2000000 in
theorem back1_in (F : Fence) (n : Nat) (h8 : F.fn 73) (hro : F.round = none) (hn : 1 ≤ n) (l Bs n₀ b off cap : Nat) (zs : List Int) (hreach : zs.length * 8 ≤ 140737488351232) (hb : b < n₀) (J Jx : List (Nat × Int) → World → Prop)
    (hY : ∀ pre x W, J pre W → pre.length < zs.length → YieldAt F (n - 1) Tryd.prog l #[.int .i64 (x.1 : Int), .int .i64 x.2] W fun e W' =>
      (e = .returned (.bool true) ∧ J (pre ++ [x]) W' ∧ KB n₀ Bs W W') ∨ (e = .returned (.bool false) ∧ Jx (pre ++ [x]) W'))
    (W : World) (hBs : W.cell? ⟨Bs, 0, none⟩ = some (.slice (some ⟨b, off, none⟩) zs.length cap)) (hc : ∀ j, j < zs.length → W.cell? ⟨b, off + j, none⟩ = some (.int .i64 (zs[j]?.getD 0))) (h0 : J [] W) :
    CallsIn F n Tryd.prog 73 #[.func (.yield l) #[] #[], .pointer (some ⟨Bs, 0, none⟩)] W fun e W' => (∃ v, e = .returned v) ∧
      ((∃ ys, ys = upto (pr zs) zs.length ∧ J ys W') ∨ (∃ pre, (∃ k, k ≤ zs.length ∧ pre = upto (pr zs) k) ∧ Jx pre W')) := by
  generalize hL : zs.length = len at *
  have hlen : (len : Int) ≤ 9223372036854775807 := by omega
  refine callsIn_of_wp Tryd.func73 rfl h8 ?_ hro
  simp only [Tryd.ntmps73, List.size_toArray, List.length_cons, List.length_nil, Nat.reduceAdd, Nat.reduceSub, Array.replicate_succ, Array.replicate_zero, List.push_toArray, List.append_toArray, List.nil_append, List.cons_append]
  gi_wp2
  gi_loopw [3] (fun i wr => ∃ m : Nat, m ≤ len ∧ i = .int .i64 ((m : Int) - 1) ∧ J (upto (pr zs) (len - m)) wr ∧ KB n₀ Bs W wr)
    (fun i _ => (intOf i + 1).toNat)
  case atStart => exact ⟨len, Nat.le_refl _, rfl, by rw [Nat.sub_self]; exact h0, KB.refl _ _ _⟩
  case round =>
    obtain ⟨m, hk, rfl, hJs, hnx⟩ := hrel
    have hBx : wr.cell? ⟨Bs, 0, none⟩ = some (.slice (some ⟨b, off, none⟩) len cap) := hnx.box.trans hBs
    rcases m with _ | m
    · rw [Nat.sub_zero] at hJs
      gi_wp2
      go_end0
      exact ⟨⟨_, rfl⟩, .inl ⟨_, rfl, hJs⟩⟩
    · have em : ((m + 1 : Nat) : Int) - 1 = (m : Int) := by omega
      rw [em]
      have hcx' : wr.cell? ⟨b, off + m, none⟩ = some (.int .i64 (zs[m]?.getD 0)) := (hnx.1.cell (p := ⟨b, off + m, none⟩) hb).trans (hc m (by omega))
      obtain ⟨fn, tmps, assign, body, hy, hR⟩ := hY _ (m, zs[m]?.getD 0) wr hJs (by rw [upto_length]; omega)
      dsimp only at hy
      have hlt : m < len := by omega
      have ef : pr zs (len - (m + 1)) = (m, zs[m]?.getD 0) := by
        have e : len - 1 - (len - (m + 1)) = m := by omega
        simp only [pr, hL, e]
      have eu : upto (pr zs) (len - m) = upto (pr zs) (len - (m + 1)) ++ [(m, zs[m]?.getD 0)] := by
        rw [show len - m = (len - (m + 1)) + 1 by omega, upto_succ, ef]
      clear hc ef
      generalize zs[m]?.getD 0 = z at *
      gi_wp2
      refine hR.mono ?_
      rintro e W3 (⟨rfl, hJ3, hk3⟩ | ⟨rfl, hJx3⟩)
      · gi_wp2
        go_roundw
        case rel => exact ⟨m, by omega, (by try simp), by rw [eu]; exact hJ3, hnx.trans hk3⟩
        case measure => simp [intOf]
      · gi_wp2
        refine bodyPost_ret (results_none rfl _ _ _) rfl ?_
        exact ⟨⟨_, rfl⟩, .inr ⟨_, ⟨len - m, by omega, eu.symm⟩, hJx3⟩⟩

set_option maxRecDepth 100000 in
set_option maxHeartbeats 1000000 in
theorem back1_nil_in (F : Fence) (n : Nat) (h8 : F.fn 73) (hro : F.round = none) (l Bs cap : Nat) (ad : Option Addr) (J : List (Nat × Int) → World → Prop) (W : World) (hBs : W.cell? ⟨Bs, 0, none⟩ = some (.slice ad 0 cap)) (h0 : J [] W) :
    CallsIn F n Tryd.prog 73 #[.func (.yield l) #[] #[], .pointer (some ⟨Bs, 0, none⟩)] W fun e W' => (∃ v, e = .returned v) ∧ J [] W' := by
  refine callsIn_of_wp Tryd.func73 rfl h8 ?_ hro
  simp only [Tryd.ntmps73, List.size_toArray, List.length_cons, List.length_nil, Nat.reduceAdd, Nat.reduceSub, Array.replicate_succ, Array.replicate_zero, List.push_toArray, List.append_toArray, List.nil_append, List.cons_append]
  gi_wp2
  gi_loopw [3] (fun i wr => i = .int .i64 (-1) ∧ J [] wr) (fun _ _ => 0)
  case atStart => exact ⟨rfl, h0⟩
  case round =>
    obtain ⟨rfl, hJs⟩ := hrel
    gi_wp2
    go_end0
    exact ⟨⟨_, rfl⟩, hJs⟩

set_option maxHeartbeats 1000000 in
theorem back_in (F : Fence) (n : Nat) (h5 : F.fn 62) (hro : F.round = none) (a : Option Addr) (len cap : Nat) (w : World) :
    CallsIn F n Tryd.prog 62 #[.slice a len cap] w fun e w' => e = .returned (.func (.func 73) #[] #[.pointer (some ⟨w.heap.size, 0, none⟩)]) ∧ w' = w.alloc (.cells #[.slice a len cap] 29) := by
  refine callsIn_of_wp Tryd.func62 rfl h5 ?_ hro
  simp only [Tryd.ntmps62, List.size_toArray, List.length_cons, List.length_nil, Nat.reduceAdd, Nat.reduceSub, Array.replicate_succ, Array.replicate_zero, List.push_toArray, List.append_toArray, List.nil_append, List.cons_append]
  gi_wp2
  go_ret
  exact ⟨rfl, rfl⟩

/-- The slice value holds the ints zs, in a block below n₀; or it holds none. -/
def Ints (n₀ : Nat) (W : World) (sv : Value) (zs : List Int) : Prop :=
  (∃ ad cap, sv = .slice ad 0 cap ∧ zs = []) ∨ ∃ b off cap, sv = .slice (some ⟨b, off, none⟩) zs.length cap ∧ b < n₀ ∧ ∀ j, j < zs.length → W.cell? ⟨b, off + j, none⟩ = some (.int .i64 (zs[j]?.getD 0))
theorem Ints.below {n₀ : Nat} {A B : World} (h : Below n₀ A B) {sv : Value} {zs : List Int} : Ints n₀ A sv zs → Ints n₀ B sv zs
  | .inl e => .inl e
  | .inr ⟨b, off, cap, e, hb, hc⟩ => .inr ⟨b, off, cap, e, hb, fun j hj => (h.cell (p := ⟨b, off + j, none⟩) hb).trans (hc j hj)⟩

theorem back_stops (F : Fence) (n : Nat) (h8 : F.fn 73) (hro : F.round = none) (hn : 1 ≤ n) (Bs n₀ : Nat) (sv : Value) (zs : List Int) (hreach : zs.length * 8 ≤ 140737488351232) (w : World) (hBs : Bs < w.heap.size) (hn₀ : n₀ ≤ w.heap.size)
    (hc : w.cell? ⟨Bs, 0, none⟩ = some sv) (hI : Ints n₀ w sv zs) :
    SeqStopsK F n Tryd.prog 73 #[.pointer (some ⟨Bs, 0, none⟩)] (fun x : Nat × Int => #[Value.int .i64 (x.1 : Int), Value.int .i64 x.2]) (KB n₀ Bs) (fun ys => ys = upto (pr zs) zs.length)
      (fun pre => ∃ k, k ≤ zs.length ∧ pre = upto (pr zs) k) zs.length w := fun l J Jx W hW _ _ hY h0 => by
  have hc' := (hW.cell (p := ⟨Bs, 0, none⟩) hBs).trans hc
  rcases hI.below (hW.mono hn₀) with ⟨ad, cap, rfl, rfl⟩ | ⟨b, off, cap, rfl, hb, hcs⟩
  · exact (back1_nil_in F n h8 hro l Bs cap ad J W hc' h0).mono fun e W' ⟨he, hj⟩ => ⟨he, .inl ⟨_, rfl, hj⟩⟩
  · exact back1_in F n h8 hro hn l Bs n₀ b off cap zs hreach hb J Jx hY W hc' hcs h0


def sumB : List (Nat × Int) → Int := List.foldl (fun s x => wrap64 (wrap64 (65536 * s) + x.2)) 0
theorem sumB_snoc (pre : List (Nat × Int)) (x : Nat × Int) : sumB (pre ++ [x]) = wrap64 (wrap64 (65536 * sumB pre) + x.2) := by simp [sumB]
theorem sumB_all (zs : List Int) : sumB (upto (pr zs) zs.length) = zs.foldr (fun x y => wrap64 (wrap64 (65536 * y) + x)) 0 := by
  have : sumB (upto (pr zs) zs.length) = ((upto (pr zs) zs.length).map (·.2)).foldl (fun s d => wrap64 (wrap64 (65536 * s) + d)) 0 := by simp [sumB, List.foldl_map]
  rw [this, upto_all, List.foldl_reverse]

set_option maxRecDepth 100000 in
set_option maxHeartbeats 4000000 in
/-- nat.Int, given what the functions that it calls do. -/
theorem int_in (a : Option Addr) (len cap : Nat) (zs : List Int) (vb : Bool) (cv : Int) (w : World)
    (hV : CallsIn Fence.wide 8 Tryd.prog 41 #[.slice a len cap] w fun e w' => e = .returned (.bool vb) ∧ Below w.heap.size w w')
    (hS : vb = true → ∀ w1, Below w.heap.size w w1 → CallsIn Fence.wide 8 Tryd.prog 61 #[.int .i64 4611686018427387904] w1 fun e w' => ∃ sv, e = .returned sv ∧ Below w.heap.size w w' ∧
      CallsIn Fence.wide 8 Tryd.prog 56 #[.slice a len cap, sv] w' fun e w'' => e = .returned (.int .i64 cv) ∧ Below w.heap.size w w'')
    (hI : vb = true → cv ≤ 0 → Ints w.heap.size w (.slice a len cap) zs ∧ zs.length * 8 ≤ 140737488351232) :
    CallsIn Fence.wide 9 Tryd.prog 39 #[.slice a len cap] w fun e W' => e = .returned (.tuple (if vb = false then #[.int .i64 0, .int .i64 1] else if 0 < cv then #[.int .i64 0, .int .i64 2] else #[.int .i64 (zs.reverse.foldl (fun s d => wrap64 (wrap64 (65536 * s) + d)) 0), .int .i64 0])) ∧ Below w.heap.size w W' := by
  have hro : Fence.wide.round = none := rfl
  have f1 : Fence.wide.fn 41 := trivial
  have f2 : Fence.wide.fn 61 := trivial
  have f3 : Fence.wide.fn 56 := trivial
  have f4 : Fence.wide.fn 62 := trivial
  have f5 : Fence.wide.fn 73 := trivial
  refine callsIn_of_wp_marks Tryd.func39 rfl trivial ?_ hro
  simp only [Tryd.ntmps39, List.size_toArray, List.length_cons, List.length_nil, Nat.reduceAdd, Nat.reduceSub, Array.replicate_succ, Array.replicate_zero, List.push_toArray, List.append_toArray, List.nil_append, List.cons_append]
  have arm : True := trivial
  rcases vb with _ | _
  · gi_wp2_with (gi_at_call 41; refine hV.mono ?_; rintro e w1 ⟨rfl, hb1⟩)
    exact ⟨_, results_tmp2 rfl _ _ _, rfl, hb1⟩
  · have hS2 := hS rfl; clear hS
    have hI3 := hI rfl; clear hI
    by_cases hcv : 0 < cv
    · gi_wp2_with (first
        | (gi_at_call 41; refine hV.mono ?_; rintro e w1 ⟨rfl, hb1⟩)
        | (gi_at_call 61; refine (hS2 _ (by assumption)).mono ?_; rintro e w2 ⟨sv, rfl, hb2, hC⟩)
        | (gi_at_call 56; refine hC.mono ?_; rintro e w3 ⟨rfl, hb3⟩))
      exact ⟨_, results_tmp2 rfl _ _ _, by simp [hcv], by assumption⟩
    · gi_wp2_with (first
        | (gi_at_call 41; refine hV.mono ?_; rintro e w1 ⟨rfl, hb1⟩)
        | (gi_at_call 61; refine (hS2 _ (by assumption)).mono ?_; rintro e w2 ⟨sv, rfl, hb2, hC⟩)
        | (gi_at_call 56; refine hC.mono ?_; rintro e w3 ⟨rfl, hb3⟩)
        | (gi_at_call 62; refine (back_in Fence.wide 8 trivial hro _ _ _ _).mono ?_; rintro e w' ⟨rfl, rfl⟩))
      obtain ⟨hI2, hreach⟩ := hI3 (by omega)
      have hsz := hb3.size
      have bN := Boxed.new w3 3 (.int .i64 0)
      have bS := Boxed.new (w3.alloc (.cells #[.int .i64 0] 3)) 29 (.slice a len cap)
      rw [World.size_alloc] at bS
      have hB0 : Below w.heap.size w ((w3.alloc (.cells #[.int .i64 0] 3)).alloc (.cells #[.slice a len cap] 29)) := (hb3.alloc hsz _).alloc (by simp; omega) _
      refine wpIn_rangeFunc_ownG hro (by omega) (gf := 73) (lb := #[.pointer (some ⟨w3.heap.size + 1, 0, none⟩)]) rfl trivial (enters_of Tryd.func73 (by kernel_rfl) rfl)
        (back_stops Fence.wide 8 trivial hro (by omega) (w3.heap.size + 1) w.heap.size _ zs hreach _ (by simp) (by simp; omega) bS.cell (hI2.below hB0)) KB.trans (KB.b (by simp; omega) (by simp)) (Below.refl _ _) (fun _ => rfl)
        (fun pre W => (W.cell? ⟨w3.heap.size, 0, none⟩ = some (.int .i64 (sumB pre)) ∧ W.frozen? ⟨w3.heap.size, 0, none⟩ = false) ∧ Below w.heap.size w W)
        (fun _ _ _ => False)
        (OwnFrom.and (Own.from (fun s A B row hs hg hr => ⟨cell_kept hs.1 hg hr, (frozen_kept hs.1 hg hr).trans hs.2⟩) _) (ownFrom_below (Nat.le_refl _) (by simp; omega)))
        (fun _ _ _ _ _ hs _ _ => hs)
        ⟨⟨(bN.alloc _).cell, (bN.alloc _).frozen⟩, hB0⟩
        (fun x => { tmps := #[.slice a len cap, undef, .int .i64 0, .int .i64 0, .pointer (some ⟨w3.heap.size, 0, none⟩), undef, .int .i64 x.2, .bool false, .slice a len cap, .bool true, .bool false, .bool (decide (0 < cv)), .slice a len cap, sv, .int .i64 cv, .bool (decide (0 < cv)), .slice a len cap,
            .func (.func 73) #[] #[.pointer (some ⟨w3.heap.size + 1, 0, none⟩)], .int .i64 (x.1 : Int), .int .i64 x.2, undef, undef, undef, undef, undef], defers := [] }) ?assign ?body ?done ?stop
      case assign =>
        intro l x W K hK
        gi_wp2
        exact hK
      case body =>
        rintro l pre x W ⟨⟨hc, hf⟩, hB⟩ _
        gi_wp2
        refine ⟨(KeepsOthers.setCell _ _ _).from _, ⟨(Below.refl w.heap.size W).setCell (p := ⟨w3.heap.size, 0, none⟩) hsz _, Below.heap_setCell _ _ _ _ (by simp)⟩,
          ⟨by rw [sumB_snoc]; exact World.cell?_setCell_same' _ _ _ (by rw [hc]; rfl), by rw [World.frozen?_setCell]; exact hf⟩, hB.setCell (p := ⟨w3.heap.size, 0, none⟩) hsz _⟩
      case done =>
        rintro D ys W hD rfl ⟨⟨hc, _⟩, hB⟩ hK
        gi_wp2
        · refine ⟨by simp, .inl ⟨_, _, rfl, run_takeDeferred hK, ?_⟩⟩
          exact ⟨_, results_tmp2 rfl _ _ _, by rw [sumB_all]; simp, hB.trans (belowK_b (w := w) (Nat.le_refl _) W D _ _ (by simp at hD; omega) hK rfl rfl)⟩
      case stop =>
        rintro D c pre W _ _ h _
        exact h.elim

end Bk
def G.only (g : G) : G := { σ := fun _ => none, τ := fun _ => none, υ := fun _ _ => False, X := fun _ => False, Pr := g.Pr }
theorem WOK.only {g : G} {w : World} {H : List HE} (hw : WOK g w H) : WOK g.only w [] := by
  refine ⟨hw.pr, fun b hb => hb.elim, ?_, ?_, ?_, ?_, ?_, ?_, fun _ _ => ⟨rfl, rfl, fun _ h => h⟩, fun x hx => ⟨fun h => h, (hw.kc x hx).2⟩⟩ <;> intros <;> simp_all
/-- A call by value leaves behind what was there. -/
theorem Fn.leaves {P : Program} {f : FuncId} {args : List D} {res : D} (h : Fn P f args res) {g : G} {w : World} {vals : Array Value} (hw : WOK g.only w []) (hs : vals.size = args.length)
    (ha : ∀ (i : Nat) x v, args[i]? = some x → vals[i]? = some v → RepD g.Pr w x v) :
    Calls P f vals w fun e w' => ∃ rv g', e = .returned rv ∧ WOK (G.only g') w' [] ∧ Below w.heap.size w w' ∧ (∀ b o, g.Pr b o → g'.Pr b o ∧ w'.cell? ⟨b, o, none⟩ = w.cell? ⟨b, o, none⟩) ∧ RepD g'.Pr w' res rv := by
  refine (h g.only w vals hw (by simpa using hs) (fun i x v hx hv => ?_)).mono ?_
  · simp only [List.getElem?_map, Option.map_eq_some_iff] at hx
    obtain ⟨y, hy, rfl⟩ := hx
    exact .d (ha i y v hy hv)
  · rintro e w' ⟨rv, r, g', H', rfl, hw', he, hr, rfl⟩
    refine ⟨rv, g', rfl, hw'.only, ⟨he.same.1, he.same.2.1, he.same.2.2, he.size, fun k hk => he.keep k hk (fun h => h)⟩, he.pr, ?_⟩
    cases hr with
    | d h => exact h
theorem ints_rep {g : G} {w : World} {a : List Int} {v : Value} (hw : WOK g.only w []) (h : RepD g.Pr w (.sl (a.map D.i)) v) : ∃ ad cap, v = .slice ad a.length cap ∧ Bk.Ints w.heap.size w v a := by
  generalize hl : a.map D.i = l at h
  cases h with
  | sl l ad cap s f h1 h2 h3 h4 =>
    have e : l.length = a.length := by rw [← hl]; simp
    rw [e]
    refine ⟨ad, cap, rfl, ?_⟩
    rcases a with _ | ⟨z, a⟩
    · exact .inl ⟨ad, cap, rfl, rfl⟩
    · have hs : s = 1 := by rw [← h1 (D.i z) (by rw [← hl]; simp)]; rfl
      subst hs
      obtain ⟨b, o, rfl, hk⟩ := h3 (by rw [← hl]; simp)
      have hlt : ∀ j, j < (z :: a).length → j < l.length * 1 := fun j hj => by rw [e]; omega
      refine .inr ⟨b, o, cap, rfl, hw.pr b (o + 0) (hk 0 (hlt 0 (by simp))).1, fun j hj => ?_⟩
      rw [(hk j (hlt j hj)).2]
      have hf := h4 j (D.i ((z :: a)[j]?.getD 0)) (by
        rw [← hl, flat_one1 (f := D.i) (fun _ => rfl), List.getElem?_map, List.getElem?_eq_getElem hj]; rfl)
      revert hf; generalize f j = q; intro hf; cases hf; rfl
theorem natInt_fn {n : Nat} {a : List Int} {r : Int × Int} (h : natInt (m_nat_Valid n a) (m_nat_small n 4611686018427387904) (fun s => m_nat_compare n a s) a = some r) :
    Fn Tryd.prog 39 [.sl (a.map D.i)] (.tup [.int .i64 r.1, .int .i64 r.2]) := by
  refine Fn.of_below (fun g w vals hw hs ha => ?_)
  obtain ⟨va⟩ := vals
  match va, hs with
  | [v], _ =>
    have hv : RepD g.Pr w (.sl (a.map D.i)) v := ha 0 _ v rfl rfl
    obtain ⟨ad, cap, rfl, hI⟩ := ints_rep hw.only hv
    obtain ⟨vb, hvb, h⟩ := Option.bind_eq_some_iff.1 h
    obtain ⟨cv, hcv⟩ : ∃ cv : Int, vb = true → ∃ s, m_nat_small n 4611686018427387904 = some s ∧ m_nat_compare n a s = some cv ∧ (if 0 < cv then some (0, 2)
        else if a.length * 8 ≤ 140737488351232 then some (a.reverse.foldl (fun s d => wrap64 (wrap64 (65536 * s) + d)) 0, (0 : Int)) else none) = some r := by
      cases vb with
      | false => exact ⟨0, fun h => by cases h⟩
      | true =>
        obtain ⟨s, hs, h⟩ := Option.bind_eq_some_iff.1 h
        obtain ⟨c, hc, h⟩ := Option.bind_eq_some_iff.1 h
        exact ⟨c, fun _ => ⟨s, hs, hc, h⟩⟩
    refine (callsIn_wide.1 (Bk.int_in ad a.length cap a vb cv w (callsIn_wide.2 ?_) (fun hb w1 h1 => callsIn_wide.2 ?_) (fun hb hc => ⟨hI, ?_⟩))).mono ?_
    · refine ((m_nat_Valid_ok hvb).leaves (g := g) hw.only rfl ha).mono ?_
      rintro e w' ⟨rv, g', rfl, _, hb, _, hr⟩
      cases hr
      exact ⟨rfl, hb⟩
    · obtain ⟨s, hs, hc, _⟩ := hcv hb
      have hw1 := (hw.only.below h1).1
      refine ((m_nat_small_ok hs).leaves (g := g) (vals := #[.int .i64 4611686018427387904]) hw1 rfl (fun i x v hx hv => ?_)).mono ?_
      · rcases i with _ | i
        · cases hx; cases hv; exact .int _ _
        · simp at hx
      · rintro e w' ⟨sv, g', rfl, hw', hb', hp, hr⟩
        have hb2 : Below w.heap.size w w' := h1.trans (hb'.mono h1.size)
        refine ⟨sv, rfl, hb2, callsIn_wide.2 ?_⟩
        refine ((m_nat_compare_ok hc).leaves (g := g') (vals := #[.slice ad a.length cap, sv]) hw' rfl (fun i x v hx hv => ?_)).mono ?_
        · rcases i with _ | _ | i
          · cases hx; cases hv
            exact hv.mono (fun b o hq => ⟨(hp b o hq).1, (hp b o hq).2.trans (h1.cell (p := ⟨b, o, none⟩) (hw.pr b o hq))⟩)
          · cases hx; cases hv; exact hr
          · simp at hx
        · rintro e w'' ⟨rv, g'', rfl, _, hb3, _, hr3⟩
          cases hr3
          exact ⟨rfl, hb2.trans (hb3.mono hb2.size)⟩
    · obtain ⟨s, hs, hc', h⟩ := hcv hb
      rw [if_neg (by omega)] at h
      split at h
      · assumption
      · cases h
    · rintro e w' ⟨rfl, hb⟩
      refine ⟨_, rfl, hb, ?_⟩
      have two : ∀ x y : Int, RepD g.Pr w' (.tup [.int .i64 x, .int .i64 y]) (.tuple #[.int .i64 x, .int .i64 y]) := fun x y => .tup _ _ rfl (fun i u v hu hv => by
        rcases i with _ | _ | i
        · cases hu; cases hv; exact .int _ _
        · cases hu; cases hv; exact .int _ _
        · simp at hu)
      cases vb with
      | false =>
        simp at h; subst h
        exact two _ _
      | true =>
        obtain ⟨s, hs, hc', h⟩ := hcv rfl
        rw [if_neg (by decide)]
        split at h
        · rename_i hp; rw [if_pos hp]; cases h; exact two _ _
        · rename_i hp; rw [if_neg hp]
          split at h
          · cases h; exact two _ _
          · cases h
end Go.Proofs.YtagdgndoabomiaaDoor.Ab
