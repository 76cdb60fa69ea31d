/- slices.Chunk. Conditions: none. -/
import Derived.RangeFuncBox
import Derived.RangeFuncLeaves
import Derived.Shelf.Abstract
import Derived.WalkKit
import Derived.OwnWalkIn
import Derived.TacticsInMore
import Derived.LoopNIn
import Derived.LoopIn
import Derived.Test.YtjinohfopjlgkaaMi
import Derived.Test.YtjinohfopjlgkaaTy
namespace Go.Proofs.Ytjinohfopjlgkaa.Ab
open Go Go.Proofs Go.RowKit Go.Shelf

attribute [local go_sem] Oper.semAt_some

namespace Ck
set_option maxHeartbeats 1000000 in
theorem chunk_in (F : Fence) (n : Nat) (h5 : F.fn 46) (hro : F.round = none) (a : Option Addr) (len cap : Nat) (w : World) :
    CallsIn F n Try.prog 46 #[.slice a len cap, .int .i64 32] w fun e w' => e = .returned (.func (.func 64) #[] #[.pointer (some ⟨w.heap.size, 0, none⟩), .pointer (some ⟨w.heap.size + 1, 0, none⟩)]) ∧
      w' = (w.alloc (.cells #[.slice a len cap] 34)).alloc (.cells #[.int .i64 32] 3) := by
  refine callsIn_of_wp Try.func46 rfl h5 ?_ hro
  simp only [Try.ntmps46, List.size_toArray, List.length_cons, List.length_nil, Nat.reduceAdd, Nat.reduceSub, Array.replicate_succ, Array.replicate_zero, List.push_toArray, List.append_toArray, List.nil_append, List.cons_append]
  gi_wp2
  go_ret
  exact ⟨by simp, rfl⟩
end Ck

theorem chunk_ok {l : List SItem} {e : TypeId} : ACall Try.prog 46 [.hs 0 0 l.length 2, .d (.int .i64 32)] [.lst (l.map SItem.e) e 2] fun r H' => r = .fn (.func 64) [.vp [.sl (l.map SItem.e)] 0, .vp [.int .i64 32] 0] ∧ H' = [.dead] := by
  intro g w vals hw hs ha
  obtain ⟨v0, v1, rfl⟩ : ∃ v0 v1, vals = #[v0, v1] := by
    obtain ⟨vs⟩ := vals
    match vs, hs with
    | [a, b], _ => exact ⟨a, b, rfl⟩
  have r0 := ha 0 _ v0 rfl rfl
  have r1 := ha 1 _ v1 rfl rfl
  cases r1 with
  | d r1 =>
    cases r1
    obtain ⟨ad, cap, k1, k2, k3, k4⟩ := hw.lst 0 _ _ _ rfl
    clear k4
    cases r0 with
    | @hs _ _ _ _ m' cap' n0 c0 a' a0 p1 p2 =>
      rw [k1] at p1; injection p1 with p1; injection p1 with p1 p3; injection p3 with p3 p4
      obtain ⟨r1, r2, r3, r4⟩ := hs0 (p2 p1.symm)
      subst p3; subst p4; subst r1; subst r2; subst r3
      obtain ⟨g1, w1, w2, w3, w4⟩ := hw.freeze (id := 0) rfl (enSItem.szL l)
      have hrep := w4 _ _ k1
      rw [List.length_map] at hrep
      refine (callsIn_wide.1 (Ck.chunk_in Fence.wide 8 trivial rfl a0 l.length c0 w)).mono ?_
      rintro e' w' ⟨rfl, rfl⟩
      have hb : Below w.heap.size w ((w.alloc (.cells #[.slice a0 l.length c0] 34)).alloc (.cells #[.int .i64 32] 3)) := ((Below.refl _ w).alloc (Nat.le_refl _) _).alloc (by simp) _
      have bS := (Boxed.new w 34 (.slice a0 l.length c0)).alloc (.cells #[.int .i64 32] 3)
      have bN := Boxed.new (w.alloc (.cells #[.slice a0 l.length c0] 34)) 3 (.int .i64 32)
      rw [World.size_alloc] at bN
      obtain ⟨g2, u1, u2, u3⟩ := w1.belowP hb (fun b o => (b = w.heap.size ∨ b = w.heap.size + 1) ∧ o = 0) (fun b o h => by simp; omega)
      refine ⟨_, .fn (.func 64) [.vp [.sl (l.map SItem.e)] 0, .vp [.int .i64 32] 0], g2, _, rfl, u1, w2.trans u2, ?_, rfl, rfl⟩
      refine .fn rfl (fun i x v hx hv => ?_)
      rcases i with _ | _ | i
      · cases hx; cases hv
        refine .vp (o := 0) (f := fun _ => .slice a0 l.length c0) (fun k hk => ?_) (fun k x hx => ?_)
        · obtain rfl : k = 0 := by simp at hk; omega
          exact ⟨(u3 _ _).2 (.inr ⟨.inl rfl, rfl⟩), bS.cell⟩
        · obtain rfl : k = 0 := by have := (List.getElem?_eq_some_iff.1 hx).1; simp at this; omega
          simp at hx; subst hx
          exact hrep.mono u2.pr
      · cases hx; cases hv
        refine .vp (o := 0) (f := fun _ => .int .i64 32) (fun k hk => ?_) (fun k x hx => ?_)
        · obtain rfl : k = 0 := by simp at hk; omega
          exact ⟨(u3 _ _).2 (.inr ⟨.inr rfl, rfl⟩), bN.cell⟩
        · obtain rfl : k = 0 := by have := (List.getElem?_eq_some_iff.1 hx).1; simp at this; omega
          simp at hx; subst hx
          exact .int _ _
      · simp at hx
namespace Ck
def upto {α : Type} (f : Nat → α) (k : Nat) : List α := (List.range k).map f
theorem upto_succ {α : Type} (f : Nat → α) (k : Nat) : upto f (k + 1) = upto f k ++ [f k] := by simp [upto, List.range_succ]
theorem upto_length {α : Type} (f : Nat → α) (k : Nat) : (upto f k).length = k := by simp [upto]
/-- The piece that begins at i. -/
def pc (b off len i : Nat) : Value := .slice (some ⟨b, off + i * 2, none⟩) (min 32 (len - i)) (min 32 (len - i))
set_option maxRecDepth 100000 in
set_option maxHeartbeats 2000000 in
theorem chunk1_in (F : Fence) (n : Nat) (h8 : F.fn 64) (hro : F.round = none) (hn : 1 ≤ n) (l Sb Nb So No n₀ b off len cap : Nat) (hreach : len ≤ 100000000000) (hcap : len ≤ cap) (hS : Sb < n₀) (hN : Nb < n₀) (J Jx : List Nat → World → Prop)
    (hJ : ∀ s W, J s W → J s W.drew)
    (hY : ∀ pre x W, J pre W → pre.length < (len + 31) / 32 → YieldAt F (n - 1) Try.prog l #[pc b off len x] W fun e W' =>
      (e = .returned (.bool true) ∧ J (pre ++ [x]) W' ∧ Below n₀ W W') ∨ (e = .returned (.bool false) ∧ Jx (pre ++ [x]) W'))
    (W : World) (hBs : W.cell? ⟨Sb, So, none⟩ = some (.slice (some ⟨b, off, none⟩) len cap)) (hBn : W.cell? ⟨Nb, No, none⟩ = some (.int .i64 32)) (h0 : J [] W) :
    CallsIn F n Try.prog 64 #[.func (.yield l) #[] #[], .pointer (some ⟨Sb, So, none⟩), .pointer (some ⟨Nb, No, none⟩)] W fun e W' => (∃ v, e = .returned v) ∧
      ((∃ ys, ys = upto (32 * ·) ((len + 31) / 32) ∧ J ys W') ∨ (∃ pre, (∃ k, k ≤ (len + 31) / 32 ∧ pre = upto (32 * ·) k) ∧ Jx pre W')) := by
  refine callsIn_of_wp Try.func64 rfl h8 ?_ hro
  simp only [Try.ntmps64, List.size_toArray, List.length_cons, List.length_nil, Nat.reduceAdd, Nat.reduceSub, Array.replicate_succ, Array.replicate_zero, List.push_toArray, List.append_toArray, List.nil_append, List.cons_append]
  gi_wp2
  gi_loopw [4] (fun i wr => ∃ k : Nat, k ≤ (len + 31) / 32 ∧ i = .int .i64 ((32 * k : Nat) : Int) ∧ J (upto (32 * ·) k) wr ∧ Below n₀ W wr)
    (fun i _ => (len + 32 - intOf i).toNat)
  case atStart => exact ⟨0, Nat.zero_le _, rfl, h0, Below.refl _ _⟩
  case round =>
    obtain ⟨k, hk, rfl, hJs, hnx⟩ := hrel
    have hBx : wr.cell? ⟨Sb, So, none⟩ = some (.slice (some ⟨b, off, none⟩) len cap) := (hnx.cell (p := ⟨Sb, So, none⟩) hS).trans hBs
    have hNx : wr.cell? ⟨Nb, No, none⟩ = some (.int .i64 32) := (hnx.cell (p := ⟨Nb, No, none⟩) hN).trans hBn
    by_cases hlt : 32 * k < len
    · obtain ⟨fn, tmps, assign, body, hy, hR⟩ := hY _ (32 * k) wr.drew (hJ _ _ hJs) (by rw [upto_length]; omega)
      have eu : upto (32 * ·) k ++ [32 * k] = upto (32 * ·) (k + 1) := (upto_succ (32 * ·) k).symm
      have hk1 : k + 1 ≤ (len + 31) / 32 := by omega
      have hnd : Below n₀ W wr.drew := ⟨hnx.os, hnx.tape, hnx.output, hnx.size, hnx.block⟩
      have hBd : wr.drew.cell? ⟨Sb, So, none⟩ = some (.slice (some ⟨b, off, none⟩) len cap) := hBx
      have hNd : wr.drew.cell? ⟨Nb, No, none⟩ = some (.int .i64 32) := hNx
      unfold pc at hy
      have hk2 : ((32 * k : Nat) : Int) + 32 = ((32 * (k + 1) : Nat) : Int) := by omega
      generalize hi : 32 * k = i at *
      generalize he : min 32 (len - i) = en at *
      have hm : min (32 : Int) ((len - i : Nat) : Int) = (en : Int) := by omega
      have hle : i + en ≤ len := by omega
      gi_wp2
      gi_region
      all_goals
        gi_wp2
        refine hR.mono ?_
        rintro e W3 (⟨rfl, hJ3, hk3⟩ | ⟨rfl, hJx3⟩)
        · have hN3 : W3.cell? ⟨Nb, No, none⟩ = some (.int .i64 32) := (hk3.cell (p := ⟨Nb, No, none⟩) hN).trans hNd
          gi_wp2
          go_roundw
          case rel => exact ⟨k + 1, hk1, by first | rfl | rw [← hk2] | simp, by rw [← eu]; exact hJ3, hnd.trans hk3⟩
          case measure => simp [intOf] <;> omega
        · gi_wp2
          refine bodyPost_ret (results_none rfl _ _ _) rfl ?_
          exact ⟨⟨_, rfl⟩, .inr ⟨_, ⟨k + 1, hk1, eu⟩, hJx3⟩⟩
    · obtain rfl : k = (len + 31) / 32 := by omega
      gi_wp2
      go_end0
      exact ⟨⟨_, rfl⟩, .inl ⟨_, rfl, hJs⟩⟩
end Ck
end Go.Proofs.Ytjinohfopjlgkaa.Ab
