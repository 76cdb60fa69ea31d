/- slices.Collect of slices.Chunk. Conditions: none. -/
import Derived.RangeFuncBox
import Derived.RangeFuncLeaves
import Derived.Shelf.Abstract
import Derived.WalkKit
import Derived.OwnWalkIn
import Derived.TacticsInMore
import Derived.LoopNIn
import Derived.LoopIn
import Derived.Maps.AppendAt
import Derived.Test.YtjinohfopjlgkaaSq
namespace Go.Proofs.Ytjinohfopjlgkaa.Ab
open Go Go.Proofs Go.RowKit Go.Shelf
attribute [local go_sem] Oper.semAt_some
namespace Ck
set_option maxRecDepth 100000 in
set_option maxHeartbeats 1000000 in
theorem chunk1_nil_in (F : Fence) (n : Nat) (h8 : F.fn 64) (hro : F.round = none) (l Sb Nb So No cap : Nat) (ad : Option Addr) (J : List Nat → World → Prop) (W : World) (hBs : W.cell? ⟨Sb, So, none⟩ = some (.slice ad 0 cap)) (h0 : J [] W) :
    CallsIn F n Try.prog 64 #[.func (.yield l) #[] #[], .pointer (some ⟨Sb, So, none⟩), .pointer (some ⟨Nb, No, none⟩)] W fun e W' => (∃ v, e = .returned v) ∧ J [] W' := by
  refine callsIn_of_wp Try.func64 rfl h8 ?_ hro
  simp only [Try.ntmps64, List.size_toArray, List.length_cons, List.length_nil, Nat.reduceAdd, Nat.reduceSub, Array.replicate_succ, Array.replicate_zero, List.push_toArray, List.append_toArray, List.nil_append, List.cons_append]
  gi_wp2
  gi_loopw [4] (fun i wr => i = .int .i64 0 ∧ J [] wr ∧ wr.cell? ⟨Sb, So, none⟩ = some (.slice ad 0 cap)) (fun _ _ => 0)
  case atStart => exact ⟨rfl, h0, hBs⟩
  case round =>
    obtain ⟨rfl, hJs, hBx⟩ := hrel
    gi_wp2
    go_end0
    exact ⟨⟨_, rfl⟩, hJs⟩
theorem chunk_stops (F : Fence) (n : Nat) (h8 : F.fn 64) (hro : F.round = none) (hn : 1 ≤ n) (Sb Nb So No n₀ b off len cap : Nat) (sv : Value) (hreach : len ≤ 100000000000) (hsv : (len = 0 ∧ ∃ ad c, sv = .slice ad 0 c) ∨ (sv = .slice (some ⟨b, off, none⟩) len cap ∧ len ≤ cap))
    (w : World) (hS : Sb < n₀) (hN : Nb < n₀) (hn₀ : n₀ ≤ w.heap.size) (hBs : w.cell? ⟨Sb, So, none⟩ = some sv) (hBn : w.cell? ⟨Nb, No, none⟩ = some (.int .i64 32)) :
    SeqStopsK F n Try.prog 64 #[.pointer (some ⟨Sb, So, none⟩), .pointer (some ⟨Nb, No, none⟩)] (fun x : Nat => #[pc b off len x]) (Below n₀) (fun ys => ys = upto (32 * ·) ((len + 31) / 32))
      (fun _ => True) ((len + 31) / 32) w := fun l J Jx W hW hA _ hY h0 => by
  have hc' := (hW.cell (p := ⟨Sb, So, none⟩) (Nat.lt_of_lt_of_le hS hn₀)).trans hBs
  have hn' := (hW.cell (p := ⟨Nb, No, none⟩) (Nat.lt_of_lt_of_le hN hn₀)).trans hBn
  rcases hsv with ⟨rfl, ad, c, rfl⟩ | ⟨rfl, h1⟩
  · exact (chunk1_nil_in F n h8 hro l Sb Nb So No c ad J W hc' h0).mono fun e W' ⟨he, hj⟩ => ⟨he, .inl ⟨_, rfl, hj⟩⟩
  · refine (chunk1_in F n h8 hro hn l Sb Nb So No n₀ b off len cap hreach h1 hS hN J Jx (fun s W' hs => hA s W' W'.drew none hs ⟨rfl, rfl, rfl, Nat.le_refl _, fun _ _ _ => rfl⟩ (fun r e => by cases e)) hY W hc' hn' h0).mono ?_
    rintro e W' ⟨he, h | ⟨pre, _, hj⟩⟩
    · exact ⟨he, .inl h⟩
    · exact ⟨he, .inr ⟨pre, trivial, hj⟩⟩
theorem info34 : (Try.prog.info? 34).map (fun i => (i.zero, i.size, i.bytes)) = some (some (.slice none 0 0), 1, 24) := by kernel_rfl
set_option maxRecDepth 100000 in
set_option maxHeartbeats 2000000 in
theorem ap_in (F : Fence) (n : Nat) (h3 : F.fn 63) (h5 : F.fn 64) (hro : F.round = none) (hn : 3 ≤ n) (Sb Nb So No b off len cap : Nat) (sv : Value) (hreach : len ≤ 100000000000) (hsv : (len = 0 ∧ ∃ ad c, sv = .slice ad 0 c) ∨ (sv = .slice (some ⟨b, off, none⟩) len cap ∧ len ≤ cap))
    (w : World) (hS : Sb < w.heap.size) (hN : Nb < w.heap.size) (hBs : w.cell? ⟨Sb, So, none⟩ = some sv) (hBn : w.cell? ⟨Nb, No, none⟩ = some (.int .i64 32)) :
    CallsIn F n Try.prog 63 #[.slice none 0 0, .func (.func 64) #[] #[.pointer (some ⟨Sb, So, none⟩), .pointer (some ⟨Nb, No, none⟩)]] w fun e W' => ∃ v, e = .returned v ∧
      W'.ownsRow w.heap.size 34 1 v (upto (32 * ·) ((len + 31) / 32)).length ((upto (32 * ·) ((len + 31) / 32)).map (pc b off len)) ∧ Below w.heap.size w W' := by
  have h1 : 1 ≤ n := by omega
  obtain ⟨i0, hi, hz0, hz1, hz2⟩ := info_parts info34
  refine callsIn_of_wp_marks Try.func63 rfl h3 ?_ hro
  simp only [Try.ntmps63, List.size_toArray, List.length_cons, List.length_nil, Nat.reduceAdd, Nat.reduceSub, Array.replicate_succ, Array.replicate_zero, List.push_toArray, List.append_toArray, List.nil_append, List.cons_append]
  gi_wp2
  have bO := Boxed.new w 26 (.slice none 0 0)
  have hB0 : Below w.heap.size w (w.alloc (.cells #[.slice none 0 0] 26)) := (Below.refl _ w).alloc (Nat.le_refl _) _
  refine wpIn_rangeFunc_ownG hro h1 (gf := 64) (lb := #[.pointer (some ⟨Sb, So, none⟩), .pointer (some ⟨Nb, No, none⟩)]) rfl h5 (enters_of Try.func64 (by kernel_rfl) rfl)
    (chunk_stops F (n - 1) h5 hro (by omega) Sb Nb So No w.heap.size b off len cap sv hreach hsv _ hS hN hB0.size ((hB0.cell (p := ⟨Sb, So, none⟩) hS).trans hBs) ((hB0.cell (p := ⟨Nb, No, none⟩) hN).trans hBn)) belowK_t (belowK_b (by simp)) (Below.refl _ _) (fun _ => rfl)
    (fun pre W => (∃ v, Boxed W w.heap.size 26 v ∧ W.ownsRow w.heap.size 34 1 v pre.length (pre.map (pc b off len)) ∧ True) ∧ Below w.heap.size w W)
    (fun _ _ _ => False)
    (OwnFrom.and (Own.from (holdsRow_own w.heap.size w.heap.size 26 34 1 (fun pre : List Nat => pre.length) (fun pre => pre.map (pc b off len)) (fun _ _ => True)) _) (ownFrom_below (Nat.le_refl _) (by simp)))
    (fun _ _ _ _ _ hs _ _ => hs)
    ⟨⟨_, bO, World.ownsRow_nil _ _ _ _, trivial⟩, hB0⟩
    (fun x => { tmps := #[.slice none 0 0, .func (.func 64) #[] #[.pointer (some ⟨Sb, So, none⟩), .pointer (some ⟨Nb, No, none⟩)], .pointer (some ⟨w.heap.size, 0, none⟩), undef, .slice none 0 0, pc b off len x,
      .func (.func 64) #[] #[.pointer (some ⟨Sb, So, none⟩), .pointer (some ⟨Nb, No, none⟩)], pc b off len x, undef, undef, undef, undef, undef], defers := [] }) ?assign ?body ?done ?stop
  case assign =>
    intro l x W K hK
    unfold pc at hK ⊢
    gi_wp2
    exact hK
  case body =>
    rintro l pre x W ⟨⟨v, hv, hrow, _⟩, hB⟩ hlt
    have hc := hv.cell
    have hl3 : pre.length + 1 ≤ 100000000000 := by omega
    obtain ⟨q, m, hq⟩ : ∃ q m, pc b off len x = .slice (some q) m m := ⟨_, _, rfl⟩
    rw [hq]
    gi_wp2_with (gi_at_builtin; refine wpListIn_append_own _ rfl _ _ 26 rfl w.heap.size 34 i0 (.slice none 0 0) 1 24 Try.underlying26 hi hz0 hz1 hz2 rfl (by decide) _ _ _ rfl (hrow.alloc _) ⟨W.heap.size, 0, none⟩ 1 1 [.slice (some q) m m] rfl rfl (cell_one_new _ _ _) (by simp [Value.oneCell']) (by simp only [maxLen]; omega) (by omega) (by have := hB.size; simp; omega) ?_; intro v' w1 hown' hgrow _; obtain ⟨g', cap', rfl⟩ := ownsRow_succ hown'; obtain ⟨hv1, hv2, hr2, hk2, hb2⟩ := hv.appended (by decide) hrow hB.size (Nat.le_refl _) hown' hgrow; have hc1 := hv1.cell; have hf1 := hv1.frozen)
    exact ⟨hk2.from _, hb2, ⟨_, hv2, by simpa [hq] using hr2, trivial⟩, hB.trans hb2⟩
  case done =>
    rintro D ys W hD rfl ⟨⟨v, hv, hrow, _⟩, hB⟩ hK
    have hc := hv.cell
    gi_wp2
    refine ⟨by simp, .inl ⟨_, _, rfl, run_takeDeferred hK, ?_⟩⟩
    exact ⟨_, results_tmp rfl _ _ _, v, rfl, ownsRow_putObj hrow _ hK rfl, hB.trans (belowK_b (w := w) (Nat.le_refl _) W D _ _ (by simp at hD; omega) hK rfl rfl)⟩
  case stop =>
    rintro D c pre W _ _ h _
    exact h.elim
set_option maxHeartbeats 1000000 in
theorem collect_in (F : Fence) (n : Nat) (h2 : F.fn 45) (h3 : F.fn 63) (h5 : F.fn 64) (hro : F.round = none) (hn : 4 ≤ n) (Sb Nb So No b off len cap : Nat) (sv : Value) (hreach : len ≤ 100000000000) (hsv : (len = 0 ∧ ∃ ad c, sv = .slice ad 0 c) ∨ (sv = .slice (some ⟨b, off, none⟩) len cap ∧ len ≤ cap))
    (w : World) (hS : Sb < w.heap.size) (hN : Nb < w.heap.size) (hBs : w.cell? ⟨Sb, So, none⟩ = some sv) (hBn : w.cell? ⟨Nb, No, none⟩ = some (.int .i64 32)) :
    CallsIn F n Try.prog 45 #[.func (.func 64) #[] #[.pointer (some ⟨Sb, So, none⟩), .pointer (some ⟨Nb, No, none⟩)]] w fun e W' => ∃ v, e = .returned v ∧
      W'.ownsRow w.heap.size 34 1 v (upto (32 * ·) ((len + 31) / 32)).length ((upto (32 * ·) ((len + 31) / 32)).map (pc b off len)) ∧ Below w.heap.size w W' := by
  have h1 : 1 ≤ n := by omega
  refine callsIn_of_wp Try.func45 rfl h2 ?_ hro
  simp only [Try.ntmps45, List.size_toArray, List.length_cons, List.length_nil, Nat.reduceAdd, Nat.reduceSub, Array.replicate_succ, Array.replicate_zero, List.push_toArray, List.append_toArray, List.nil_append, List.cons_append]
  gi_wp2_with (gi_at_call 63; refine (ap_in F (n - 1) h3 h5 hro (by omega) Sb Nb So No b off len cap sv hreach hsv w hS hN hBs hBn).mono ?_; rintro e w' ⟨v, rfl, hr, hb⟩)
  go_ret
  exact ⟨v, rfl, hr, hb⟩
end Ck
theorem chunksN_eq {α : Type} : ∀ (n : Nat) (l : List α), l.length ≤ n → chunksN 32 n l = (Ck.upto (32 * ·) ((l.length + 31) / 32)).map fun i => (l.drop i).take 32
  | 0, l, h => by
    have : l = [] := List.eq_nil_of_length_eq_zero (by omega)
    subst this; simp [chunksN, Ck.upto]
  | n + 1, [], _ => by simp [chunksN, Ck.upto]
  | n + 1, x :: l, h => by
    rw [chunksN, chunksN_eq n ((x :: l).drop 32) (by simp at h ⊢; omega)]
    have e : ((x :: l).length + 31) / 32 = (((x :: l).drop 32).length + 31) / 32 + 1 := by simp; omega
    rw [e]
    unfold Ck.upto
    rw [List.range_succ_eq_map, List.map_cons, List.map_cons, List.map_map, List.map_map, List.map_map]
    congr 1
    apply List.map_congr_left
    intro k _
    simp only [Function.comp]
    rw [List.drop_drop]
    congr 2
    omega
theorem chunk_rep {Pr : Nat → Nat → Prop} {w : World} {l : List SItem} {b off cap i : Nat} (h : RepD Pr w (.sl (l.map SItem.e)) (.slice (some ⟨b, off, none⟩) l.length cap)) (hi : i < l.length) :
    RepD Pr w (.sl (((l.drop i).take 32).map SItem.e)) (Ck.pc b off l.length i) := by
  generalize hl : l.map SItem.e = L at h
  generalize hn : l.length = len at h hi ⊢
  generalize hv : Value.slice (some ⟨b, off, none⟩) len cap = v at h
  cases h with
  | sl _ a c s f h1 h2 h3 h4 =>
    have hLl : L.length = len := by rw [← hl, List.length_map, hn]
    injection hv with q1 q2 q3
    subst q1
    have hne : L ≠ [] := by intro h0; rw [h0] at hLl; simp at hLl; omega
    have hs : s = 2 := by
      obtain ⟨x, hx⟩ := List.exists_mem_of_ne_nil L hne
      rw [← h1 x hx]
      rw [← hl] at hx
      obtain ⟨y, _, rfl⟩ := List.mem_map.1 hx
      rfl
    subst hs
    obtain ⟨b', o', e1, hk⟩ := h3 hne
    injection e1 with e1; injection e1 with e1 e2
    subst e1; subst e2
    have hlen : (((l.drop i).take 32).map SItem.e).length = min 32 (len - i) := by simp [hn]
    have hL : ∀ x ∈ L, x.cells.length = 2 := h1
    have key : RepD Pr w (.sl (((l.drop i).take 32).map SItem.e)) (.slice (some ⟨b, off + i * 2, none⟩) (((l.drop i).take 32).map SItem.e).length (min 32 (len - i))) := by
      refine .sl _ _ _ 2 (fun k => f (i * 2 + k)) (enSItem.szL _) (by rw [hlen]; exact Nat.le_refl _) (fun _ => ⟨b, off + i * 2, rfl, fun k hk' => ?_⟩) (fun k x hx => h4 _ x ?_)
      · rw [hlen] at hk'
        rw [Nat.add_assoc]
        exact hk (i * 2 + k) (by rw [hLl]; omega)
      · rw [List.map_take, List.map_drop, hl, flatS_take _ (fun x hx => hL x (List.mem_of_mem_drop hx)), flatS_drop _ hL, List.getElem?_take] at hx
        split at hx
        · rw [List.getElem?_drop] at hx; exact hx
        · cases hx
    rw [hlen] at key
    exact key
theorem collect_ok {l : List SItem} {r : List (List SItem)} {H : List HE} (h : chunksM l 32 = some r) :
    ACall Try.prog 45 [.fn (.func 64) [.vp [.sl (l.map SItem.e)] 0, .vp [.int .i64 32] 0]] H fun r' H' => r' = .d (.sl (r.map (esl SItem.e))) ∧ H' = H := by
  unfold chunksM at h
  split at h
  · rename_i hc
    injection h with h
    have hr : r = (Ck.upto (32 * ·) ((l.length + 31) / 32)).map fun i => (l.drop i).take 32 := by rw [← h]; exact chunksN_eq _ _ (Nat.le_refl _)
    have hreach : l.length ≤ 100000000000 := hc.2.2
    clear hc h
    intro g w vals hw hs ha
    obtain ⟨v0, rfl⟩ : ∃ v0, vals = #[v0] := by
      obtain ⟨vs⟩ := vals
      match vs, hs with
      | [a], _ => exact ⟨a, rfl⟩
    have r0 := ha 0 _ v0 rfl rfl
    cases r0 with
    | @fn _ _ arr hsz hrep =>
      obtain ⟨p0, p1, rfl⟩ : ∃ p0 p1, arr = #[p0, p1] := by
        obtain ⟨vs⟩ := arr
        match vs, hsz with
        | [a, b], _ => exact ⟨a, b, rfl⟩
      have g0 := hrep 0 _ p0 rfl rfl
      have g1 := hrep 1 _ p1 rfl rfl
      cases g0 with
      | @vp _ _ Sb So f0 a1 a2 =>
        cases g1 with
        | @vp _ _ Nb No f1 c1 c2 =>
          obtain ⟨b1, b2⟩ := a1 0 (by simp)
          obtain ⟨d1, d2⟩ := c1 0 (by simp)
          have b3 := a2 0 _ rfl
          have d3 := c2 0 _ rfl
          simp only [Nat.add_zero] at b1 b2 d1 d2 ⊢
          have hSb := hw.pr _ _ b1
          have hNb := hw.pr _ _ d1
          have hd : f1 0 = .int .i64 32 := by revert d3; generalize f1 0 = q; intro d3; cases d3; rfl
          rw [hd] at d2
          obtain ⟨b, off, cap, hsv⟩ : ∃ b off cap, (l.length = 0 ∧ ∃ ad c, f0 0 = .slice ad 0 c) ∨ (f0 0 = .slice (some ⟨b, off, none⟩) l.length cap ∧ l.length ≤ cap) := by
            generalize hv : f0 0 = v at b3
            generalize hL : l.map SItem.e = L at b3
            have hLl : L.length = l.length := by rw [← hL, List.length_map]
            cases b3 with
            | sl _ a c s f h1 h2 h3 h4 =>
              rw [hLl] at h2 ⊢
              by_cases h0 : l.length = 0
              · exact ⟨0, 0, 0, .inl ⟨h0, a, c, by rw [h0]⟩⟩
              · obtain ⟨b, o, rfl, _⟩ := h3 (by intro e; rw [e] at hLl; simp at hLl; omega)
                exact ⟨b, o, c, .inr ⟨rfl, h2⟩⟩
          refine (callsIn_wide.1 (Ck.collect_in Fence.wide 9 trivial trivial trivial rfl (by omega) Sb Nb So No b off l.length cap (f0 0) hreach hsv w hSb hNb b2 d2)).mono ?_
          rintro e w' ⟨v, rfl, hown, hb⟩
          have hcnt : (Ck.upto (32 * ·) ((l.length + 31) / 32)).length = (l.length + 31) / 32 := Ck.upto_length _ _
          rw [hcnt] at hown
          rcases hown.2 with ⟨rfl, hz⟩ | ⟨gb, gc, cur, rfl, hg1, hg2, hg3, hg4, _⟩
          · have hl0 : r = [] := by rw [hr, hz]; rfl
            obtain ⟨u1, u2⟩ := hw.below hb
            subst hl0
            exact ⟨_, _, g, H, rfl, u1, u2, .d (.sl [] none 0 0 (fun _ => undef) (by simp) (by simp) (by simp) (by simp [D.flat])), rfl, rfl⟩
          · have hgl : gb < w'.heap.size := (Array.getElem?_eq_some_iff.1 hg2).1
            obtain ⟨g2, u1, u2, u3⟩ := hw.belowP hb (fun b _ => b = gb) (fun b o h => by subst h; exact ⟨hg1, hgl⟩)
            have hrl : (r.map (esl SItem.e)).length = (l.length + 31) / 32 := by rw [hr]; simp [Ck.upto_length]
            refine ⟨_, .d (.sl (r.map (esl SItem.e))), g2, H, rfl, u1, u2, .d ?_, rfl, rfl⟩
            have key : RepD g2.Pr w' (.sl (r.map (esl SItem.e))) (.slice (some ⟨gb, 0, none⟩) (r.map (esl SItem.e)).length gc) := by
              refine .sl _ _ _ 1 (fun k => Ck.pc b off l.length (32 * k)) (fun x hx => by obtain ⟨y, _, rfl⟩ := List.mem_map.1 hx; rfl) (by rw [hrl]; exact hg3) (fun _ => ⟨gb, 0, rfl, fun k hk => ⟨(u3 _ _).2 (.inr rfl), ?_⟩⟩) (fun k x hx => ?_)
              · rw [hrl, Nat.mul_one] at hk
                rw [Nat.zero_add, hown.cellAt k (by omega)]
                simp [Ck.upto, hk]
              · rw [flat_one1 (f := esl SItem.e) (fun _ => rfl), hr, List.map_map] at hx
                have hk : k < (l.length + 31) / 32 := by have := (List.getElem?_eq_some_iff.1 hx).1; simpa [Ck.upto_length] using this
                have hx' : x = esl SItem.e ((l.drop (32 * k)).take 32) := by simpa [Ck.upto, hk] using hx.symm
                subst hx'
                have hlt : 32 * k < l.length := by omega
                rcases hsv with ⟨h0, _⟩ | ⟨h1, h2⟩
                · omega
                · rw [h1] at b3
                  exact (chunk_rep b3 hlt).mono u2.pr
            rw [hrl] at key
            exact key
  · cases h
end Go.Proofs.Ytjinohfopjlgkaa.Ab
