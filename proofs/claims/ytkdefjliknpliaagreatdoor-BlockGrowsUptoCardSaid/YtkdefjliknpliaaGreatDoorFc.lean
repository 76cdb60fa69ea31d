/- The functions do what they are in plain Lean. Conditions: none. -/
import Derived.Test.YtkdefjliknpliaaGreatDoorTy
import Derived.Test.YtkdefjliknpliaaGreatDoorMi
import Derived.Test.YtkdefjliknpliaaGreatDoorFb
set_option maxRecDepth 100000
set_option maxHeartbeats 20000000
namespace Go.Proofs.YtkdefjliknpliaaGreatDoor.Ab
open Go
attribute [local irreducible] AL AD AW nlO nlV nlD
theorem m_slices_ContainsFunc_feature_Features_feature_Features_ok {n : Nat} {H : List HE} {a1 : (List SFeatures)} {p2 : SFeatures → Option Bool} {r : Bool} {ff_p2 : FuncId} {caps_p2 : List V} (hff_p2 : ∀ (a : Array Value) (w : World), (callFunc ff_p2 a).run Tryz.prog w = .ok (.enter ff_p2 a) w) (hF_p2 : ∀ (y1 : SFeatures) (b : Bool), p2 y1 = some b → ACall Tryz.prog ff_p2 (.d (SFeatures.e y1) :: caps_p2) H fun r' H' => r' = .d (.bool b) ∧ H' = H) (hm : m_slices_ContainsFunc_feature_Features_feature_Features n a1 p2 = some r) : ACall Tryz.prog 40 [.d (.sl (a1.map SFeatures.e)), .fn (.func ff_p2) caps_p2] H fun r' H' => r' = .d (.bool r) ∧ H' = H := by
 unfold m_slices_ContainsFunc_feature_Features_feature_Features at hm
 refine ACall.of_AW (fnn := Tryz.f40) Tryz.func40 rfl (Nat.le_of_ble_eq_true rfl) (fun g0 w0 hw0 => ?_)
 refine zr (za rfl (zn (zr (zm rfl (zs (op_moveF .r) ?_)))))
 obtain ⟨v3, hv3, hm⟩ := bindE hm
 refine zs (op_call Tryz.call68 .r (.cons .r (.cons .r .nil)) (m_slices_IndexFunc_feature_Features_feature_Features_ok hff_p2 hF_p2 hv3)) (zs (op_geq (.r rfl) (.r rfl)) (za rfl (zn (AW.ret ?_))))
 obtain rfl := Option.some.inj hm
 exact ⟨_, _, (.tmp .r .nil), .d rfl, rfl, rfl⟩
theorem m_block_Of_1_ok {n : Nat} {a1 : SFeatures} {r : Bool} (hm : m_block_Of_1 n a1 = some r) : Fn Tryz.prog 41 [(SFeatures.e a1)] (.bool r) := by
 unfold m_block_Of_1 at hm
 refine Fn.of_AW (fnn := Tryz.f41) Tryz.func41 rfl (Nat.le_of_ble_eq_true rfl) (fun g0 w0 hw0 => ?_)
 refine zr (zs (op_box (n := 0) .r rfl rfl rfl) (za rfl (zn (zr (zs (op_load_ptrA .r rfl rfl rfl ag43) ?_)))))
 obtain ⟨v2, hv2, hm⟩ := bindE hm
 refine zs (op_fn Tryz.call42 .r (.cons (.r rfl) .nil) (m_feature_Valid_ok hv2)) (zs (op_not (.r rfl)) (za rfl (zn (AW.ret ?_))))
 obtain rfl := Option.some.inj hm
 exact EndQ.d (.tmp .r .nil) rfl rfl
theorem m_slices_Insert_block_Table_block_Block_T_ok {n : Nat} {c1 : List (List UInt8 × Hd)} {a2 : Int} {a3 : List (List UInt8 × Hd)} {r : List (List UInt8 × Hd)} (hm : m_slices_Insert_block_Table_block_Block_T n c1 a2 a3 = some r) : ACall Tryz.prog 77 [.hs 0 0 c1.length 2, .d (.int .i64 a2), .d (.sl (a3.map tbF))] [.lst (c1.map tbF) 75 2] fun r' H' => r' = resOf [.hs 1 0 r.length 2] ∧ H' = [.dead, .lst (r.map tbF) 75 2] := by
 obtain ⟨i, x, rfl, rfl, hi, hb, hl, rfl⟩ := insL_inv hm
 refine ACall.of_AWG (fnn := Tryz.f77) Tryz.func77 rfl (Nat.le_of_ble_eq_true rfl) (fun g0 w0 hw0 => ?_)
 obtain ⟨ad, c, hg, hlc, hmax, hroom⟩ := hw0.lst 0 _ _ _ rfl
 clear hroom
 rw [List.length_map] at hlc
 have hrl : (c1.take i ++ x :: c1.drop i).length = c1.length + 1 := by simp; omega
 have h1 : ∀ y : (List UInt8 × Hd), (tbF y).cells.length = 2 := enTb.sz
 refine zr (zs (op_assignN .r) (zn (zr (zs (op_moveH .r) (zm rfl (zs (op_sliceH (f := tbF) (l := c1) .r rfl rfl sl26 (.r rfl) rfl (slc_tail hi rfl)) (zn (zr (zm rfl (zs (op_lenM (f := tbF) (l := [x]) (.r rfl) sl25) (za rfl (zn (AW.seq (zr (zm rfl (zs (op_eql (.r rfl) (.r rfl)) (zn ?_)))))))))))))))))
 refine AW.cond (b := _) rfl (fun hc1 => absurd hc1 (by simp)) (fun _ => ?_)
 refine AW.skip (nq (zr (zs (op_moveH .r) (zs (op_len_hs .r rfl sl26) (za rfl (zn (AW.seq (zr (zm rfl (zm rfl (zs (op_eql (.r rfl) (.r rfl)) (zn ?_))))))))))))
 refine AW.cond (b := _) rfl (fun hc2 => ?_) (fun hc2 => ?_)
 ·have hin : i = c1.length := by simp at hc2; omega
  subst hin
  refine zr (zs (op_moveH .r) (zm rfl (zs (OpV.appendT sl26.u sl25.u (op_appendHM (n := 1) (f := tbF) (l := c1) (l' := [x]) sl26 .r (.r rfl) rfl rfl rfl enTb (app1 hb hl))) (zs (op_assignH .r) (zn (AW.ret (tq_ret ?_)))))))
  have he : c1.take c1.length ++ x :: c1.drop c1.length = c1 ++ [x] := by simp
  rw [he]
  exact ⟨_, [0, 1], (.tmp .r .nil), rfl, rfl, (.cons (.hs rfl rfl) .nil), (.dead (.lst rfl .nil))⟩
 ·have hin : i < c1.length := by simp at hc2; omega
  refine AW.skip (nq (AW.seq (zr (zm rfl (zm rfl (zs (op_addE (.r rfl) (.r rfl) (w1 hl)) (zs (op_moveH .r) ?_)))))))
  refine AL.sX rfl (op_cap hg .r rfl sl26) (fun _ => ?_)
  refine zs (op_gtr (.r rfl) (.r rfl)) (zn ?_)
  refine AW.cond (b := _) rfl (fun hc3 => ?_) (fun hc3 => ?_)
  ·have hc : c < c1.length + 1 := by simp at hc3; omega
   refine AW.free (zr (zs (op_moveH .r) (zm rfl (zs (op_sliceH (f := tbF) (l := c1) .r rfl rfl sl26 rfl (.r rfl) (slc_head hi)) (zm rfl (zm rfl (zs (op_addE (.r rfl) (.r rfl) (w1 hl)) (zm rfl (zs (op_subE (.r rfl) (.r rfl) (ws hl hi)) ?_)))))))))
   refine AL.sX rfl (op_appendZSg RepD.absT (f := tbF) (l := c1) (z := (([], (none, 0, 0)) : List UInt8 × Hd)) (res := 1) (i := i) hg (.e (congrArg (V.hs 0 0 · 2) (by simp; omega))) (.r rfl) rfl hi enTb (by decide) (by omega) (by omega) sl26 Tryz.underlying3 zr75 rfl rfl (by rw [show i + (c1.length + 1 - i) = c1.length + 1 by omega]; exact hb) (by omega)) (fun _ => ?_)
   refine zs (op_assignH .r) (zn ?_)
   have hZl : (c1.take i ++ List.replicate (c1.length + 1 - i) (([], (none, 0, 0)) : List UInt8 × Hd)).length = i + (c1.length + 1 - i) := by simp; omega
   refine zr (zs (op_moveH .r) (zm rfl (zs (op_sliceH (f := tbF) (l := c1.take i ++ List.replicate (c1.length + 1 - i) (([], (none, 0, 0)) : List UInt8 × Hd)) .r rfl hZl sl26 (.r rfl) rfl (slc_tail (by omega) (by omega))) (zm rfl (zs (op_copyDS (f := tbF) (l := c1.take i ++ List.replicate (c1.length + 1 - i) (([], (none, 0, 0)) : List UInt8 × Hd)) (src := [x]) (lo := i) (len := c1.length + 1 - i) enTb (by decide) (.e (cong2 (V.hs 1 · · 2) (Int.toNat_natCast i) (by rw [List.length_drop, hZl]; omega))) rfl (by omega) (.r rfl) sl26) (zn ?_))))))
   have hY1 : (cpyL (c1.take i ++ List.replicate (c1.length + 1 - i) (([], (none, 0, 0)) : List UInt8 × Hd)) i (c1.length + 1 - i) [x]).length = i + (c1.length + 1 - i) := by rw [cpyL_len (by omega), hZl]
   refine AW.seqD [([], []), ([], []), ([], []), ([], []), ([1], []), ([], []), ([], []), ([0], []), ([1, 0], [1])] mo (by decide +kernel) (AD.s (ws := []) rfl rfl (fun H' _ hH => op_moveH .r) (AD.s (ws := []) rfl rfl (fun H' _ hH => op_moveD .r) (AD.s (ws := []) rfl rfl (fun H' _ hH => op_moveD .r) (AD.s (ws := []) rfl rfl (fun H' _ hH => op_addE (.r rfl) (.r rfl) (w1 (by omega))) (AD.s (ws := []) rfl rfl (fun H' _ hH => op_sliceH (f := tbF) (l := cpyL (c1.take i ++ List.replicate (c1.length + 1 - i) (([], (none, 0, 0)) : List UInt8 × Hd)) i (c1.length + 1 - i) [x]) .r ((hH _ (by simp)).trans rfl) hY1 sl26 (.r rfl) rfl (slc_tail (by omega) (by omega))) (AD.s (ws := []) rfl rfl (fun H' _ hH => op_moveH .r) (AD.s (ws := []) rfl rfl (fun H' _ hH => op_moveD .r) (AD.s (ws := []) rfl rfl (fun H' _ hH => op_sliceH (f := tbF) (l := c1) .r ((hH _ (by simp)).trans rfl) rfl sl26 (.r rfl) rfl (slc_tail hi rfl)) ?_))))))))
   refine AD.s (ws := [(1, _)]) rfl rfl (fun H' _ hH => op_copyHS (f := tbF) (l := cpyL (c1.take i ++ List.replicate (c1.length + 1 - i) (([], (none, 0, 0)) : List UInt8 × Hd)) i (c1.length + 1 - i) [x]) (l2 := c1) (src := c1.drop i) (lo := i + 1) (len := c1.length - i) (lo2 := i) (len2 := c1.length - i) enTb (by decide)
    (.e (cong2 (V.hs 1 · · 2) (Int.toNat_natCast _) (by rw [List.length_drop, hY1]; omega))) ((hH _ (by simp)).trans rfl) (by omega) (.e (cong2 (V.hs 0 · · 2) (Int.toNat_natCast _) (List.length_drop ..))) ((hH _ (by simp)).trans rfl) (List.take_of_length_le (by simp)) (by omega) sl26) ?_
   refine AD.nil ?_
   rw [cpy_grow hi]
   refine zr (zs (op_moveH .r) (zs (op_assignH .r) (zn (AW.ret (tq_ret (⟨_, [0, 1], (.tmp .r .nil), rfl, rfl, (.cons (.hs rfl (by rw [hrl]; omega)) .nil), (.dead (.lst rfl .nil))⟩))))))
  ·have hc : c1.length + 1 ≤ c := by simp at hc3; omega
   refine AW.skip (nq (zr (zs (op_moveH .r) (zm rfl (zm rfl (zs (op_addE (.r rfl) (.r rfl) (w1 hl)) ?_))))))
   refine AL.sX rfl (op_upS (l := c1.map tbF) hg .r (.r rfl) rfl (List.length_map ..) (enTb.szL c1) hc sl26) (fun u => ?_)
   refine zs (op_assignH .r) (zn ?_)
   have hUl : (c1.map tbF ++ [D.agg (u.1.map .raw)]).length = c1.length + 1 := by simp
   have hU1 : ∀ y ∈ c1.map tbF ++ [D.agg (u.1.map .raw)], y.cells.length = 2 := fun y hy => by
    rcases List.mem_append.1 hy with h | h
    ·exact enTb.szL c1 y h
    ·rw [List.mem_singleton.1 h]; exact (List.length_map ..).trans u.2
   refine AW.seq (zr (zm rfl (zs (op_moveH .r) (zm rfl (zm rfl (zs (op_addE (.r rfl) (.r rfl) (w1 (by omega))) (zs (op_sliceH (f := id) (l := c1.map tbF ++ [D.agg (u.1.map .raw)]) .r (by rw [List.map_id]; rfl) hUl sl26 (.r rfl) rfl (slc_tail (by rw [hUl]; omega) (by rw [hUl]))) ?_)))))))
   refine AL.s rfl (op_overlapsS (l := [tbF x]) (L := c1.map tbF ++ [D.agg (u.1.map .raw)]) (lo := i + 1) (len := c1.length - i) (tS := 25) (tR := 4)
    (run_callFunc_extern Tryz.func105 (by kernel_rfl) (by kernel_rfl) (by kernel_rfl) (by kernel_rfl)) (by decide) .r (.r rfl) (.e (cong2 (V.hs 0 · · 2) (Int.toNat_natCast _) (by rw [List.length_drop, hUl]; omega))) rfl (by rw [hUl]; omega) (by omega) (enTb.szL [x]) (enTb.oneL [x]) (by simp) sl25) ?_
   refine zs (op_not (.r rfl)) (zn ?_)
   refine AW.cond (b := _) rfl (fun _ => ?_) (fun hc4 => absurd hc4 (by decide))
   refine AW.seqD [([], []), ([], []), ([], []), ([], []), ([0], []), ([], []), ([], []), ([0], []), ([0], [0])] mo (by decide +kernel) (AD.s (ws := []) rfl rfl (fun H' _ hH => op_moveH .r) (AD.s (ws := []) rfl rfl (fun H' _ hH => op_moveD .r) (AD.s (ws := []) rfl rfl (fun H' _ hH => op_moveD .r) (AD.s (ws := []) rfl rfl (fun H' _ hH => op_addE (.r rfl) (.r rfl) (w1 (by omega))) (AD.s (ws := []) rfl rfl (fun H' _ hH => op_sliceH (f := id) (l := c1.map tbF ++ [D.agg (u.1.map .raw)]) .r (by rw [List.map_id]; exact (hH _ (by simp)).trans rfl) hUl sl26 (.r rfl) rfl (slc_tail (by rw [hUl]; omega) (by rw [hUl]))) (AD.s (ws := []) rfl rfl (fun H' _ hH => op_moveH .r) (AD.s (ws := []) rfl rfl (fun H' _ hH => op_moveD .r) (AD.s (ws := []) rfl rfl (fun H' _ hH => op_sliceH (f := id) (l := c1.map tbF ++ [D.agg (u.1.map .raw)]) .r (by rw [List.map_id]; exact (hH _ (by simp)).trans rfl) hUl sl26 (.r rfl) rfl (slc_tail (by rw [hUl]; omega) (by rw [hUl]))) ?_))))))))
   refine AD.s (ws := [(0, _)]) rfl rfl (fun H' _ hH => op_copySelfS (L := c1.map tbF ++ [D.agg (u.1.map .raw)]) (src := (c1.drop i).map tbF) (lo := i + 1) (len := c1.length - i) (lo2 := i) (len2 := c1.length + 1 - i) (n := c1.length - i) hU1 (by decide)
    (.e (cong2 (V.hs 0 · · 2) (Int.toNat_natCast _) (by rw [List.length_drop, hUl]; omega))) (.e (cong2 (V.hs 0 · · 2) (Int.toNat_natCast _) (by rw [List.length_drop, hUl]))) ((hH _ (by simp)).trans rfl) (by rw [hUl]; omega) (by rw [hUl]; omega) (by omega)
    (by rw [List.drop_append_of_le_length (by simp; omega), List.take_append_of_le_length (by simp), List.take_of_length_le (by simp), List.map_drop]) (enTb.oneL _) sl26) ?_
   refine AD.nil ?_
   have hX : (c1.map tbF ++ [D.agg (u.1.map .raw)]).take (i + 1) ++ (c1.drop i).map tbF ++ (c1.map tbF ++ [D.agg (u.1.map .raw)]).drop (i + 1 + (c1.length - i)) = (c1.take (i + 1) ++ c1.drop i).map tbF := by
    have e1 : (c1.map tbF ++ [D.agg (u.1.map .raw)]).take (i + 1) = (c1.take (i + 1)).map tbF := by rw [List.take_append_of_le_length (by simp; omega), List.map_take]
    have e2 : (c1.map tbF ++ [D.agg (u.1.map .raw)]).drop (i + 1 + (c1.length - i)) = [] := List.drop_of_length_le (by rw [hUl]; omega)
    rw [e1, e2, List.append_nil, ← List.map_append]
   rw [hX]
   have hXl : (c1.take (i + 1) ++ c1.drop i).length = c1.length + 1 := by simp; omega
   refine zr (zs (op_moveH .r) (zm rfl (zs (op_sliceH (f := tbF) (l := c1.take (i + 1) ++ c1.drop i) .r rfl hXl sl26 (.r rfl) rfl (slc_tail (by rw [hXl]; omega) (by rw [hXl]))) (zm rfl (zs (op_copyDS (f := tbF) (l := c1.take (i + 1) ++ c1.drop i) (src := [x]) (lo := i) (len := c1.length + 1 - i) enTb (by decide) (.e (cong2 (V.hs 0 · · 2) (Int.toNat_natCast i) (by rw [List.length_drop, hXl]))) rfl (by rw [hXl]; omega) (.r rfl) sl26) (zn ?_))))))
   rw [cpy_room hin]
   refine zr (zs (op_moveH .r) (zs (op_assignH .r) (zn (AW.moveL (n := 1) (f := tbF) (l := c1.take i ++ x :: c1.drop i) 0 [6] rfl rfl ⟨rfl, trivial⟩ (AW.ret (tq_ret (⟨_, [0, 1], (.tmp .r .nil), rfl, rfl, (.cons (.hs rfl hrl.symm) .nil), (.dead (.lst rfl .nil))⟩)))))))
theorem m_cmp_Less_int_ok {n : Nat} {a1 : Int} {a2 : Int} {r : Bool} (hm : m_cmp_Less_int n a1 a2 = some r) : Fn Tryz.prog 107 [(.int .i64 a1), (.int .i64 a2)] (.bool r) := by
 unfold m_cmp_Less_int at hm
 refine Fn.of_AW (fnn := Tryz.f107) Tryz.func107 rfl (Nat.le_of_ble_eq_true rfl) (fun g0 w0 hw0 => ?_)
 refine zr (za rfl (zn (zr (zm rfl ?_))))
 obtain ⟨v3, hv3, hm⟩ := bindE hm
 refine zs (op_fn Tryz.call97 .r (.cons (.r rfl) .nil) (m_cmp_isNaN_int_ok hv3)) (zm rfl (AL.sT rfl rfl rfl rfl (fun g => op_moveD .r) ?_))
 obtain ⟨v4, hv4, hm⟩ := bindE hm
 refine AL.sT rfl rfl rfl rfl (fun g => op_fn Tryz.call97 .r (.cons (.we g rfl rfl) .nil) (m_cmp_isNaN_int_ok (iteT g hv4))) (AL.sT rfl rfl rfl rfl (fun g => op_not (.we g rfl rfl)) (zs (op_and (.r rfl) (fun h => (.we h rfl rfl)) rfl) (zm rfl (AL.sF rfl rfl rfl rfl (fun g => op_moveD .r) (AL.sF rfl rfl rfl rfl (fun g => op_moveD .r) (AL.sF rfl rfl rfl rfl (fun g => op_lss (.we (nt g) rfl rfl) (.we (nt g) rfl rfl)) (zs (op_or (.r rfl) rfl (fun h => (.we (nt h) rfl rfl))) (za rfl (zn (AW.ret ?_))))))))))
 obtain rfl := Option.some.inj hm
 exact EndQ.d (.tmp .r .nil) rfl rfl
theorem m_slices_isNaN_int_ok {n : Nat} {a1 : Int} {r : Bool} (hm : m_slices_isNaN_int n a1 = some r) : Fn Tryz.prog 108 [(.int .i64 a1)] (.bool r) := by
 unfold m_slices_isNaN_int at hm
 refine Fn.of_AW (fnn := Tryz.f108) Tryz.func108 rfl (Nat.le_of_ble_eq_true rfl) (fun g0 w0 hw0 => ?_)
 refine zr (za rfl (zn (zr (zm rfl (zm rfl (zs (op_neq (.r rfl) (.r rfl)) (za rfl (zn (AW.ret ?_)))))))))
 obtain rfl := Option.some.inj hm
 exact EndQ.d (.tmp .r .nil) rfl rfl
theorem m_slices_BinarySearch_int_int_ok {n : Nat} {a1 : (List Int)} {a2 : Int} {r : (Int × Bool)} (hm : m_slices_BinarySearch_int_int n a1 a2 = some r) : Fn Tryz.prog 78 [(.sl (a1.map D.i)), (.int .i64 a2)] (.tup [(.int .i64 r.1), (.bool r.2)]) := by
 unfold m_slices_BinarySearch_int_int at hm
 refine Fn.of_AW (fnn := Tryz.f78) Tryz.func78 rfl (Nat.le_of_ble_eq_true rfl) (fun g0 w0 hw0 => ?_)
 refine AW.reset 0 [(0, .d (.sl (a1.map D.i))), (1, .d (.int .i64 a2))] [] (WOK.g0 hw0 (by simp)) ⟨[], rfl, rfl, rfl, ⟨(.d rfl), (.d rfl), trivial⟩, trivial, .nil⟩ (zr (za rfl (za rfl (zn (zr (zm rfl (zs (op_lenM (f := D.i) (.r rfl) sl38) (za rfl (zn (zr (zm rfl (za rfl (za rfl (zn (AW.seq (AW.block ?_))))))))))))))))
 obtain ⟨t_1, hI1, hk1⟩ := bindE hm
 refine AW.loopS (σ := (Int × Int)) (τ := Int) 0 (fun x => [(0, .d (.sl (a1.map D.i))), (1, .d (.int .i64 a2)), (6, .d (.int .i64 (a1.length : Int))), (7, .d (.int .i64 x.1)), (8, .d (.int .i64 x.2))]) (fun x => []) hI1 (WOK.g0 hw0 (by simp)) ⟨[], rfl, rfl, rfl, ⟨(.d rfl), (.d rfl), (.d rfl), (.d rfl), (.d rfl), trivial⟩, trivial, .nil⟩ ?_
 rintro n1 ⟨s3, s4⟩ hI1
 obtain ⟨y_1, hm, hI1⟩ := iterS hI1
 replace hm : m_slices_BinarySearch_int_int_L1 n _ _ s3 s4 = some y_1 := hm
 unfold m_slices_BinarySearch_int_int_L1 at hm
 try dsimp only at hm
 refine AW.seq (zr (zm rfl (zm rfl (zs (op_lss (.r rfl) (.r rfl)) (zn ?_)))))
 refine AW.cond (b := _) rfl (fun hc1 => ?_) (fun hc1 => ?_)
 ·replace hm := iteT hc1 hm
  refine AW.skip (nq (AW.block (zr (zm rfl (zm rfl (zs (op_addw (.r rfl) (.r rfl)) (zs (op_conv_int (.r rfl) ⟨_, Tryz.underlying3⟩ Tryz.underlying127) ?_)))))))
  obtain ⟨v5, hv5, hm⟩ := bindE hm
  refine zs (op_shrM (.r rfl) (.r rfl) hv5) (zs (op_conv_int (.r rfl) ⟨_, Tryz.underlying127⟩ Tryz.underlying3) (za rfl (zn (zr (zm rfl (zm rfl ?_))))))
  obtain ⟨v6, hv6, hm⟩ := bindE hm
  refine zs (op_indexAddrM (f := D.i) (.r rfl) (.r rfl) hv6 En.i sl38) (zs (op_load_vp1 .r rfl sc3) (zm rfl ?_))
  obtain ⟨v7, hv7, hm⟩ := bindE hm
  refine zs (op_fn Tryz.call107 .r (.cons (.r rfl) (.cons (.r rfl) .nil)) (m_cmp_Less_int_ok hv7)) (zn ?_)
  refine AW.cond (b := _) rfl (fun hc2 => ?_) (fun hc2 => ?_)
  ·replace hm := iteT hc2 hm
   refine AW.region (zm rfl (zs (op_addw (.r rfl) (.r rfl)) (za rfl (zn (bq_n ?_)))))
   obtain rfl := Option.some.inj hm
   exact nq ⟨_, hI1, ⟨[], rfl, rfl, rfl, ⟨(.d rfl), (.d rfl), (.d rfl), (.d rfl), (.d rfl), trivial⟩, trivial, .nil⟩⟩
  ·replace hm := iteF hc2 hm
   refine AW.region (zm rfl (za rfl (zn (bq_n ?_))))
   obtain rfl := Option.some.inj hm
   exact nq ⟨_, hI1, ⟨[], rfl, rfl, rfl, ⟨(.d rfl), (.d rfl), (.d rfl), (.d rfl), (.d rfl), trivial⟩, trivial, .nil⟩⟩
 ·replace hm := iteF hc1 hm
  refine AW.exit (tq_exit (tq_exit ?_))
  obtain rfl := Option.some.inj hm
  obtain rfl := Option.some.inj hI1
  replace hm := hk1
  try dsimp only at hm
  refine bq_hit (nq (zr (zm rfl (zm rfl (zm rfl (zs (op_lss (.r rfl) (.r rfl)) (zm rfl (AL.sT rfl rfl rfl rfl (fun g => op_moveD .r) (AL.sT rfl rfl rfl rfl (fun g => op_moveD .r) ?_)))))))))
  obtain ⟨v8, hv8, hm⟩ := bindE hm
  refine AL.sT rfl rfl rfl rfl (fun g => op_indexAddrM (f := D.i) (.we g rfl rfl) (.we g rfl rfl) (iteT g hv8) En.i sl38) (AL.sT rfl rfl rfl rfl (fun g => op_load_vp1 (.we g rfl) rfl sc3) (AL.sT rfl rfl rfl rfl (fun g => op_moveD .r) (AL.sT rfl rfl rfl rfl (fun g => op_eql (.we g rfl rfl) (.we g rfl rfl)) (AL.sT rfl rfl rfl rfl (fun g => op_moveD (.we g rfl)) (AL.sFF rfl rfl rfl rfl (fun gp g => op_moveD .r) (AL.sFF rfl rfl rfl rfl (fun gp g => op_moveD .r) ?_))))))
  obtain ⟨v9, hv9, hm⟩ := bindE hm
  refine AL.sFF rfl rfl rfl rfl (fun gp g => op_indexAddrM (f := D.i) (.we (an gp (nt g)) rfl rfl) (.we (an gp (nt g)) rfl rfl) (iteT (an gp (nt g)) hv9) En.i sl38) (AL.sFF rfl rfl rfl rfl (fun gp g => op_load_vp1 (.we (an gp (nt g)) rfl) rfl sc3) ?_)
  obtain ⟨v10, hv10, hm⟩ := bindE hm
  refine AL.sFF rfl rfl rfl rfl (fun gp g => op_fn Tryz.call108 .r (.cons (.we (an gp (nt g)) rfl rfl) .nil) (m_slices_isNaN_int_ok (iteT (an gp (nt g)) hv10))) (AL.sFF rfl rfl rfl rfl (fun gp g => op_moveD (.we (an gp (nt g)) rfl)) (AL.sTT rfl rfl rfl rfl (fun gp g => op_moveD .r) ?_))
  obtain ⟨v11, hv11, hm⟩ := bindE hm
  refine AL.sTT rfl rfl rfl rfl (fun gp g => op_fn Tryz.call108 .r (.cons (.we (an gp g) rfl rfl) .nil) (m_slices_isNaN_int_ok (iteT (an gp g) hv11))) (AL.sFF rfl rfl rfl rfl (fun gp g => op_and (.we (an gp (nt g)) rfl rfl) (fun h => (.we (an (an gp (nt g)) h) rfl rfl)) rfl) (AL.sT rfl rfl rfl rfl (fun g => op_or (.we g rfl rfl) rfl (fun h => (.we (an g (nt h)) rfl rfl))) (zs (op_and (.r rfl) (fun h => (.we h rfl rfl)) rfl) (za rfl (za rfl (zn (AW.ret ?_)))))))
  obtain rfl := Option.some.inj hm
  exact EndQ.d (.tmp .r (.tmp .r .nil)) rfl rfl
theorem m_slices_Insert_int_int_ok {n : Nat} {c1 : List Int} {a2 : Int} {a3 : List Int} {r : List Int} (hm : m_slices_Insert_int_int n c1 a2 a3 = some r) : ACall Tryz.prog 79 [.hs 0 0 c1.length 1, .d (.int .i64 a2), .d (.sl (a3.map D.i))] [.lst (c1.map D.i) 3 1] fun r' H' => r' = resOf [.hs 1 0 r.length 1] ∧ H' = [.dead, .lst (r.map D.i) 3 1] := by
 obtain ⟨i, x, rfl, rfl, hi, hb, hl, rfl⟩ := insL_inv hm
 refine ACall.of_AWG (fnn := Tryz.f79) Tryz.func79 rfl (Nat.le_of_ble_eq_true rfl) (fun g0 w0 hw0 => ?_)
 obtain ⟨ad, c, hg, hlc, hmax, hroom⟩ := hw0.lst 0 _ _ _ rfl
 clear hroom
 rw [List.length_map] at hlc
 have hrl : (c1.take i ++ x :: c1.drop i).length = c1.length + 1 := by simp; omega
 have h1 : ∀ y : Int, (D.i y).cells = [D.i y] := fun _ => rfl
 refine zr (zs (op_assignN .r) (zn (zr (zs (op_moveH .r) (zm rfl (zs (op_sliceH (f := D.i) (l := c1) .r rfl rfl sl38 (.r rfl) rfl (slc_tail hi rfl)) (zn (zr (zm rfl (zs (op_lenM (f := D.i) (l := [x]) (.r rfl) sl38) (za rfl (zn (AW.seq (zr (zm rfl (zs (op_eql (.r rfl) (.r rfl)) (zn ?_)))))))))))))))))
 refine AW.cond (b := _) rfl (fun hc1 => absurd hc1 (by simp)) (fun _ => ?_)
 refine AW.skip (nq (zr (zs (op_moveH .r) (zs (op_len_hs .r rfl sl38) (za rfl (zn (AW.seq (zr (zm rfl (zm rfl (zs (op_eql (.r rfl) (.r rfl)) (zn ?_))))))))))))
 refine AW.cond (b := _) rfl (fun hc2 => ?_) (fun hc2 => ?_)
 ·have hin : i = c1.length := by simp at hc2; omega
  subst hin
  refine zr (zs (op_moveH .r) (zm rfl (zs (OpV.appendT sl38.u sl38.u (op_appendHM (n := 1) (f := D.i) (l := c1) (l' := [x]) sl38 .r (.r rfl) rfl rfl rfl En.i (app1 hb hl))) (zs (op_assignH .r) (zn (AW.ret (tq_ret ?_)))))))
  have he : c1.take c1.length ++ x :: c1.drop c1.length = c1 ++ [x] := by simp
  rw [he]
  exact ⟨_, [0, 1], (.tmp .r .nil), rfl, rfl, (.cons (.hs rfl rfl) .nil), (.dead (.lst rfl .nil))⟩
 ·have hin : i < c1.length := by simp at hc2; omega
  refine AW.skip (nq (AW.seq (zr (zm rfl (zm rfl (zs (op_addE (.r rfl) (.r rfl) (w1 hl)) (zs (op_moveH .r) ?_)))))))
  refine AL.sX rfl (op_cap hg .r rfl sl38) (fun _ => ?_)
  refine zs (op_gtr (.r rfl) (.r rfl)) (zn ?_)
  refine AW.cond (b := _) rfl (fun hc3 => ?_) (fun hc3 => ?_)
  ·have hc : c < c1.length + 1 := by simp at hc3; omega
   refine AW.free (zr (zs (op_moveH .r) (zm rfl (zs (op_sliceH (f := D.i) (l := c1) .r rfl rfl sl38 rfl (.r rfl) (slc_head hi)) (zm rfl (zm rfl (zs (op_addE (.r rfl) (.r rfl) (w1 hl)) (zm rfl (zs (op_subE (.r rfl) (.r rfl) (ws hl hi)) ?_)))))))))
   refine AL.sX rfl (op_appendZ (f := D.i) (l := c1) (z := (0 : Int)) (res := 1) (i := i) hg (.e (congrArg (V.hs 0 0 · 1) (by simp; omega))) (.r rfl) rfl hi h1 (by omega) (by omega) sl38 Tryz.underlying3 zr3 rfl rfl (by rw [show i + (c1.length + 1 - i) = c1.length + 1 by omega]; exact hb) (by omega)) (fun _ => ?_)
   refine zs (op_assignH .r) (zn ?_)
   have hZl : (c1.take i ++ List.replicate (c1.length + 1 - i) (0 : Int)).length = i + (c1.length + 1 - i) := by simp; omega
   refine zr (zs (op_moveH .r) (zm rfl (zs (op_sliceH (f := D.i) (l := c1.take i ++ List.replicate (c1.length + 1 - i) (0 : Int)) .r rfl hZl sl38 (.r rfl) rfl (slc_tail (by omega) (by omega))) (zm rfl (zs (op_copyD (f := D.i) (l := c1.take i ++ List.replicate (c1.length + 1 - i) (0 : Int)) (src := [x]) (lo := i) (len := c1.length + 1 - i) h1 En.i (.e (cong2 (V.hs 1 · · 1) (Int.toNat_natCast i) (by rw [List.length_drop, hZl]; omega))) rfl (by omega) (.r rfl) sl38) (zn ?_))))))
   have hY1 : (cpyL (c1.take i ++ List.replicate (c1.length + 1 - i) (0 : Int)) i (c1.length + 1 - i) [x]).length = i + (c1.length + 1 - i) := by rw [cpyL_len (by omega), hZl]
   refine AW.seqD [([], []), ([], []), ([], []), ([], []), ([1], []), ([], []), ([], []), ([0], []), ([1, 0], [1])] mo (by decide +kernel) (AD.s (ws := []) rfl rfl (fun H' _ hH => op_moveH .r) (AD.s (ws := []) rfl rfl (fun H' _ hH => op_moveD .r) (AD.s (ws := []) rfl rfl (fun H' _ hH => op_moveD .r) (AD.s (ws := []) rfl rfl (fun H' _ hH => op_addE (.r rfl) (.r rfl) (w1 (by omega))) (AD.s (ws := []) rfl rfl (fun H' _ hH => op_sliceH (f := D.i) (l := cpyL (c1.take i ++ List.replicate (c1.length + 1 - i) (0 : Int)) i (c1.length + 1 - i) [x]) .r ((hH _ (by simp)).trans rfl) hY1 sl38 (.r rfl) rfl (slc_tail (by omega) (by omega))) (AD.s (ws := []) rfl rfl (fun H' _ hH => op_moveH .r) (AD.s (ws := []) rfl rfl (fun H' _ hH => op_moveD .r) (AD.s (ws := []) rfl rfl (fun H' _ hH => op_sliceH (f := D.i) (l := c1) .r ((hH _ (by simp)).trans rfl) rfl sl38 (.r rfl) rfl (slc_tail hi rfl)) ?_))))))))
   refine AD.s (ws := [(1, _)]) rfl rfl (fun H' _ hH => op_copyH (f := D.i) (l := cpyL (c1.take i ++ List.replicate (c1.length + 1 - i) (0 : Int)) i (c1.length + 1 - i) [x]) (l2 := c1) (src := c1.drop i) (lo := i + 1) (len := c1.length - i) (lo2 := i) (len2 := c1.length - i) h1 En.i
    (.e (cong2 (V.hs 1 · · 1) (Int.toNat_natCast _) (by rw [List.length_drop, hY1]; omega))) ((hH _ (by simp)).trans rfl) (by omega) (.e (cong2 (V.hs 0 · · 1) (Int.toNat_natCast _) (List.length_drop ..))) ((hH _ (by simp)).trans rfl) (List.take_of_length_le (by simp)) (by omega) sl38) ?_
   refine AD.nil ?_
   rw [cpy_grow hi]
   refine zr (zs (op_moveH .r) (zs (op_assignH .r) (zn (AW.ret (tq_ret (⟨_, [0, 1], (.tmp .r .nil), rfl, rfl, (.cons (.hs rfl (by rw [hrl]; omega)) .nil), (.dead (.lst rfl .nil))⟩))))))
  ·have hc : c1.length + 1 ≤ c := by simp at hc3; omega
   refine AW.skip (nq (zr (zs (op_moveH .r) (zm rfl (zm rfl (zs (op_addE (.r rfl) (.r rfl) (w1 hl)) ?_))))))
   refine AL.sX rfl (op_up (l := c1.map D.i) hg .r (.r rfl) rfl (List.length_map ..) (fun y hy => by obtain ⟨q, _, rfl⟩ := List.mem_map.1 hy; rfl) hc sl38) (fun u => ?_)
   refine zs (op_assignH .r) (zn ?_)
   have hUl : (c1.map D.i ++ [D.raw u]).length = c1.length + 1 := by simp
   have hU1 : ∀ y ∈ c1.map D.i ++ [D.raw u], y.cells = [y] := fun y hy => by
    simp only [List.mem_append, List.mem_map, List.mem_singleton] at hy
    rcases hy with ⟨q, _, rfl⟩ | rfl <;> rfl
   refine AW.seq (zr (zm rfl (zs (op_moveH .r) (zm rfl (zm rfl (zs (op_addE (.r rfl) (.r rfl) (w1 (by omega))) (zs (op_sliceH (f := id) (l := c1.map D.i ++ [D.raw u]) .r (by rw [List.map_id]; rfl) hUl sl38 (.r rfl) rfl (slc_tail (by rw [hUl]; omega) (by rw [hUl]))) ?_)))))))
   refine AL.s rfl (op_overlaps (l := [D.i x]) (L := c1.map D.i ++ [D.raw u]) (lo := i + 1) (len := c1.length - i) (tS := 38) (tR := 4)
    (run_callFunc_extern Tryz.func109 (by kernel_rfl) (by kernel_rfl) (by kernel_rfl) (by kernel_rfl)) .r (.r rfl) (.e (cong2 (V.hs 0 · · 1) (Int.toNat_natCast _) (by rw [List.length_drop, hUl]; omega))) rfl (by rw [hUl]; omega) (by omega) (En.i.szL [x]) (En.i.oneL [x]) (by simp) sl38) ?_
   refine zs (op_not (.r rfl)) (zn ?_)
   refine AW.cond (b := _) rfl (fun _ => ?_) (fun hc4 => absurd hc4 (by decide))
   refine AW.seqD [([], []), ([], []), ([], []), ([], []), ([0], []), ([], []), ([], []), ([0], []), ([0], [0])] mo (by decide +kernel) (AD.s (ws := []) rfl rfl (fun H' _ hH => op_moveH .r) (AD.s (ws := []) rfl rfl (fun H' _ hH => op_moveD .r) (AD.s (ws := []) rfl rfl (fun H' _ hH => op_moveD .r) (AD.s (ws := []) rfl rfl (fun H' _ hH => op_addE (.r rfl) (.r rfl) (w1 (by omega))) (AD.s (ws := []) rfl rfl (fun H' _ hH => op_sliceH (f := id) (l := c1.map D.i ++ [D.raw u]) .r (by rw [List.map_id]; exact (hH _ (by simp)).trans rfl) hUl sl38 (.r rfl) rfl (slc_tail (by rw [hUl]; omega) (by rw [hUl]))) (AD.s (ws := []) rfl rfl (fun H' _ hH => op_moveH .r) (AD.s (ws := []) rfl rfl (fun H' _ hH => op_moveD .r) (AD.s (ws := []) rfl rfl (fun H' _ hH => op_sliceH (f := id) (l := c1.map D.i ++ [D.raw u]) .r (by rw [List.map_id]; exact (hH _ (by simp)).trans rfl) hUl sl38 (.r rfl) rfl (slc_tail (by rw [hUl]; omega) (by rw [hUl]))) ?_))))))))
   refine AD.s (ws := [(0, _)]) rfl rfl (fun H' _ hH => op_copySelf (L := c1.map D.i ++ [D.raw u]) (src := (c1.drop i).map D.i) (lo := i + 1) (len := c1.length - i) (lo2 := i) (len2 := c1.length + 1 - i) (n := c1.length - i) hU1
    (.e (cong2 (V.hs 0 · · 1) (Int.toNat_natCast _) (by rw [List.length_drop, hUl]; omega))) (.e (cong2 (V.hs 0 · · 1) (Int.toNat_natCast _) (by rw [List.length_drop, hUl]))) ((hH _ (by simp)).trans rfl) (by rw [hUl]; omega) (by rw [hUl]; omega) (by omega)
    (by rw [List.drop_append_of_le_length (by simp; omega), List.take_append_of_le_length (by simp), List.take_of_length_le (by simp), List.map_drop]) (fun y hy => by obtain ⟨q, _, rfl⟩ := List.mem_map.1 hy; exact En.i.one q _ (by rw [h1]; simp)) sl38) ?_
   refine AD.nil ?_
   have hX : (c1.map D.i ++ [D.raw u]).take (i + 1) ++ (c1.drop i).map D.i ++ (c1.map D.i ++ [D.raw u]).drop (i + 1 + (c1.length - i)) = (c1.take (i + 1) ++ c1.drop i).map D.i := by
    have e1 : (c1.map D.i ++ [D.raw u]).take (i + 1) = (c1.take (i + 1)).map D.i := by rw [List.take_append_of_le_length (by simp; omega), List.map_take]
    have e2 : (c1.map D.i ++ [D.raw u]).drop (i + 1 + (c1.length - i)) = [] := List.drop_of_length_le (by rw [hUl]; omega)
    rw [e1, e2, List.append_nil, ← List.map_append]
   rw [hX]
   have hXl : (c1.take (i + 1) ++ c1.drop i).length = c1.length + 1 := by simp; omega
   refine zr (zs (op_moveH .r) (zm rfl (zs (op_sliceH (f := D.i) (l := c1.take (i + 1) ++ c1.drop i) .r rfl hXl sl38 (.r rfl) rfl (slc_tail (by rw [hXl]; omega) (by rw [hXl]))) (zm rfl (zs (op_copyD (f := D.i) (l := c1.take (i + 1) ++ c1.drop i) (src := [x]) (lo := i) (len := c1.length + 1 - i) h1 En.i (.e (cong2 (V.hs 0 · · 1) (Int.toNat_natCast i) (by rw [List.length_drop, hXl]))) rfl (by rw [hXl]; omega) (.r rfl) sl38) (zn ?_))))))
   rw [cpy_room hin]
   refine zr (zs (op_moveH .r) (zs (op_assignH .r) (zn (AW.moveL (n := 1) (f := D.i) (l := c1.take i ++ x :: c1.drop i) 0 [6] rfl rfl ⟨rfl, trivial⟩ (AW.ret (tq_ret (⟨_, [0, 1], (.tmp .r .nil), rfl, rfl, (.cons (.hs rfl hrl.symm) .nil), (.dead (.lst rfl .nil))⟩)))))))
theorem m_block_put_ok {n : Nat} {c1 : (List SBlock)} {a2 : SFeatures} {r : (List SBlock)} (hm : m_block_put n c1 a2 = some r) : ACall Tryz.prog 43 [.hs 0 0 c1.length 2, .d (SFeatures.e a2)] [tbE SBlock.fKey SBlock.fIDs D.i 3 75 c1 none] fun r' H' => r' = resOf [.hs 1 0 r.length 2] ∧ H' = [.dead, tbE SBlock.fKey SBlock.fIDs D.i 3 75 r none] := by
 unfold m_block_put at hm
 refine ACall.of_AWG (fnn := Tryz.f43) Tryz.func43 rfl (Nat.le_of_ble_eq_true rfl) (fun g0 w0 hw0 => ?_)
 refine AW.moveT (kf := SBlock.fKey) (lf := SBlock.fIDs) (f := D.i) (m := c1) (n := 1) 0 [0] rfl rfl ⟨rfl, trivial⟩ (AW.reset 1 [(0, .hs 1 0 c1.length 2), (1, .d (SFeatures.e a2))] [.dead, tbE SBlock.fKey SBlock.fIDs D.i 3 75 c1 none] (WOK.g0 hw0 (by simp)) ⟨[0, 1], rfl, rfl, rfl, ⟨(.hs rfl rfl), (.d rfl), trivial⟩, trivial, (.dead (.tb rfl .nil))⟩ (zr (zs (op_box (n := 2) .r rfl rfl rfl) (zs (op_assignN .r) (zn (AW.seq (zr (zs (op_load_ptrA .r rfl rfl rfl ag43) ?_))))))))
 obtain ⟨v3, hv3, hm⟩ := bindE hm
 refine zs (op_fn Tryz.call17 .r (.cons (.r rfl) .nil) (m_block_Keys_ok hv3)) (zs (op_lenM (f := D.str) (.r rfl) sl37) (zm rfl (zn (AW.block ?_))))
 obtain ⟨t_1, hI1, hk1⟩ := bindE hm
 refine AW.loopS (σ := (Int × (List SBlock))) (τ := (List SBlock)) 1 (fun x => [(0, .hs 1 0 x.2.length 2), (3, .ptr 2 0), (12, .d (.sl (v3.map D.str))), (13, .d (.int .i64 (v3.length : Int))), (14, .d (.int .i64 x.1))]) (fun x => [.dead, tbE SBlock.fKey SBlock.fIDs D.i 3 75 x.2 none, .row [.d (.int .i64 a2.fID), .d (.sl (a2.fTitle.map D.str)), .d (.str a2.fAuthor), .d (.sl (a2.fYears.map D.i)), .d (.sl (a2.fIsbns.map D.str)), .d (.sl (a2.fLangs.map D.str)), .d (.sl (a2.fPublisher.map D.str)), .d (.sl (a2.fEdition.map D.str))]]) hI1 (WOK.g0 hw0 (by simp)) ⟨[0, 1, 2], rfl, rfl, rfl, ⟨(.hs rfl rfl), (.ptr rfl), (.d rfl), (.d rfl), (.d rfl), trivial⟩, trivial, (.dead (.tb rfl (.row rfl (.cons (.d rfl) (.cons (.d rfl) (.cons (.d rfl) (.cons (.d rfl) (.cons (.d rfl) (.cons (.d rfl) (.cons (.d rfl) (.cons (.d rfl) .nil)))))))) .nil)))⟩ ?_
 rintro n1 ⟨s4, s5⟩ hI1
 obtain ⟨y_1, hm, hI1⟩ := iterS hI1
 replace hm : m_block_put_L1 n _ _ s4 s5 = some y_1 := hm
 unfold m_block_put_L1 at hm
 try dsimp only at hm
 refine zr (zs (op_lss (.r rfl) (.r rfl)) (zn (AW.seq ?_)))
 refine AW.cond (b := _) rfl (fun hc1 => ?_) (fun hc1 => ?_)
 ·replace hm := iteT hc1 hm
  refine AW.skip (nq (AW.seq (AW.block (zr ?_))))
  obtain ⟨v6, hv6, hm⟩ := bindE hm
  refine zs (op_indexAddrM (f := D.str) (.r rfl) (.r rfl) hv6 En.str sl37) (zs (op_load_vp1 .r rfl sc9) (za rfl (zn (zr (zs (op_moveH .r) (zm rfl ?_))))))
  obtain ⟨v7, hv7, hm⟩ := bindE hm
  refine zs (op_lendL [1] Tryz.call65 .r (.cons (LR.t (kf := SBlock.fKey) (lf := SBlock.fIDs) (f := D.i) (m := s5) (fe := SBlock.e) .r rfl rfl (fun _ => rfl) rfl rfl) (.cons (.d (.r rfl)) .nil)) (.tb rfl .nil) (m_block_find_ok hv7) rfl) (zm rfl (zs (op_extractD .r rfl) (zs (op_extractD .r rfl) (za rfl (za rfl (zn ?_))))))
  obtain ⟨t_j1, hm, hkj1⟩ := bindE hm
  refine AW.cutS (α := (List SBlock)) 1 (fun x => x = t_j1) (fun x => [(0, .hs 1 0 x.length 2), (3, .ptr 2 0), (7, .d (.int .i64 v7.1)), (12, .d (.sl (v3.map D.str))), (13, .d (.int .i64 (v3.length : Int))), (14, .d (.int .i64 s4))]) (fun x => [.dead, tbE SBlock.fKey SBlock.fIDs D.i 3 75 x none, .row [.d (.int .i64 a2.fID), .d (.sl (a2.fTitle.map D.str)), .d (.str a2.fAuthor), .d (.sl (a2.fYears.map D.i)), .d (.sl (a2.fIsbns.map D.str)), .d (.sl (a2.fLangs.map D.str)), .d (.sl (a2.fPublisher.map D.str)), .d (.sl (a2.fEdition.map D.str))]]) (WOK.g0 hw0 (by simp)) ?_ ?_
  ·skip
   refine zr (zm rfl (zs (op_not (.r rfl)) (zn ?_)))
   refine AW.cond (b := _) rfl (fun hc2 => ?_) (fun hc2 => ?_)
   ·replace hm := iteT hc2 hm
    refine AW.region (zs (op_moveH .r) (zm rfl (zm rfl (zs (op_buildO bd75 (.cons .r rfl rfl rfl rfl (Nat.le_of_ble_eq_true rfl) .nil)) (zs (op_buildTb sl25 .r) ?_)))))
    obtain ⟨v8, hv8, hm⟩ := bindE hm
    refine AL.gh Gh.free (zs (op_insert_tb (kf := SBlock.fKey) (lf := SBlock.fIDs) (f := D.i) (m := s5) (m' := v8) (r := (⟨v6, []⟩ : SBlock)) (id := 1) (res := 3) (N := s5.length) Tryz.call77 (fun h => m_slices_Insert_block_Table_block_Block_T_ok (n := 0) h) .r .r rfl (.r rfl) (.r rfl) rfl rfl rfl hv8) (zs (op_assignH .r) (zn ?_)))
    obtain rfl := Option.some.inj hm
    exact nq ⟨_, rfl, ⟨[0, 3, 2], rfl, rfl, rfl, ⟨(.hs rfl rfl), (.ptr rfl), (.d rfl), (.d rfl), (.d rfl), (.d rfl), trivial⟩, trivial, (.dead (.tb rfl (.row rfl (.cons (.d rfl) (.cons (.d rfl) (.cons (.d rfl) (.cons (.d rfl) (.cons (.d rfl) (.cons (.d rfl) (.cons (.d rfl) (.cons (.d rfl) .nil)))))))) .nil)))⟩⟩
   ·replace hm := iteF hc2 hm
    refine AW.skip ?_
    obtain rfl := Option.some.inj hm
    exact nq ⟨_, rfl, ⟨[0, 1, 2], rfl, rfl, rfl, ⟨(.hs rfl rfl), (.ptr rfl), (.d rfl), (.d rfl), (.d rfl), (.d rfl), trivial⟩, trivial, (.dead (.tb rfl (.row rfl (.cons (.d rfl) (.cons (.d rfl) (.cons (.d rfl) (.cons (.d rfl) (.cons (.d rfl) (.cons (.d rfl) (.cons (.d rfl) (.cons (.d rfl) .nil)))))))) .nil)))⟩⟩
  ·rintro s9 rfl
   replace hm := hkj1
   try dsimp only at hm
   obtain ⟨v10, hv10, hm⟩ := bindE hm
   refine AW.gh (Gh.lendT (kf := SBlock.fKey) (lf := SBlock.fIDs) (f := D.i) (m := s9) (n := 3) (id := 1) (k := v7.1) (r := v10) (fun _ => rfl) rfl rfl hv10) (AW.seqDG [([], []), ([], []), ([1], []), ([], []), ([1], []), ([], []), ([2], []), ([3], []), ([], []), ([], []), ([], []), ([], []), ([], [])] mo (by decide +kernel) (AD.s (ws := []) rfl rfl (fun H' _ hH => op_moveH .r) (AD.s (ws := []) rfl rfl (fun H' _ hH => op_moveD .r) (AD.s (ws := []) rfl rfl (fun H' _ hH => op_index_tb (kf := SBlock.fKey) (lf := SBlock.fIDs) (f := D.i) (m := s9) (a := v7.1) (r := v10) .r rfl ((hH _ (by simp)).trans rfl) (.r rfl) hv10 sl26) (AD.s (ws := []) rfl rfl (fun H' _ hH => op_field_ptr .r fd75_1) (AD.s (ws := []) rfl rfl (fun H' _ hH => op_load_tb (kf := SBlock.fKey) (lf := SBlock.fIDs) (f := D.i) (m := s9) (a := v7.1) (r := v10) .r ((hH _ (by simp)).trans rfl) hv10 sc38) (AD.s (ws := []) rfl rfl (fun H' _ hH => op_field_ptr .r fd43_0) (AD.s (ws := []) rfl rfl (fun H' _ hH => op_load_ptr1 .r ((hH _ (by simp)).trans rfl) rfl sc3) ?_))))))))
   obtain ⟨v11, hv11, hm⟩ := bindE hm
   refine AD.s (ws := []) rfl rfl (fun H' _ hH => op_lend [3] Tryz.call78 .r (.l (f := D.i) (l := v10.fIDs) .r ((hH _ (by simp)).trans rfl) rfl En.i rfl (.d (.r rfl) .nil)) (m_slices_BinarySearch_int_int_ok hv11) rfl) (AD.s (ws := []) rfl rfl (fun H' _ hH => op_moveD .r) (AD.s (ws := []) rfl rfl (fun H' _ hH => op_extractD .r rfl) (AD.s (ws := []) rfl rfl (fun H' _ hH => op_extractD .r rfl) (AD.s (ws := []) rfl rfl (fun H' _ hH => op_assignD .r) (AD.s (ws := []) rfl rfl (fun H' _ hH => op_assignD .r) (AD.nil (GS.gh (Gh.backT0 (kf := SBlock.fKey) (lf := SBlock.fIDs) (f := D.i) (m := s9) (n := 3) (id := 1) (len := v10.fIDs.length) (k := v7.1) (r := v10) (fun _ => rfl) rfl rfl rfl hv10) (GS.nil ?_))))))))
   obtain ⟨v12, hv12, hm⟩ := bindE hm
   refine AW.gh (Gh.lendT (kf := SBlock.fKey) (lf := SBlock.fIDs) (f := D.i) (m := s9) (n := 4) (id := 1) (k := v7.1) (r := v12) (fun _ => rfl) rfl rfl hv12) (AW.free (AW.drawnG [([], []), ([], []), ([], []), ([], []), ([1], []), ([], []), ([1], []), ([], []), ([], []), ([2], []), ([], []), ([4], [4, 5]), ([1], []), ([], []), ([1, 5], [1])] mo (by decide +kernel) (AD.s (ws := []) rfl rfl (fun H' _ hH => op_moveH .r) (AD.s (ws := []) rfl rfl (fun H' _ hH => op_moveD .r) (AD.s (ws := []) rfl rfl (fun H' _ hH => op_moveH .r) (AD.s (ws := []) rfl rfl (fun H' _ hH => op_moveD .r) (AD.s (ws := []) rfl rfl (fun H' _ hH => op_index_tb (kf := SBlock.fKey) (lf := SBlock.fIDs) (f := D.i) (m := s9) (a := v7.1) (r := v12) .r rfl ((hH _ (by simp)).trans rfl) (.r rfl) hv12 sl26) (AD.s (ws := []) rfl rfl (fun H' _ hH => op_field_ptr .r fd75_1) (AD.s (ws := []) rfl rfl (fun H' _ hH => op_load_tb (kf := SBlock.fKey) (lf := SBlock.fIDs) (f := D.i) (m := s9) (a := v7.1) (r := v12) .r ((hH _ (by simp)).trans rfl) hv12 sc38) (AD.s (ws := []) rfl rfl (fun H' _ hH => op_moveD .r) (AD.s (ws := []) rfl rfl (fun H' _ hH => op_field_ptr .r fd43_0) (AD.s (ws := []) rfl rfl (fun H' _ hH => op_load_ptr1 .r ((hH _ (by simp)).trans rfl) rfl sc3) (AD.s (ws := []) rfl rfl (fun H' _ hH => op_buildSlice (ds := ([a2.fID] : List Int).map D.i) sl38 (.cons (.r rfl) rfl (En.i.one _) .nil) rfl (by decide)) ?_)))))))))))))
   obtain ⟨v13, hv13, hm⟩ := bindE hm
   refine AD.s (ws := [(4, _), (5, _)]) rfl rfl (fun H' _ hH => op_callOwn (ds := [(.int .i64 v11.1), (.sl (([a2.fID] : List Int).map D.i))]) (id := 4) (res := 5) Tryz.call79 .r .r (.a (.r rfl) (.a (.r rfl) .nil)) (m_slices_Insert_int_int_ok hv13) ((hH _ (by simp)).trans rfl) ((hH _ (by simp)).trans rfl)) (AD.s (ws := []) rfl rfl (fun H' _ hH => op_index_tb (kf := SBlock.fKey) (lf := SBlock.fIDs) (f := D.i) (m := s9) (a := v7.1) (r := v12) .r rfl ((hH _ (by simp)).trans rfl) (.r rfl) hv12 sl26) (AD.s (ws := []) rfl rfl (fun H' _ hH => op_field_ptr .r fd75_1) (AD.s (ws := [(1, _)]) rfl rfl (fun H' _ hH => op_store_tb (kf := SBlock.fKey) (lf := SBlock.fIDs) (f := D.i) (m := s9) (l := v13) (n := 4) (len := v12.fIDs.length) (a := v7.1) (r := v12) .r .r ((hH _ (by simp)).trans rfl) ((hH _ (by simp)).trans rfl) rfl hv12 ⟨_, rfl, rfl⟩) (AD.nil (GS.gh (Gh.backT (kf := SBlock.fKey) (lf := SBlock.fIDs) (f := D.i) (m := s9) (n := 5) (id := 1) (len := v13.length) (k := v7.1) (r := v12) (r' := (⟨v12.fKey, v13⟩ : SBlock)) (fun _ => rfl) rfl rfl rfl hv12 rfl) (GS.nil (bq_n (nq (AW.region (zs (op_addw (.r rfl) (.r rfl)) (zm rfl (zn ?_))))))))))))
   obtain rfl := Option.some.inj hm
   exact nq ⟨_, hI1, ⟨[0, 1, 2], rfl, rfl, rfl, ⟨(.hs rfl List.length_set.symm), (.ptr rfl), (.d rfl), (.d rfl), (.d rfl), trivial⟩, trivial, (.dead (.tb rfl (.row rfl (.cons (.d rfl) (.cons (.d rfl) (.cons (.d rfl) (.cons (.d rfl) (.cons (.d rfl) (.cons (.d rfl) (.cons (.d rfl) (.cons (.d rfl) .nil)))))))) .nil)))⟩⟩
 ·replace hm := iteF hc1 hm
  refine AW.exit (tq_exit (tq_exit ?_))
  obtain rfl := Option.some.inj hm
  obtain rfl := Option.some.inj hI1
  replace hm := hk1
  try dsimp only at hm
  refine bq_hit (nq (zr (zs (op_moveH .r) (zs (op_assignH .r) (zn (AW.ret ?_))))))
  obtain rfl := Option.some.inj hm
  exact ⟨_, [0, 1], (.tmp .r .nil), rfl, rfl, (.cons (.hs rfl rfl) .nil), (.dead (.tb rfl .nil))⟩
theorem m_block_Of_ok {n : Nat} {a1 : (List SFeatures)} {r : ((List SBlock) × Int)} (hm : m_block_Of n a1 = some r) : Fn Tryz.prog 11 [(.sl (a1.map SFeatures.e))] (.tup [(.sl (r.1.map SBlock.e)), (.int .i64 r.2)]) := by
 unfold m_block_Of at hm
 refine Fn.of_AW (fnn := Tryz.f11) Tryz.func11 rfl (Nat.le_of_ble_eq_true rfl) (fun g0 w0 hw0 => ?_)
 refine AW.reset 0 [(0, .d (.sl (a1.map SFeatures.e)))] [] (WOK.g0 hw0 (by simp)) ⟨[], rfl, rfl, rfl, ⟨(.d rfl), trivial⟩, trivial, .nil⟩ (zr (zs (op_assignN .r) (za rfl (zn (AW.seq (zr (zm rfl ?_)))))))
 obtain ⟨v2, hv2, hm⟩ := bindE hm
 refine zs (op_call Tryz.call40 .r (.cons .r (.cons .r .nil)) (m_slices_ContainsFunc_feature_Features_feature_Features_ok Tryz.call41 (fun _ _ hb => (m_block_Of_1_ok hb).at _) hv2)) (zn ?_)
 refine AW.cond (b := _) rfl (fun hc1 => ?_) (fun hc1 => ?_)
 ·replace hm := iteT hc1 hm
  refine zr (zs (op_assignN .r) (za rfl (zn (AW.ret (tq_ret ?_)))))
  obtain rfl := Option.some.inj hm
  exact EndQ.d (.tmp .r (.tmp .r .nil)) rfl rfl
 ·replace hm := iteF hc1 hm
  refine AW.skip (nq (zr (zs (op_makeMap (n := 0) rfl) (zs (op_assignM .r) (zn (AW.seq (zr (zm rfl (zs (op_lenM (f := SFeatures.e) (.r rfl) sl30) (zm rfl (zn (AW.block ?_))))))))))))
  obtain ⟨t_1, hI1, hk1⟩ := bindE hm
  refine AW.loopS (σ := (Int × (List (Int × Bool)))) (τ := (((List SBlock) × Int) ⊕ (List (Int × Bool)))) 0 (fun x => [(0, .d (.sl (a1.map SFeatures.e))), (4, .mp 0), (13, .d (.sl (a1.map SFeatures.e))), (14, .d (.int .i64 (a1.length : Int))), (15, .d (.int .i64 x.1))]) (fun x => [.ob (mpO (x.2.map (fun q => ((.int .i64 q.1), (.bool q.2)))))]) hI1 (WOK.g0 hw0 (by simp)) ⟨[0], rfl, rfl, rfl, ⟨(.d rfl), (.mp rfl), (.d rfl), (.d rfl), (.d rfl), trivial⟩, trivial, (.ob rfl obR_mp .nil)⟩ ?_
  rintro n1 ⟨s3, s4⟩ hI1
  obtain ⟨y_1, hm, hI1⟩ := iterS hI1
  replace hm : m_block_Of_L1 n _ s3 s4 = some y_1 := hm
  unfold m_block_Of_L1 at hm
  try dsimp only at hm
  refine zr (zs (op_lss (.r rfl) (.r rfl)) (zn (AW.seq ?_)))
  refine AW.cond (b := _) rfl (fun hc2 => ?_) (fun hc2 => ?_)
  ·replace hm := iteT hc2 hm
   refine AW.skip (nq (AW.seq (AW.block (zr ?_))))
   obtain ⟨v5, hv5, hm⟩ := bindE hm
   refine zs (op_indexAddrM (f := SFeatures.e) (.r rfl) (.r rfl) hv5 enSFeatures sl30) (zs (op_loadA .r rfl ag43) (zs (op_alloc (n := 1) zr43 rfl) (zs (op_store .r .r rfl rfl rfl ⟨_, rfl, rfl⟩ rfl (Nat.le_of_ble_eq_true rfl)) (zn (AW.seq (zr (zs (op_moveM .r) (zs (op_field_ptr .r fd43_0) (zs (op_load_ptr1 .r rfl rfl sc3) (zs (op_lookup (m := s4) (k := v5.fID) (z := (false : Bool)) (fv := D.bool) (keyInt Tryz.underlying3) Tryz.underlying78 .r (.r rfl) rfl ⟨_, rfl, rfl⟩ (fun _ _ => .bool _)) (zn ?_)))))))))))
   refine AW.cond (b := _) rfl (fun hc3 => ?_) (fun hc3 => ?_)
   ·replace hm := iteT hc3 hm
    refine zr (zs (op_assignN .r) (za rfl (zn (AW.ret (tq_ret (bq_ret (tq_ret (tq_ret ?_))))))))
    obtain rfl := Option.some.inj hm
    obtain rfl := Option.some.inj hI1
    replace hm := hk1
    try dsimp only at hm
    refine bq_ret (tq_ret ?_)
    obtain rfl := Option.some.inj hm
    exact EndQ.d (.tmp .r (.tmp .r .nil)) rfl rfl
   ·replace hm := iteF hc3 hm
    refine AW.skip (nq (AW.region (zs (op_moveM .r) (zs (op_field_ptr .r fd43_0) (zs (op_load_ptr1 .r rfl rfl sc3) ?_)))))
    obtain ⟨v6, hv6, hm⟩ := bindE hm
    refine zs (op_mapUpdateM (m := s4) (k := v5.fID) (v := true) (fv := D.bool) (keyInt Tryz.underlying3) Tryz.underlying78 .r (.r rfl) (.r rfl) rfl hv6) (zn (bq_n (nq (AW.region (zs (op_addw (.r rfl) (.r rfl)) (zm rfl (zn ?_)))))))
    obtain rfl := Option.some.inj hm
    exact nq ⟨_, hI1, ⟨[0], rfl, rfl, rfl, ⟨(.d rfl), (.mp rfl), (.d rfl), (.d rfl), (.d rfl), trivial⟩, trivial, (.ob rfl obR_mp .nil)⟩⟩
  ·replace hm := iteF hc2 hm
   refine AW.exit (tq_exit (tq_exit ?_))
   obtain rfl := Option.some.inj hm
   obtain rfl := Option.some.inj hI1
   replace hm := hk1
   try dsimp only at hm
   refine bq_hit (nq (AW.seq (zr (zm rfl (zs (op_lenM (f := SFeatures.e) (.r rfl) sl30) (zs (op_gtr (.r rfl) (.r rfl)) (zn ?_)))))))
   refine AW.cond (b := _) rfl (fun hc4 => ?_) (fun hc4 => ?_)
   ·replace hm := iteT hc4 hm
    refine zr (zs (op_assignN .r) (za rfl (zn (AW.ret (tq_ret ?_)))))
    obtain rfl := Option.some.inj hm
    exact EndQ.d (.tmp .r (.tmp .r .nil)) rfl rfl
   ·replace hm := iteF hc4 hm
    refine AW.skip (nq (zr (zs (op_assignN .r) (zn (AW.seq (zr (zm rfl (zs (op_lenM (f := SFeatures.e) (.r rfl) sl30) (zm rfl (zn (AW.block (AW.tbize (n := 1) SBlock.fKey SBlock.fIDs D.i 7 3 75 rfl rfl ?_))))))))))))
    obtain ⟨t_2, hI2, hk2⟩ := bindE hm
    refine AW.loopS (σ := (Int × (List SBlock))) (τ := (List SBlock)) 0 (fun x => [(7, .hs 1 0 x.2.length 2), (30, .d (.sl (a1.map SFeatures.e))), (31, .d (.int .i64 (a1.length : Int))), (32, .d (.int .i64 x.1))]) (fun x => [.ob (mpO (s4.map (fun q => ((.int .i64 q.1), (.bool q.2))))), tbE SBlock.fKey SBlock.fIDs D.i 3 75 x.2 none]) hI2 (WOK.g0 hw0 (by simp)) ⟨[0, 1], rfl, rfl, rfl, ⟨(.hs rfl rfl), (.d rfl), (.d rfl), (.d rfl), trivial⟩, trivial, (.ob rfl obR_mp (.tb rfl .nil))⟩ ?_
    rintro n2 ⟨s7, s8⟩ hI2
    obtain ⟨y_2, hm, hI2⟩ := iterS hI2
    replace hm : m_block_Of_L2 n _ s7 s8 = some y_2 := hm
    unfold m_block_Of_L2 at hm
    try dsimp only at hm
    refine zr (zs (op_lss (.r rfl) (.r rfl)) (zn (AW.seq ?_)))
    refine AW.cond (b := _) rfl (fun hc5 => ?_) (fun hc5 => ?_)
    ·replace hm := iteT hc5 hm
     refine AW.skip (nq (AW.seq (AW.block (zr ?_))))
     obtain ⟨v9, hv9, hm⟩ := bindE hm
     refine zs (op_indexAddrM (f := SFeatures.e) (.r rfl) (.r rfl) hv9 enSFeatures sl30) (zs (op_loadA .r rfl ag43) (zs (op_alloc (n := 2) zr43 rfl) (zs (op_store .r .r rfl rfl rfl ⟨_, rfl, rfl⟩ rfl (Nat.le_of_ble_eq_true rfl)) (zn (AW.region (zs (op_moveH .r) (zs (op_load_ptrA .r rfl rfl rfl ag43) (AL.toD 37 rfl ?_))))))))
     obtain ⟨v10, hv10, hm⟩ := bindE hm
     refine zs (op_callF (v := .hs 3 0 v10.length 2) (H' := [.ob (mpO (s4.map (fun q => ((.int .i64 q.1), (.bool q.2))))), .dead, .row [.d (.int .i64 v9.fID), .d (.sl (v9.fTitle.map D.str)), .d (.str v9.fAuthor), .d (.sl (v9.fYears.map D.i)), .d (.sl (v9.fIsbns.map D.str)), .d (.sl (v9.fLangs.map D.str)), .d (.sl (v9.fPublisher.map D.str)), .d (.sl (v9.fEdition.map D.str))], tbE SBlock.fKey SBlock.fIDs D.i 3 75 v10 none]) [1] Tryz.call43 .r (.cons .r (.cons .r .nil)) (m_block_put_ok hv10) rfl (.cons (congrArg some tbE_rn.symm) .nil) rfl (allS_tb allS_nil) rfl rfl (allS_c rfl (allS_tb allS_nil)) rfl rfl (mergeH_rw (mapR_c rfl (mapR_tb mapR_nil)) rfl)) (zs (op_assignH .r) (zn (bq_n (nq (AW.region (zs (op_addw (.r rfl) (.r rfl)) (zm rfl (zn ?_))))))))
     obtain rfl := Option.some.inj hm
     exact nq ⟨_, hI2, ⟨[0, 3], rfl, rfl, rfl, ⟨(.hs rfl rfl), (.d rfl), (.d rfl), (.d rfl), trivial⟩, trivial, (.ob rfl obR_mp (.tb rfl .nil))⟩⟩
    ·replace hm := iteF hc5 hm
     refine AW.exit (tq_exit (tq_exit ?_))
     obtain rfl := Option.some.inj hm
     obtain rfl := Option.some.inj hI2
     replace hm := hk2
     try dsimp only at hm
     refine bq_hit (nq (zr (zs (op_moveH .r) (zs (op_assignH .r) (za rfl (zn (AW.freezeTb (kf := SBlock.fKey) (lf := SBlock.fIDs) (f := D.i) (m := s8) (fe := SBlock.e) 1 [2, 7, 40] rfl rfl (fun _ => rfl) ⟨rfl, rfl, rfl, trivial⟩ (AW.ret ?_))))))))
     obtain rfl := Option.some.inj hm
     exact EndQ.d (.tmp .r (.tmp .r .nil)) rfl rfl
theorem m_ref30_Valid_ok {n : Nat} {a1 : (List SBlock)} {r : Bool} (hm : m_ref30_Valid n a1 = some r) : Fn Tryz.prog 28 [(.sl (a1.map SBlock.e))] (.bool r) := by
 unfold m_ref30_Valid at hm
 refine Fn.of_AW (fnn := Tryz.f28) Tryz.func28 rfl (Nat.le_of_ble_eq_true rfl) (fun g0 w0 hw0 => ?_)
 refine AW.reset 0 [(0, .d (.sl (a1.map SBlock.e)))] [] (WOK.g0 hw0 (by simp)) ⟨[], rfl, rfl, rfl, ⟨(.d rfl), trivial⟩, trivial, .nil⟩ (zr (za rfl (zn (AW.seq (zr (za rfl (zn (AW.block ?_))))))))
 obtain ⟨t_1, hI1, hk1⟩ := bindE hm
 refine AW.loopS (σ := Int) (τ := (Bool ⊕ Unit)) 0 (fun x => [(0, .d (.sl (a1.map SBlock.e))), (3, .d (.int .i64 x))]) (fun x => []) hI1 (WOK.g0 hw0 (by simp)) ⟨[], rfl, rfl, rfl, ⟨(.d rfl), (.d rfl), trivial⟩, trivial, .nil⟩ ?_
 rintro n1 s2 hI1
 obtain ⟨y_1, hm, hI1⟩ := iterS hI1
 replace hm : m_ref30_Valid_L1 n _ s2 = some y_1 := hm
 unfold m_ref30_Valid_L1 at hm
 try dsimp only at hm
 refine AW.seq (zr (zm rfl (zm rfl (zs (op_lenM (f := SBlock.e) (.r rfl) sl32) (zs (op_lss (.r rfl) (.r rfl)) (zn ?_))))))
 refine AW.cond (b := _) rfl (fun hc1 => ?_) (fun hc1 => ?_)
 ·replace hm := iteT hc1 hm
  refine AW.skip (nq (AW.seq (AW.block (AW.seq (AW.seqD [([], []), ([], []), ([], []), ([], []), ([], []), ([], []), ([], []), ([], []), ([], []), ([], []), ([], []), ([], []), ([], []), ([], []), ([], []), ([], []), ([], []), ([], []), ([], []), ([], []), ([], []), ([], []), ([], []), ([], []), ([], []), ([], []), ([], []), ([], []), ([], []), ([], []), ([], []), ([], []), ([], [])] mo (by decide +kernel) (AD.s (ws := []) rfl rfl (fun H' _ hH => op_moveD .r) (AD.s (ws := []) rfl rfl (fun H' _ hH => op_moveD .r) ?_)))))))
  obtain ⟨v3, hv3, hm⟩ := bindE hm
  refine AD.s (ws := []) rfl rfl (fun H' _ hH => op_indexAddrM (f := SBlock.e) (.r rfl) (.r rfl) hv3 enSBlock sl32) (AD.s (ws := []) rfl rfl (fun H' _ hH => op_field_vp .r fd81_0) (AD.s (ws := []) rfl rfl (fun H' _ hH => op_load_vp1 .r rfl sc9) (AD.s (ws := []) rfl rfl (fun H' _ hH => op_eqlS (.r rfl) (.r rfl)) (AD.s (ws := []) rfl rfl (fun H' _ hH => op_moveD .r) (AD.sF rfl rfl rfl rfl (fun g H' _ hH => op_moveD .r) (AD.sF rfl rfl rfl rfl (fun g H' _ hH => op_moveD .r) ?_))))))
  obtain ⟨v4, hv4, hm⟩ := bindE hm
  refine AD.sF rfl rfl rfl rfl (fun g H' _ hH => op_indexAddrM (f := SBlock.e) (.we (nt g) rfl rfl) (.we (nt g) rfl rfl) (iteT (nt g) hv4) enSBlock sl32) (AD.sF rfl rfl rfl rfl (fun g H' _ hH => op_field_vp (.we (nt g) rfl) fd81_1) (AD.sF rfl rfl rfl rfl (fun g H' _ hH => op_load_vp1 (.we (nt g) rfl) rfl sc38) (AD.sF rfl rfl rfl rfl (fun g H' _ hH => op_lenM (f := D.i) (.we (nt g) rfl rfl) sl38) (AD.sF rfl rfl rfl rfl (fun g H' _ hH => op_eql (.we (nt g) rfl rfl) (.r rfl)) (AD.s (ws := []) rfl rfl (fun H' _ hH => op_or (.r rfl) rfl (fun h => (.we (nt h) rfl rfl))) (AD.s (ws := []) rfl rfl (fun H' _ hH => op_moveD .r) (AD.sF rfl rfl rfl rfl (fun g H' _ hH => op_moveD .r) (AD.sF rfl rfl rfl rfl (fun g H' _ hH => op_gtr (.we (nt g) rfl rfl) (.r rfl)) (AD.sF rfl rfl rfl rfl (fun g H' _ hH => op_moveD (.we (nt g) rfl)) (AD.sTT rfl rfl rfl rfl (fun gp g H' _ hH => op_moveD .r) (AD.sTT rfl rfl rfl rfl (fun gp g H' _ hH => op_moveD .r) (AD.sTT rfl rfl rfl rfl (fun gp g H' _ hH => op_subw (.we (an gp g) rfl rfl) (.r rfl)) ?_))))))))))))
  obtain ⟨v5, hv5, hm⟩ := bindE hm
  refine AD.sTT rfl rfl rfl rfl (fun gp g H' _ hH => op_indexAddrM (f := SBlock.e) (.we (an gp g) rfl rfl) (.we (an gp g) rfl rfl) (iteT (an gp g) hv5) enSBlock sl32) (AD.sTT rfl rfl rfl rfl (fun gp g H' _ hH => op_field_vp (.we (an gp g) rfl) fd81_0) (AD.sTT rfl rfl rfl rfl (fun gp g H' _ hH => op_load_vp1 (.we (an gp g) rfl) rfl sc9) (AD.sTT rfl rfl rfl rfl (fun gp g H' _ hH => op_moveD .r) (AD.sTT rfl rfl rfl rfl (fun gp g H' _ hH => op_moveD .r) ?_))))
  obtain ⟨v6, hv6, hm⟩ := bindE hm
  refine AD.sTT rfl rfl rfl rfl (fun gp g H' _ hH => op_indexAddrM (f := SBlock.e) (.we (an gp g) rfl rfl) (.we (an gp g) rfl rfl) (iteT (an gp g) hv6) enSBlock sl32) (AD.sTT rfl rfl rfl rfl (fun gp g H' _ hH => op_field_vp (.we (an gp g) rfl) fd81_0) (AD.sTT rfl rfl rfl rfl (fun gp g H' _ hH => op_load_vp1 (.we (an gp g) rfl) rfl sc9) (AD.sTT rfl rfl rfl rfl (fun gp g H' _ hH => op_geqS (.we (an gp g) rfl rfl) (.we (an gp g) rfl rfl)) (AD.sF rfl rfl rfl rfl (fun g H' _ hH => op_and (.we (nt g) rfl rfl) (fun h => (.we (an (nt g) h) rfl rfl)) rfl) (AD.s (ws := []) rfl rfl (fun H' _ hH => op_or (.r rfl) rfl (fun h => (.we (nt h) rfl rfl))) (AD.nil ?_))))))
  refine AW.cond (b := _) rfl (fun hc2 => ?_) (fun hc2 => ?_)
  ·replace hm := iteT hc2 hm
   refine zr (za rfl (zn (AW.ret (tq_ret (bq_ret (tq_ret (tq_ret ?_)))))))
   obtain rfl := Option.some.inj hm
   obtain rfl := Option.some.inj hI1
   replace hm := hk1
   try dsimp only at hm
   refine bq_ret (tq_ret ?_)
   obtain rfl := Option.some.inj hm
   exact EndQ.d (.tmp .r .nil) rfl rfl
  ·replace hm := iteF hc2 hm
   refine AW.skip (nq (zr (zm rfl (zm rfl ?_))))
   obtain ⟨v7, hv7, hm⟩ := bindE hm
   refine zs (op_indexAddrM (f := SBlock.e) (.r rfl) (.r rfl) hv7 enSBlock sl32) (zs (op_field_vp .r fd81_1) (zs (op_load_vp1 .r rfl sc38) (za rfl (zn (AW.reset 0 [(0, .d (.sl (a1.map SBlock.e))), (3, .d (.int .i64 s2)), (4, .d (.sl (v7.fIDs.map D.i)))] [] (WOK.g0 hw0 (by simp)) ⟨[], rfl, rfl, rfl, ⟨(.d rfl), (.d rfl), (.d rfl), trivial⟩, trivial, .nil⟩ (zr (za rfl (zn (AW.block ?_)))))))))
   obtain ⟨t_2, hI2, hk2⟩ := bindE hm
   refine AW.loopS (σ := Int) (τ := (Bool ⊕ Unit)) 0 (fun x => [(0, .d (.sl (a1.map SBlock.e))), (3, .d (.int .i64 s2)), (4, .d (.sl (v7.fIDs.map D.i))), (5, .d (.int .i64 x))]) (fun x => []) hI2 (WOK.g0 hw0 (by simp)) ⟨[], rfl, rfl, rfl, ⟨(.d rfl), (.d rfl), (.d rfl), (.d rfl), trivial⟩, trivial, .nil⟩ ?_
   rintro n2 s8 hI2
   obtain ⟨y_2, hm, hI2⟩ := iterS hI2
   replace hm : m_ref30_Valid_L2 n _ s8 = some y_2 := hm
   unfold m_ref30_Valid_L2 at hm
   try dsimp only at hm
   refine AW.seq (zr (zm rfl (zm rfl (zs (op_lenM (f := D.i) (.r rfl) sl38) (zs (op_lss (.r rfl) (.r rfl)) (zn ?_))))))
   refine AW.cond (b := _) rfl (fun hc3 => ?_) (fun hc3 => ?_)
   ·replace hm := iteT hc3 hm
    refine AW.skip (nq (AW.seq (AW.block (AW.seqD [([], []), ([], []), ([], []), ([], []), ([], []), ([], []), ([], []), ([], []), ([], []), ([], []), ([], []), ([], []), ([], []), ([], []), ([], []), ([], []), ([], []), ([], []), ([], []), ([], []), ([], []), ([], []), ([], []), ([], []), ([], []), ([], []), ([], []), ([], [])] mo (by decide +kernel) (AD.s (ws := []) rfl rfl (fun H' _ hH => op_moveD .r) (AD.s (ws := []) rfl rfl (fun H' _ hH => op_moveD .r) ?_))))))
    obtain ⟨v9, hv9, hm⟩ := bindE hm
    refine AD.s (ws := []) rfl rfl (fun H' _ hH => op_indexAddrM (f := D.i) (.r rfl) (.r rfl) hv9 En.i sl38) (AD.s (ws := []) rfl rfl (fun H' _ hH => op_load_vp1 .r rfl sc3) (AD.s (ws := []) rfl rfl (fun H' _ hH => op_lss (.r rfl) (.r rfl)) (AD.s (ws := []) rfl rfl (fun H' _ hH => op_moveD .r) (AD.sF rfl rfl rfl rfl (fun g H' _ hH => op_moveD .r) (AD.sF rfl rfl rfl rfl (fun g H' _ hH => op_moveD .r) ?_)))))
    obtain ⟨v10, hv10, hm⟩ := bindE hm
    refine AD.sF rfl rfl rfl rfl (fun g H' _ hH => op_indexAddrM (f := D.i) (.we (nt g) rfl rfl) (.we (nt g) rfl rfl) (iteT (nt g) hv10) En.i sl38) (AD.sF rfl rfl rfl rfl (fun g H' _ hH => op_load_vp1 (.we (nt g) rfl) rfl sc3) (AD.sF rfl rfl rfl rfl (fun g H' _ hH => op_gtr (.we (nt g) rfl rfl) (.r rfl)) (AD.s (ws := []) rfl rfl (fun H' _ hH => op_or (.r rfl) rfl (fun h => (.we (nt h) rfl rfl))) (AD.s (ws := []) rfl rfl (fun H' _ hH => op_moveD .r) (AD.sF rfl rfl rfl rfl (fun g H' _ hH => op_moveD .r) (AD.sF rfl rfl rfl rfl (fun g H' _ hH => op_gtr (.we (nt g) rfl rfl) (.r rfl)) (AD.sF rfl rfl rfl rfl (fun g H' _ hH => op_moveD (.we (nt g) rfl)) (AD.sTT rfl rfl rfl rfl (fun gp g H' _ hH => op_moveD .r) (AD.sTT rfl rfl rfl rfl (fun gp g H' _ hH => op_moveD .r) (AD.sTT rfl rfl rfl rfl (fun gp g H' _ hH => op_subw (.we (an gp g) rfl rfl) (.r rfl)) ?_))))))))))
    obtain ⟨v11, hv11, hm⟩ := bindE hm
    refine AD.sTT rfl rfl rfl rfl (fun gp g H' _ hH => op_indexAddrM (f := D.i) (.we (an gp g) rfl rfl) (.we (an gp g) rfl rfl) (iteT (an gp g) hv11) En.i sl38) (AD.sTT rfl rfl rfl rfl (fun gp g H' _ hH => op_load_vp1 (.we (an gp g) rfl) rfl sc3) (AD.sTT rfl rfl rfl rfl (fun gp g H' _ hH => op_moveD .r) (AD.sTT rfl rfl rfl rfl (fun gp g H' _ hH => op_moveD .r) ?_)))
    obtain ⟨v12, hv12, hm⟩ := bindE hm
    refine AD.sTT rfl rfl rfl rfl (fun gp g H' _ hH => op_indexAddrM (f := D.i) (.we (an gp g) rfl rfl) (.we (an gp g) rfl rfl) (iteT (an gp g) hv12) En.i sl38) (AD.sTT rfl rfl rfl rfl (fun gp g H' _ hH => op_load_vp1 (.we (an gp g) rfl) rfl sc3) (AD.sTT rfl rfl rfl rfl (fun gp g H' _ hH => op_geq (.we (an gp g) rfl rfl) (.we (an gp g) rfl rfl)) (AD.sF rfl rfl rfl rfl (fun g H' _ hH => op_and (.we (nt g) rfl rfl) (fun h => (.we (an (nt g) h) rfl rfl)) rfl) (AD.s (ws := []) rfl rfl (fun H' _ hH => op_or (.r rfl) rfl (fun h => (.we (nt h) rfl rfl))) (AD.nil ?_)))))
    refine AW.cond (b := _) rfl (fun hc4 => ?_) (fun hc4 => ?_)
    ·replace hm := iteT hc4 hm
     refine zr (za rfl (zn (AW.ret (bq_ret (tq_ret (tq_ret ?_))))))
     obtain rfl := Option.some.inj hm
     obtain rfl := Option.some.inj hI2
     replace hm := hk2
     try dsimp only at hm
     refine bq_ret (bq_ret (tq_ret (tq_ret ?_)))
     obtain rfl := Option.some.inj hm
     obtain rfl := Option.some.inj hI1
     replace hm := hk1
     try dsimp only at hm
     refine bq_ret (tq_ret ?_)
     obtain rfl := Option.some.inj hm
     exact EndQ.d (.tmp .r .nil) rfl rfl
    ·replace hm := iteF hc4 hm
     refine AW.skip (bq_n (nq (AW.region (zm rfl (zs (op_addw (.r rfl) (.r rfl)) (za rfl (zn ?_)))))))
     obtain rfl := Option.some.inj hm
     exact nq ⟨_, hI2, ⟨[], rfl, rfl, rfl, ⟨(.d rfl), (.d rfl), (.d rfl), (.d rfl), trivial⟩, trivial, .nil⟩⟩
   ·replace hm := iteF hc3 hm
    refine AW.exit (tq_exit (tq_exit ?_))
    obtain rfl := Option.some.inj hm
    obtain rfl := Option.some.inj hI2
    replace hm := hk2
    try dsimp only at hm
    refine bq_hit (bq_n (nq (AW.region (zm rfl (zs (op_addw (.r rfl) (.r rfl)) (za rfl (zn ?_)))))))
    obtain rfl := Option.some.inj hm
    exact nq ⟨_, hI1, ⟨[], rfl, rfl, rfl, ⟨(.d rfl), (.d rfl), trivial⟩, trivial, .nil⟩⟩
 ·replace hm := iteF hc1 hm
  refine AW.exit (tq_exit (tq_exit ?_))
  obtain rfl := Option.some.inj hm
  obtain rfl := Option.some.inj hI1
  replace hm := hk1
  try dsimp only at hm
  refine bq_hit (nq (zr (za rfl (zn (AW.ret ?_)))))
  obtain rfl := Option.some.inj hm
  exact EndQ.d (.tmp .r .nil) rfl rfl
theorem m_ref29_made_ok {n : Nat} {a1 : (List UInt8)} {a2 : Int} {a3 : Int} {a4 : Int} {r : Bool} (hm : m_ref29_made n a1 a2 a3 a4 = some r) : Fn Tryz.prog 80 [(.str a1), (.int .i64 a2), (.int .u8 a3), (.int .u8 a4)] (.bool r) := by
 unfold m_ref29_made at hm
 refine Fn.of_AW (fnn := Tryz.f80) Tryz.func80 rfl (Nat.le_of_ble_eq_true rfl) (fun g0 w0 hw0 => ?_)
 refine AW.reset 0 [(0, .d (.str a1)), (1, .d (.int .i64 a2)), (2, .d (.int .u8 a3)), (3, .d (.int .u8 a4))] [] (WOK.g0 hw0 (by simp)) ⟨[], rfl, rfl, rfl, ⟨(.d rfl), (.d rfl), (.d rfl), (.d rfl), trivial⟩, trivial, .nil⟩ (zr (za rfl (zn (AW.seq (zr (za rfl (zn (AW.block ?_))))))))
 obtain ⟨t_1, hI1, hk1⟩ := bindE hm
 refine AW.loopS (σ := Int) (τ := (Bool ⊕ Unit)) 0 (fun x => [(0, .d (.str a1)), (1, .d (.int .i64 a2)), (2, .d (.int .u8 a3)), (3, .d (.int .u8 a4)), (9, .d (.int .i64 x))]) (fun x => []) hI1 (WOK.g0 hw0 (by simp)) ⟨[], rfl, rfl, rfl, ⟨(.d rfl), (.d rfl), (.d rfl), (.d rfl), (.d rfl), trivial⟩, trivial, .nil⟩ ?_
 rintro n1 s5 hI1
 obtain ⟨y_1, hm, hI1⟩ := iterS hI1
 replace hm : m_ref29_made_L1 n _ _ _ s5 = some y_1 := hm
 unfold m_ref29_made_L1 at hm
 try dsimp only at hm
 refine AW.seq (zr (zm rfl (zm rfl (zs (op_lenS (.r rfl) Tryz.underlying9) (zs (op_lss (.r rfl) (.r rfl)) (zn ?_))))))
 refine AW.cond (b := _) rfl (fun hc1 => ?_) (fun hc1 => ?_)
 ·replace hm := iteT hc1 hm
  refine AW.skip (nq (AW.seq (AW.block (zr (zm rfl (zm rfl ?_))))))
  obtain ⟨v6, hv6, hm⟩ := bindE hm
  refine zs (op_indexSM (.r rfl) (.r rfl) hv6 Tryz.underlying9) (zm rfl (zs (op_lss (.r rfl) (.r rfl)) (zm rfl (AL.sF rfl rfl rfl rfl (fun g => op_moveD .r) (AL.sF rfl rfl rfl rfl (fun g => op_moveD .r) ?_)))))
  obtain ⟨v7, hv7, hm⟩ := bindE hm
  refine AL.sF rfl rfl rfl rfl (fun g => op_indexSM (.we (nt g) rfl rfl) (.we (nt g) rfl rfl) (iteT (nt g) hv7) Tryz.underlying9) (AL.sF rfl rfl rfl rfl (fun g => op_moveD .r) (AL.sF rfl rfl rfl rfl (fun g => op_gtr (.we (nt g) rfl rfl) (.we (nt g) rfl rfl)) (zs (op_or (.r rfl) rfl (fun h => (.we (nt h) rfl rfl))) (zn ?_))))
  refine AW.cond (b := _) rfl (fun hc2 => ?_) (fun hc2 => ?_)
  ·replace hm := iteT hc2 hm
   refine zr (za rfl (zn (AW.ret (bq_ret (tq_ret (tq_ret ?_))))))
   obtain rfl := Option.some.inj hm
   obtain rfl := Option.some.inj hI1
   replace hm := hk1
   try dsimp only at hm
   refine bq_ret (tq_ret ?_)
   obtain rfl := Option.some.inj hm
   exact EndQ.d (.tmp .r .nil) rfl rfl
  ·replace hm := iteF hc2 hm
   refine AW.skip (bq_n (nq (AW.region (zm rfl (zs (op_addw (.r rfl) (.r rfl)) (za rfl (zn ?_)))))))
   obtain rfl := Option.some.inj hm
   exact nq ⟨_, hI1, ⟨[], rfl, rfl, rfl, ⟨(.d rfl), (.d rfl), (.d rfl), (.d rfl), (.d rfl), trivial⟩, trivial, .nil⟩⟩
 ·replace hm := iteF hc1 hm
  refine AW.exit (tq_exit (tq_exit ?_))
  obtain rfl := Option.some.inj hm
  obtain rfl := Option.some.inj hI1
  replace hm := hk1
  try dsimp only at hm
  refine bq_hit (nq (zr (zm rfl (zs (op_lenS (.r rfl) Tryz.underlying9) (zm rfl (zs (op_eql (.r rfl) (.r rfl)) (za rfl (zn (AW.ret ?_)))))))))
  obtain rfl := Option.some.inj hm
  exact EndQ.d (.tmp .r .nil) rfl rfl
theorem m_ref29_word_ok {n : Nat} {a1 : (List UInt8)} {r : Bool} (hm : m_ref29_word n a1 = some r) : Fn Tryz.prog 111 [(.str a1)] (.bool r) := by
 unfold m_ref29_word at hm
 refine Fn.of_AW (fnn := Tryz.f111) Tryz.func111 rfl (Nat.le_of_ble_eq_true rfl) (fun g0 w0 hw0 => ?_)
 refine AW.reset 0 [(0, .d (.str a1))] [] (WOK.g0 hw0 (by simp)) ⟨[], rfl, rfl, rfl, ⟨(.d rfl), trivial⟩, trivial, .nil⟩ (zr (za rfl (zn (AW.seq (zr (za rfl (zn (AW.block ?_))))))))
 obtain ⟨t_1, hI1, hk1⟩ := bindE hm
 refine AW.loopS (σ := Int) (τ := (Bool ⊕ Unit)) 0 (fun x => [(0, .d (.str a1)), (3, .d (.int .i64 x))]) (fun x => []) hI1 (WOK.g0 hw0 (by simp)) ⟨[], rfl, rfl, rfl, ⟨(.d rfl), (.d rfl), trivial⟩, trivial, .nil⟩ ?_
 rintro n1 s2 hI1
 obtain ⟨y_1, hm, hI1⟩ := iterS hI1
 replace hm : m_ref29_word_L1 n _ s2 = some y_1 := hm
 unfold m_ref29_word_L1 at hm
 try dsimp only at hm
 refine AW.seq (zr (zm rfl (zm rfl (zs (op_lenS (.r rfl) Tryz.underlying9) (zs (op_lss (.r rfl) (.r rfl)) (zn ?_))))))
 refine AW.cond (b := _) rfl (fun hc1 => ?_) (fun hc1 => ?_)
 ·replace hm := iteT hc1 hm
  refine AW.skip (nq (AW.seq (AW.block (zr (zm rfl (zm rfl ?_))))))
  obtain ⟨v3, hv3, hm⟩ := bindE hm
  refine zs (op_indexSM (.r rfl) (.r rfl) hv3 Tryz.underlying9) (zs (op_leq (.r rfl) (.r rfl)) (zn ?_))
  refine AW.cond (b := _) rfl (fun hc2 => ?_) (fun hc2 => ?_)
  ·replace hm := iteT hc2 hm
   refine zr (za rfl (zn (AW.ret (bq_ret (tq_ret (tq_ret ?_))))))
   obtain rfl := Option.some.inj hm
   obtain rfl := Option.some.inj hI1
   replace hm := hk1
   try dsimp only at hm
   refine bq_ret (tq_ret ?_)
   obtain rfl := Option.some.inj hm
   exact EndQ.d (.tmp .r .nil) rfl rfl
  ·replace hm := iteF hc2 hm
   refine AW.skip (bq_n (nq (AW.region (zm rfl (zs (op_addw (.r rfl) (.r rfl)) (za rfl (zn ?_)))))))
   obtain rfl := Option.some.inj hm
   exact nq ⟨_, hI1, ⟨[], rfl, rfl, rfl, ⟨(.d rfl), (.d rfl), trivial⟩, trivial, .nil⟩⟩
 ·replace hm := iteF hc1 hm
  refine AW.exit (tq_exit (tq_exit ?_))
  obtain rfl := Option.some.inj hm
  obtain rfl := Option.some.inj hI1
  replace hm := hk1
  try dsimp only at hm
  refine bq_hit (nq (zr (zm rfl (zs (op_lenS (.r rfl) Tryz.underlying9) (zs (op_geq (.r rfl) (.r rfl)) (zm rfl (AL.sT rfl rfl rfl rfl (fun g => op_moveD .r) (AL.sT rfl rfl rfl rfl (fun g => op_lenS (.we g rfl rfl) Tryz.underlying9) (AL.sT rfl rfl rfl rfl (fun g => op_leq (.we g rfl rfl) (.r rfl)) (zs (op_and (.r rfl) (fun h => (.we h rfl rfl)) rfl) (za rfl (zn (AW.ret ?_)))))))))))))
  obtain rfl := Option.some.inj hm
  exact EndQ.d (.tmp .r .nil) rfl rfl
end Go.Proofs.YtkdefjliknpliaaGreatDoor.Ab
