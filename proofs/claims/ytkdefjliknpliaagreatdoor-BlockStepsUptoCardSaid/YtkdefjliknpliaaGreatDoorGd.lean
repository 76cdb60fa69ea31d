/- The functions do what they are in plain Lean. Conditions: none. -/
import Derived.Test.YtkdefjliknpliaaGreatDoorTy
import Derived.Test.YtkdefjliknpliaaGreatDoorMi
import Derived.Test.YtkdefjliknpliaaGreatDoorFe
set_option maxRecDepth 100000
set_option maxHeartbeats 20000000
namespace Go.Proofs.YtkdefjliknpliaaGreatDoor.Ab
open Go
attribute [local irreducible] AL AD AW nlO nlV nlD

theorem m_law30_BlockSteps_ok {n : Nat} {a1 : (List SFeatures)} {a2 : Int} {r : Bool} (hm : m_law30_BlockSteps n a1 a2 = some r) : Fn Tryz.prog 5 [(.sl (a1.map SFeatures.e)), (.int .u8 a2)] (.bool r) := by
 unfold m_law30_BlockSteps at hm
 refine Fn.of_AW (fnn := Tryz.f5) Tryz.func5 rfl (Nat.le_of_ble_eq_true rfl) (fun g0 w0 hw0 => ?_)
 refine AW.reset 0 [(0, .d (.sl (a1.map SFeatures.e))), (1, .d (.int .u8 a2))] [] (WOK.g0 hw0 (by simp)) ⟨[], rfl, rfl, rfl, ⟨(.d rfl), (.d rfl), trivial⟩, trivial, .nil⟩ (zr (za rfl (zn (AW.seq (zr ?_)))))
 obtain ⟨v3, hv3, hm⟩ := bindE hm
 refine zs (op_fn Tryz.call9 .r .nil (m_law30_awake_ok hv3)) (zs (op_not (.r rfl)) (zm rfl (AL.sF rfl rfl rfl rfl (fun g => op_moveD .r) ?_)))
 obtain ⟨v4, hv4, hm⟩ := bindE hm
 refine AL.sF rfl rfl rfl rfl (fun g => op_fn Tryz.call29 .r (.cons (.we (nt g) rfl rfl) .nil) (m_law30_good_ok (iteT (nt g) hv4))) (AL.sF rfl rfl rfl rfl (fun g => op_not (.we (nt g) rfl rfl)) (zs (op_or (.r rfl) rfl (fun h => (.we (nt h) rfl rfl))) (zm rfl (AL.sF rfl rfl rfl rfl (fun g => op_moveD .r) (AL.sF rfl rfl rfl rfl (fun g => op_lenM (f := SFeatures.e) (.we (nt g) rfl rfl) sl22) (AL.sF rfl rfl rfl rfl (fun g => op_eql (.we (nt g) rfl rfl) (.r rfl)) (zs (op_or (.r rfl) rfl (fun h => (.we (nt h) rfl rfl))) (zn ?_))))))))
 refine AW.cond (b := _) rfl (fun hc1 => ?_) (fun hc1 => ?_)
 ·replace hm := iteT hc1 hm
  refine zr ?_
  obtain ⟨v5, hv5, hm⟩ := bindE hm
  refine zs (op_fn Tryz.call9 .r .nil (m_law30_awake_ok hv5)) (za rfl (zn (AW.ret (tq_ret ?_))))
  obtain rfl := Option.some.inj hm
  exact EndQ.d (.tmp .r .nil) rfl rfl
 ·replace hm := iteF hc1 hm
  refine AW.skip (nq (zr (zm rfl ?_)))
  obtain ⟨v6, hv6, hm⟩ := bindE hm
  refine zs (op_fn Tryz.call30 .r (.cons (.r rfl) .nil) (m_law30_table_ok hv6)) (zm rfl (zs (op_extractD .r rfl) (zs (op_extractD .r rfl) (za rfl (za rfl (zn (zr (zs (op_assignN .r) (zn (zr (zm rfl (zs (op_conv_int (.r rfl) ⟨_, Tryz.underlying5⟩ Tryz.underlying3) (zm rfl (zs (op_lenM (f := SFeatures.e) (.r rfl) sl22) ?_))))))))))))))
  obtain ⟨v7, hv7, hm⟩ := bindE hm
  refine zs (op_remM (.r rfl) (.r rfl) hv7) (za rfl (zn (AW.seq (zr (zm rfl (zs (op_lenM (f := SFeatures.e) (.r rfl) sl22) (zm rfl (zn (AW.block ?_)))))))))
  obtain ⟨t_1, hI1, hk1⟩ := bindE hm
  refine AW.loopS (σ := ((List SBlock) × Int)) (τ := (Bool ⊕ (List SBlock))) 0 (fun x => [(0, .d (.sl (a1.map SFeatures.e))), (5, .d (.sl (v6.1.map SBlock.e))), (6, .d (.bool v6.2)), (7, .d (.sl (x.1.map SBlock.e))), (8, .d (.int .i64 v7)), (40, .d (.int .i64 (a1.length : Int))), (41, .d (.int .i64 x.2))]) (fun x => []) hI1 (WOK.g0 hw0 (by simp)) ⟨[], rfl, rfl, rfl, ⟨(.d rfl), (.d rfl), (.d rfl), (.d rfl), (.d rfl), (.d rfl), (.d rfl), trivial⟩, trivial, .nil⟩ ?_
  rintro n1 ⟨s8, s9⟩ hI1
  obtain ⟨y_1, hm, hI1⟩ := iterS hI1
  replace hm : m_law30_BlockSteps_L1 n _ _ s8 s9 = some y_1 := hm
  unfold m_law30_BlockSteps_L1 at hm
  try dsimp only at hm
  refine zr (zs (op_lss (.r rfl) (.r rfl)) (zn (AW.seq ?_)))
  refine AW.cond (b := _) rfl (fun hc2 => ?_) (fun hc2 => ?_)
  ·replace hm := iteT hc2 hm
   refine AW.skip (nq (AW.seq (AW.block (zr (zm rfl (za rfl (zn (zr (zm rfl (zm rfl (zm rfl (zm rfl (zs (op_lenM (f := SFeatures.e) (.r rfl) sl22) (zs (op_addw (.r rfl) (.r rfl)) (zm rfl (zs (op_subw (.r rfl) (.r rfl)) (zm rfl (zs (op_lenM (f := SFeatures.e) (.r rfl) sl22) ?_))))))))))))))))))
   obtain ⟨v10, hv10, hm⟩ := bindE hm
   refine zs (op_remM (.r rfl) (.r rfl) hv10) ?_
   obtain ⟨v11, hv11, hm⟩ := bindE hm
   refine zs (op_indexAddrM (f := SFeatures.e) (.r rfl) (.r rfl) hv11 enSFeatures sl22) (zs (op_loadA .r rfl ag40) ?_)
   obtain ⟨v12, hv12, hm⟩ := bindE hm
   refine zs (op_fn Tryz.call18 .r (.cons (.r rfl) .nil) (m_law29_Own_ok hv12)) ?_
   obtain ⟨v13, hv13, hm⟩ := bindE hm
   refine zs (op_fn Tryz.call22 .r (.cons (.r rfl) (.cons (.r rfl) .nil)) (m_block_Put_ok hv13)) (zm rfl (zs (op_extractD .r rfl) (zs (op_extractD .r rfl) (za rfl (za rfl (zn (AW.seq (zr (zm rfl (zs (op_neq (.r rfl) (.r rfl)) (zn ?_)))))))))))
   refine AW.cond (b := _) rfl (fun hc3 => ?_) (fun hc3 => ?_)
   ·replace hm := iteT hc3 hm
    refine zr (za rfl (zn (AW.ret (tq_ret (bq_ret (tq_ret (tq_ret ?_)))))))
    obtain rfl := Option.some.inj hm
    obtain rfl := Option.some.inj hI1
    replace hm := hk1
    try dsimp only at hm
    refine bq_ret (tq_ret ?_)
    obtain rfl := Option.some.inj hm
    exact EndQ.d (.tmp .r .nil) rfl rfl
   ·replace hm := iteF hc3 hm
    refine AW.skip (nq (AW.region (zm rfl (za rfl (zn (bq_n (nq (AW.region (zs (op_addw (.r rfl) (.r rfl)) (zm rfl (zn ?_)))))))))))
    obtain rfl := Option.some.inj hm
    exact nq ⟨_, hI1, ⟨[], rfl, rfl, rfl, ⟨(.d rfl), (.d rfl), (.d rfl), (.d rfl), (.d rfl), (.d rfl), (.d rfl), trivial⟩, trivial, .nil⟩⟩
  ·replace hm := iteF hc2 hm
   refine AW.exit (tq_exit (tq_exit ?_))
   obtain rfl := Option.some.inj hm
   obtain rfl := Option.some.inj hI1
   replace hm := hk1
   try dsimp only at hm
   refine bq_hit (nq (AW.seq (zr (zm rfl (zs (op_not (.r rfl)) (zm rfl (AL.sF rfl rfl rfl rfl (fun g => op_moveD .r) (AL.sF rfl rfl rfl rfl (fun g => op_moveD .r) ?_))))))))
   obtain ⟨v14, hv14, hm⟩ := bindE hm
   refine AL.sF rfl rfl rfl rfl (fun g => op_fn Tryz.call31 .r (.cons (.we (nt g) rfl rfl) (.cons (.we (nt g) rfl rfl) .nil)) (m_law30_same_ok (iteT (nt g) hv14))) (AL.sF rfl rfl rfl rfl (fun g => op_not (.we (nt g) rfl rfl)) (zs (op_or (.r rfl) rfl (fun h => (.we (nt h) rfl rfl))) (zn ?_)))
   refine AW.cond (b := _) rfl (fun hc4 => ?_) (fun hc4 => ?_)
   ·replace hm := iteT hc4 hm
    refine zr (za rfl (zn (AW.ret (tq_ret ?_))))
    obtain rfl := Option.some.inj hm
    exact EndQ.d (.tmp .r .nil) rfl rfl
   ·replace hm := iteF hc4 hm
    refine AW.skip (nq (zr (zm rfl (zm rfl (zm rfl ?_)))))
    obtain ⟨v15, hv15, hm⟩ := bindE hm
    refine zs (op_indexAddrM (f := SFeatures.e) (.r rfl) (.r rfl) hv15 enSFeatures sl22) (zs (op_field_vp .r fd40_0) (zs (op_load_vp1 .r rfl sc3) ?_))
    obtain ⟨v16, hv16, hm⟩ := bindE hm
    refine zs (op_fn Tryz.call25 .r (.cons (.r rfl) (.cons (.r rfl) .nil)) (m_block_Drop_ok hv16)) (zm rfl (zs (op_extractD .r rfl) (zs (op_extractD .r rfl) (za rfl (za rfl (zn (AW.seq (AW.reset 0 [(0, .d (.sl (a1.map SFeatures.e))), (8, .d (.int .i64 v7)), (12, .d (.sl (v16.1.map SBlock.e))), (13, .d (.int .i64 v16.2))] [] (WOK.g0 hw0 (by simp)) ⟨[], rfl, rfl, rfl, ⟨(.d rfl), (.d rfl), (.d rfl), (.d rfl), trivial⟩, trivial, .nil⟩ (zr (zm rfl (zs (op_eql (.r rfl) (.r rfl)) (zn ?_))))))))))))
    refine AW.cond (b := _) rfl (fun hc5 => ?_) (fun hc5 => ?_)
    ·replace hm := iteT hc5 hm
     refine zr (zm rfl (zm rfl ?_))
     obtain ⟨v17, hv17, hm⟩ := bindE hm
     refine zs (op_indexAddrM (f := SFeatures.e) (.r rfl) (.r rfl) hv17 enSFeatures sl22) (zs (op_loadA .r rfl ag40) ?_)
     obtain ⟨v18, hv18, hm⟩ := bindE hm
     refine zs (op_fn Tryz.call18 .r (.cons (.r rfl) .nil) (m_law29_Own_ok hv18)) ?_
     obtain ⟨v19, hv19, hm⟩ := bindE hm
     refine zs (op_fn Tryz.call17 .r (.cons (.r rfl) .nil) (m_block_Keys_ok hv19)) (zs (op_lenM (f := D.str) (.r rfl) sl37) (zs (op_eql (.r rfl) (.r rfl)) (za rfl (zn (AW.ret (tq_ret ?_))))))
     obtain rfl := Option.some.inj hm
     exact EndQ.d (.tmp .r .nil) rfl rfl
    ·replace hm := iteF hc5 hm
     refine AW.skip (nq (AW.free (AW.free (AW.seqD [([], []), ([], []), ([], []), ([], []), ([], [0]), ([], []), ([], []), ([], []), ([], []), ([0], [0]), ([], []), ([], []), ([], []), ([], []), ([], []), ([], [])] mo (by decide +kernel) (AD.s (ws := []) rfl rfl (fun H' _ hH => op_buildSlice (ds := ([] : List SFeatures).map SFeatures.e) sl22 .nil rfl (by decide)) (AD.s (ws := []) rfl rfl (fun H' _ hH => op_moveD .r) (AD.s (ws := []) rfl rfl (fun H' _ hH => op_moveD .r) ?_)))))))
     obtain ⟨v20, hv20, hm⟩ := bindE hm
     refine AD.s (ws := []) rfl rfl (fun H' _ hH => op_sliceM (f := SFeatures.e) (.r rfl) sl22 rfl (.r rfl) enSFeatures hv20) ?_
     obtain ⟨v21, hv21, hm⟩ := bindE hm
     refine AD.s (ws := [(0, _)]) rfl rfl (fun H' _ hH => op_appendERM (res := 0) (f := SFeatures.e) (l := ([] : List SFeatures)) (l' := v20) sl22 .r (.r rfl) ((hH _ (by simp)).trans rfl) enSFeatures hv21) (AD.s (ws := []) rfl rfl (fun H' _ hH => op_moveD .r) (AD.s (ws := []) rfl rfl (fun H' _ hH => op_moveD .r) (AD.s (ws := []) rfl rfl (fun H' _ hH => op_addw (.r rfl) (.r rfl)) ?_)))
     obtain ⟨v22, hv22, hm⟩ := bindE hm
     refine AD.s (ws := []) rfl rfl (fun H' _ hH => op_sliceM (f := SFeatures.e) (.r rfl) sl22 (.r rfl) rfl enSFeatures hv22) ?_
     obtain ⟨v23, hv23, hm⟩ := bindE hm
     refine AD.s (ws := [(0, _)]) rfl rfl (fun H' _ hH => op_appendM (f := SFeatures.e) (l' := v22) sl22 .r (.r rfl) ((hH _ (by simp)).trans rfl) rfl enSFeatures hv23) ?_
     obtain ⟨v24, hv24, hm⟩ := bindE hm
     refine AD.s (ws := []) rfl rfl (fun H' _ hH => op_fn Tryz.call30 .r (.cons (.r rfl) .nil) (m_law30_table_ok hv24)) (AD.s (ws := []) rfl rfl (fun H' _ hH => op_moveD .r) (AD.s (ws := []) rfl rfl (fun H' _ hH => op_extractD .r rfl) (AD.s (ws := []) rfl rfl (fun H' _ hH => op_extractD .r rfl) (AD.s (ws := []) rfl rfl (fun H' _ hH => op_assignD .r) (AD.s (ws := []) rfl rfl (fun H' _ hH => op_assignD .r) (AD.nil (zr (zm rfl (zs (op_eql (.r rfl) (.r rfl)) (zm rfl (AL.sT rfl rfl rfl rfl (fun g => op_moveD .r) (zs (op_and (.r rfl) (fun h => (.we h rfl rfl)) rfl) (zm rfl (AL.sT rfl rfl rfl rfl (fun g => op_moveD .r) (AL.sT rfl rfl rfl rfl (fun g => op_moveD .r) ?_)))))))))))))))
     obtain ⟨v25, hv25, hm⟩ := bindE hm
     refine AL.sT rfl rfl rfl rfl (fun g => op_fn Tryz.call31 .r (.cons (.we g rfl rfl) (.cons (.we g rfl rfl) .nil)) (m_law30_same_ok (iteT g hv25))) (zs (op_and (.r rfl) (fun h => (.we h rfl rfl)) rfl) (za rfl (zn (AW.ret ?_))))
     obtain rfl := Option.some.inj hm
     exact EndQ.d (.tmp .r .nil) rfl rfl

end Go.Proofs.YtkdefjliknpliaaGreatDoor.Ab
