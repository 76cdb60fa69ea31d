/- The functions do what they are in plain Lean. Conditions: none. -/
import Derived.Test.YtgcmhhcopeiomaaGreatTy
import Derived.Test.YtgcmhhcopeiomaaGreatMi
import Derived.Test.YtgcmhhcopeiomaaGreatFf
set_option maxRecDepth 100000
set_option maxHeartbeats 20000000
namespace Go.Proofs.YtgcmhhcopeiomaaGreat.Ab
open Go
attribute [local irreducible] AL AD AW

theorem m_ref03_Bits_ok {n : Nat} {a1 : (List Int)} {r : Int} (hm : m_ref03_Bits n a1 = some r) : Fn Tryz.prog 94 [(.sl (a1.map D.i))] (.int .i64 r) := by
 unfold m_ref03_Bits at hm
 refine Fn.of_AW (fnn := Tryz.f94) Tryz.func94 rfl (Nat.le_of_ble_eq_true rfl) (fun g0 w0 hw0 => ?_)
 refine AW.reset 0 [(0, .d (.sl (a1.map D.i)))] [] (WOK.g0 hw0 (by simp)) ⟨[], rfl, rfl, rfl, ⟨(.d rfl), trivial⟩, trivial, .nil⟩ (zr (za rfl (zn (AW.seq (zr (zm rfl ?_))))))
 obtain ⟨v2, hv2, hm⟩ := bindE hm
 refine zs (op_fn Tryz.call113 .r (.cons (.r rfl) .nil) (m_ref03_Valid_ok hv2)) (zs (op_not (.r rfl)) (zm rfl (AL.sF rfl rfl rfl rfl (fun g => op_moveD .r) (AL.sF rfl rfl rfl rfl (fun g => op_lenM (f := D.i) (.we (nt g) rfl rfl) sl23) (AL.sF rfl rfl rfl rfl (fun g => op_eql (.we (nt g) rfl rfl) (.r rfl)) (zs (op_or (.r rfl) rfl (fun h => (.we (nt h) rfl rfl))) (zn ?_)))))))
 refine AW.cond (b := _) rfl (fun hc1 => ?_) (fun hc1 => ?_)
 ·replace hm := iteT hc1 hm
  refine zr (za rfl (zn (AW.ret (tq_ret ?_))))
  obtain rfl := Option.some.inj hm
  exact EndQ.d (.tmp .r .nil) rfl rfl
 ·replace hm := iteF hc1 hm
  refine AW.skip (nq (zr (zm rfl (zs (op_lenM (f := D.i) (.r rfl) sl23) (zs (op_subw (.r rfl) (.r rfl)) (zs (op_mulw (.r rfl) (.r rfl)) (za rfl (zn (AW.seq (zr (zm rfl (zm rfl (zs (op_lenM (f := D.i) (.r rfl) sl23) (zs (op_subw (.r rfl) (.r rfl)) ?_))))))))))))))
  obtain ⟨v3, hv3, hm⟩ := bindE hm
  refine zs (op_indexAddrM (f := D.i) (.r rfl) (.r rfl) hv3 En.i sl23) (zs (op_load_vp1 .r rfl sc3) (za rfl (zn (AW.block ?_))))
  obtain ⟨t_1, hI1, hk1⟩ := bindE hm
  refine AW.loopS (σ := (Int × Int)) (τ := Int) 0 (fun x => [(3, .d (.int .i64 x.1)), (4, .d (.int .i64 x.2))]) (fun x => []) hI1 (WOK.g0 hw0 (by simp)) ⟨[], rfl, rfl, rfl, ⟨(.d rfl), (.d rfl), trivial⟩, trivial, .nil⟩ ?_
  rintro n1 ⟨s4, s5⟩ hI1
  obtain ⟨y_1, hm, hI1⟩ := iterS hI1
  replace hm : m_ref03_Bits_L1 n s4 s5 = some y_1 := hm
  unfold m_ref03_Bits_L1 at hm
  try dsimp only at hm
  refine AW.seq (zr (zm rfl (zs (op_gtr (.r rfl) (.r rfl)) (zn ?_))))
  refine AW.cond (b := _) rfl (fun hc2 => ?_) (fun hc2 => ?_)
  ·replace hm := iteT hc2 hm
   refine AW.skip (nq (AW.seq (AW.block (AW.region (zm rfl (zs (op_addw (.r rfl) (.r rfl)) (za rfl (zn (bq_n (nq (AW.region (zm rfl ?_))))))))))))
   obtain ⟨v6, hv6, hm⟩ := bindE hm
   refine zs (op_quoM (.r rfl) (.r rfl) hv6) (za rfl (zn ?_))
   obtain rfl := Option.some.inj hm
   exact nq ⟨_, hI1, ⟨[], rfl, rfl, rfl, ⟨(.d rfl), (.d rfl), trivial⟩, trivial, .nil⟩⟩
  ·replace hm := iteF hc2 hm
   refine AW.exit (tq_exit (tq_exit ?_))
   obtain rfl := Option.some.inj hm
   obtain rfl := Option.some.inj hI1
   replace hm := hk1
   try dsimp only at hm
   refine bq_hit (nq (zr (zm rfl (za rfl (zn (AW.ret ?_))))))
   obtain rfl := Option.some.inj hm
   exact EndQ.d (.tmp .r .nil) rfl rfl

theorem m_ref03_Shift_ok {n : Nat} {a1 : (List Int)} {a2 : Int} {r : ((List Int) × Int)} (hm : m_ref03_Shift n a1 a2 = some r) : Fn Tryz.prog 95 [(.sl (a1.map D.i)), (.int .i64 a2)] (.tup [(.sl (r.1.map D.i)), (.int .i64 r.2)]) := by
 unfold m_ref03_Shift at hm
 refine Fn.of_AW (fnn := Tryz.f95) Tryz.func95 rfl (Nat.le_of_ble_eq_true rfl) (fun g0 w0 hw0 => ?_)
 refine zr (zs (op_assignN .r) (za rfl (zn (AW.seq (AW.block (zr (zm rfl ?_)))))))
 obtain ⟨v3, hv3, hm⟩ := bindE hm
 refine zs (op_fn Tryz.call113 .r (.cons (.r rfl) .nil) (m_ref03_Valid_ok hv3)) (zs (op_not (.r rfl)) (za rfl (zn ?_)))
 refine AW.cond (b := _) rfl (fun hc1 => ?_) (fun hc1 => ?_)
 ·replace hm := iteT hc1 hm
  refine zr (zs (op_assignN .r) (za rfl (zn (AW.ret (bq_ret (tq_ret ?_))))))
  obtain rfl := Option.some.inj hm
  exact EndQ.d (.tmp .r (.tmp .r .nil)) rfl rfl
 ·replace hm := iteF hc1 hm
  refine AW.reset 0 [(0, .d (.sl (a1.map D.i))), (1, .d (.int .i64 a2))] [] (WOK.g0 hw0 (by simp)) ⟨[], rfl, rfl, rfl, ⟨(.d rfl), (.d rfl), trivial⟩, trivial, .nil⟩ (zr (zm rfl (zs (op_lss (.r rfl) (.r rfl)) (zm rfl (AL.sF rfl rfl rfl rfl (fun g => op_moveD .r) (AL.sF rfl rfl rfl rfl (fun g => op_gtr (.we (nt g) rfl rfl) (.r rfl)) (zs (op_or (.r rfl) rfl (fun h => (.we (nt h) rfl rfl))) (za rfl (zn ?_)))))))))
  refine AW.cond (b := _) rfl (fun hc2 => ?_) (fun hc2 => ?_)
  ·replace hm := iteT hc2 hm
   refine zr (zs (op_assignN .r) (za rfl (zn (AW.ret (bq_ret (tq_ret ?_))))))
   obtain rfl := Option.some.inj hm
   exact EndQ.d (.tmp .r (.tmp .r .nil)) rfl rfl
  ·replace hm := iteF hc2 hm
   refine AW.skip (bq_n (nq (AW.free (AW.free (AW.seqD [([], []), ([], []), ([], [0]), ([], []), ([], []), ([], []), ([], []), ([], []), ([], []), ([0], [0, 1]), ([], [])] mo (by decide +kernel) (AD.s (ws := []) rfl rfl (fun H' _ hH => op_moveD .r) ?_))))))
   obtain ⟨v4, hv4, hm⟩ := bindE hm
   refine AD.s (ws := []) rfl rfl (fun H' _ hH => op_quoM (.r rfl) (.r rfl) hv4) ?_
   obtain ⟨v5, hv5, hm⟩ := bindE hm
   refine AD.s (ws := [(0, _)]) rfl rfl (fun H' _ hH => op_makeR (res := 0) (f := D.i) (.r rfl) sl23 zr3 rfl ((hH _ (by simp)).trans rfl) hv5) (AD.s (ws := []) rfl rfl (fun H' _ hH => op_moveD .r) (AD.s (ws := []) rfl rfl (fun H' _ hH => op_moveD .r) ?_))
   obtain ⟨v6, hv6, hm⟩ := bindE hm
   refine AD.s (ws := []) rfl rfl (fun H' _ hH => op_remM (.r rfl) (.r rfl) hv6) ?_
   obtain ⟨v7, hv7, hm⟩ := bindE hm
   refine AD.s (ws := []) rfl rfl (fun H' _ hH => op_shlM (.r rfl) (.r rfl) hv7) (AD.s (ws := []) rfl rfl (fun H' _ hH => op_buildSlice (ds := ([v7] : List Int).map D.i) sl23 (.cons (.r rfl) rfl (En.i.one _) .nil) rfl (by decide)) ?_)
   obtain ⟨v8, hv8, hm⟩ := bindE hm
   refine AD.s (ws := []) rfl rfl (fun H' _ hH => op_fn Tryz.call114 .r (.cons (.r rfl) (.cons (.r rfl) .nil)) (m_ref03_times_ok hv8)) ?_
   obtain ⟨v9, hv9, hm⟩ := bindE hm
   refine AD.s (ws := [(0, _), (1, _)]) rfl rfl (fun H' _ hH => op_appendHRM (res := 1) (f := D.i) (l := v5) (l' := v8) sl23 .r (.r rfl) ((hH _ (by simp)).trans rfl) rfl ((hH _ (by simp)).trans rfl) En.i hv9) (AD.s (ws := []) rfl rfl (fun H' _ hH => op_assignH .r) (AD.nil (AW.freeze (f := D.i) (l := v9) 1 [6, 27] rfl rfl En.i ⟨rfl, rfl, trivial⟩ (zr (zm rfl ?_)))))
   obtain ⟨v10, hv10, hm⟩ := bindE hm
   refine zs (op_fn Tryz.call115 .r (.cons (.r rfl) .nil) (m_ref03_limited_ok hv10)) (zs (op_extractD .r rfl) (zs (op_extractD .r rfl) (za rfl (za rfl (zn (AW.ret ?_))))))
   obtain rfl := Option.some.inj hm
   exact EndQ.d (.tmp .r (.tmp .r .nil)) rfl rfl

theorem m_ref03_Compare_ok {n : Nat} {a1 : (List Int)} {a2 : (List Int)} {r : Int} (hm : m_ref03_Compare n a1 a2 = some r) : Fn Tryz.prog 96 [(.sl (a1.map D.i)), (.sl (a2.map D.i))] (.int .i64 r) := by
 unfold m_ref03_Compare at hm
 refine Fn.of_AW (fnn := Tryz.f96) Tryz.func96 rfl (Nat.le_of_ble_eq_true rfl) (fun g0 w0 hw0 => ?_)
 refine zr (za rfl (zn (AW.seq (zr (zm rfl ?_)))))
 obtain ⟨v3, hv3, hm⟩ := bindE hm
 refine zs (op_fn Tryz.call113 .r (.cons (.r rfl) .nil) (m_ref03_Valid_ok hv3)) (zs (op_not (.r rfl)) (zm rfl (AL.sF rfl rfl rfl rfl (fun g => op_moveD .r) ?_)))
 obtain ⟨v4, hv4, hm⟩ := bindE hm
 refine AL.sF rfl rfl rfl rfl (fun g => op_fn Tryz.call113 .r (.cons (.we (nt g) rfl rfl) .nil) (m_ref03_Valid_ok (iteT (nt g) hv4))) (AL.sF rfl rfl rfl rfl (fun g => op_not (.we (nt g) rfl rfl)) (zs (op_or (.r rfl) rfl (fun h => (.we (nt h) rfl rfl))) (zn ?_)))
 refine AW.cond (b := _) rfl (fun hc1 => ?_) (fun hc1 => ?_)
 ·replace hm := iteT hc1 hm
  refine zr (za rfl (zn (AW.ret (tq_ret ?_))))
  obtain rfl := Option.some.inj hm
  exact EndQ.d (.tmp .r .nil) rfl rfl
 ·replace hm := iteF hc1 hm
  refine AW.skip (nq (zr (zm rfl (zm rfl ?_))))
  obtain ⟨v5, hv5, hm⟩ := bindE hm
  refine zs (op_fn Tryz.call116 .r (.cons (.r rfl) (.cons (.r rfl) .nil)) (m_ref03_compare_ok hv5)) (za rfl (zn (AW.ret ?_)))
  obtain rfl := Option.some.inj hm
  exact EndQ.d (.tmp .r .nil) rfl rfl

theorem m_ref28_Weight_ok {n : Nat} {a1 : (List SRatio)} {r : (Int × Int)} (hm : m_ref28_Weight n a1 = some r) : Fn Tryz.prog 69 [(.sl (a1.map SRatio.e))] (.tup [(.int .i64 r.1), (.int .i64 r.2)]) := by
 unfold m_ref28_Weight at hm
 refine Fn.of_AW (fnn := Tryz.f69) Tryz.func69 rfl (Nat.le_of_ble_eq_true rfl) (fun g0 w0 hw0 => ?_)
 refine AW.reset 0 [(0, .d (.sl (a1.map SRatio.e)))] [] (WOK.g0 hw0 (by simp)) ⟨[], rfl, rfl, rfl, ⟨(.d rfl), trivial⟩, trivial, .nil⟩ (zr (za rfl (za rfl (zn (zr (zm rfl ?_))))))
 obtain ⟨v2, hv2, hm⟩ := bindE hm
 refine zs (op_fn Tryz.call92 .r (.cons (.r rfl) .nil) (m_ref28_Product_ok hv2)) (zm rfl (zs (op_extractD .r rfl) (zs (op_extractD .r rfl) (zs (op_extractD .r rfl) (za rfl (za rfl (za rfl (zn (AW.seq (zr (zm rfl (zs (op_neq (.r rfl) (.r rfl)) (zn ?_)))))))))))))
 refine AW.cond (b := _) rfl (fun hc1 => ?_) (fun hc1 => ?_)
 ·replace hm := iteT hc1 hm
  refine zr (zm rfl (za rfl (za rfl (zn (AW.ret (tq_ret ?_))))))
  obtain rfl := Option.some.inj hm
  exact EndQ.d (.tmp .r (.tmp .r .nil)) rfl rfl
 ·replace hm := iteF hc1 hm
  refine AW.skip (nq (zr (zm rfl ?_)))
  obtain ⟨v3, hv3, hm⟩ := bindE hm
  refine zs (op_fn Tryz.call93 .r (.cons (.r rfl) (.cons (.r rfl) .nil)) (m_ref03_Power_ok hv3)) (zm rfl (zs (op_extractD .r rfl) (zs (op_extractD .r rfl) (za rfl (za rfl (zn (zr (zm rfl ?_))))))))
  obtain ⟨v4, hv4, hm⟩ := bindE hm
  refine zs (op_fn Tryz.call93 .r (.cons (.r rfl) (.cons (.r rfl) .nil)) (m_ref03_Power_ok hv4)) (zm rfl (zs (op_extractD .r rfl) (zs (op_extractD .r rfl) (za rfl (za rfl (zn (zr (zm rfl ?_))))))))
  obtain ⟨v5, hv5, hm⟩ := bindE hm
  refine zs (op_fn Tryz.call94 .r (.cons (.r rfl) .nil) (m_ref03_Bits_ok hv5)) (zm rfl ?_)
  obtain ⟨v6, hv6, hm⟩ := bindE hm
  refine zs (op_fn Tryz.call94 .r (.cons (.r rfl) .nil) (m_ref03_Bits_ok hv6)) (zs (op_subw (.r rfl) (.r rfl)) (za rfl (zn (zr (zm rfl (zm rfl (za rfl (za rfl (zn ?_)))))))))
  obtain ⟨t_j1, hm, hkj1⟩ := bindE hm
  refine AW.cutS (α := ((List Int) × (List Int))) 0 (fun x => x = t_j1) (fun x => [(11, .d (.int .i64 (IntKind.i64.wrap (v5 - v6)))), (12, .d (.sl (x.1.map D.i))), (13, .d (.sl (x.2.map D.i)))]) (fun x => []) (WOK.g0 hw0 (by simp)) ?_ ?_
  ·skip
   refine AW.reset 0 [(7, .d (.sl (v3.1.map D.i))), (9, .d (.sl (v4.1.map D.i))), (11, .d (.int .i64 (IntKind.i64.wrap (v5 - v6)))), (12, .d (.sl (v3.1.map D.i))), (13, .d (.sl (v4.1.map D.i)))] [] (WOK.g0 hw0 (by simp)) ⟨[], rfl, rfl, rfl, ⟨(.d rfl), (.d rfl), (.d rfl), (.d rfl), (.d rfl), trivial⟩, trivial, .nil⟩ (zr (zm rfl (zs (op_gtr (.r rfl) (.r rfl)) (zn ?_))))
   refine AW.cond (b := _) rfl (fun hc2 => ?_) (fun hc2 => ?_)
   ·replace hm := iteT hc2 hm
    refine AW.region (zm rfl (zm rfl ?_))
    obtain ⟨v7, hv7, hm⟩ := bindE hm
    refine zs (op_fn Tryz.call95 .r (.cons (.r rfl) (.cons (.r rfl) .nil)) (m_ref03_Shift_ok hv7)) (zm rfl (zs (op_extractD .r rfl) (zs (op_extractD .r rfl) (za rfl (zn ?_)))))
    obtain rfl := Option.some.inj hm
    exact nq ⟨_, rfl, ⟨[], rfl, rfl, rfl, ⟨(.d rfl), (.d rfl), (.d rfl), trivial⟩, trivial, .nil⟩⟩
   ·replace hm := iteF hc2 hm
    refine AW.region (zm rfl (zm rfl (zs (op_negw (.r rfl)) ?_)))
    obtain ⟨v8, hv8, hm⟩ := bindE hm
    refine zs (op_fn Tryz.call95 .r (.cons (.r rfl) (.cons (.r rfl) .nil)) (m_ref03_Shift_ok hv8)) (zm rfl (zs (op_extractD .r rfl) (zs (op_extractD .r rfl) (za rfl (zn ?_)))))
    obtain rfl := Option.some.inj hm
    exact nq ⟨_, rfl, ⟨[], rfl, rfl, rfl, ⟨(.d rfl), (.d rfl), (.d rfl), trivial⟩, trivial, .nil⟩⟩
  ·rintro ⟨s9, s10⟩ rfl
   replace hm := hkj1
   try dsimp only at hm
   obtain ⟨t_j2, hm, hkj2⟩ := bindE hm
   refine AW.cutS (α := Int) 0 (fun x => x = t_j2) (fun x => [(11, .d (.int .i64 x))]) (fun x => []) (WOK.g0 hw0 (by simp)) ?_ ?_
   ·skip
    refine zr (zm rfl (zm rfl ?_))
    obtain ⟨v11, hv11, hm⟩ := bindE hm
    refine zs (op_fn Tryz.call96 .r (.cons (.r rfl) (.cons (.r rfl) .nil)) (m_ref03_Compare_ok hv11)) (zs (op_lss (.r rfl) (.r rfl)) (zn ?_))
    refine AW.cond (b := _) rfl (fun hc3 => ?_) (fun hc3 => ?_)
    ·replace hm := iteT hc3 hm
     refine AW.region (zm rfl (zs (op_subw (.r rfl) (.r rfl)) (za rfl (zn ?_))))
     obtain rfl := Option.some.inj hm
     exact nq ⟨_, rfl, ⟨[], rfl, rfl, rfl, ⟨(.d rfl), trivial⟩, trivial, .nil⟩⟩
    ·replace hm := iteF hc3 hm
     refine AW.skip ?_
     obtain rfl := Option.some.inj hm
     exact nq ⟨_, rfl, ⟨[], rfl, rfl, rfl, ⟨(.d rfl), trivial⟩, trivial, .nil⟩⟩
   ·rintro s12 rfl
    replace hm := hkj2
    try dsimp only at hm
    refine zr (zm rfl (za rfl (za rfl (zn (AW.ret ?_)))))
    obtain rfl := Option.some.inj hm
    exact EndQ.d (.tmp .r (.tmp .r .nil)) rfl rfl

theorem m_ref31_Weight_ok {n : Nat} {a1 : A72} {a2 : A7} {r : (Int × Int)} (hm : m_ref31_Weight n a1 a2 = some r) : Fn Tryz.prog 33 [(A72.e a1), (A7.e a2)] (.tup [(.int .i64 r.1), (.int .i64 r.2)]) := by
 unfold m_ref31_Weight at hm
 refine Fn.of_AW (fnn := Tryz.f33) Tryz.func33 rfl (Nat.le_of_ble_eq_true rfl) (fun g0 w0 hw0 => ?_)
 refine zr (zs (op_box (n := 0) .r rfl rfl rfl) (zs (op_box (n := 1) .r rfl rfl rfl) (za rfl (za rfl (zn (zr (zs (op_load_ptrA .r rfl rfl rfl ag43) (zs (op_load_ptrA .r rfl rfl rfl ag35) ?_))))))))
 obtain ⟨v3, hv3, hm⟩ := bindE hm
 refine zs (op_fn Tryz.call68 .r (.cons (.r rfl) (.cons (.r rfl) .nil)) (m_ref31_Factors_ok hv3)) (zm rfl (zs (op_extractD .r rfl) (zs (op_extractD .r rfl) (za rfl (za rfl (zn (AW.seq (zr (zm rfl (zs (op_neq (.r rfl) (.r rfl)) (zn ?_)))))))))))
 refine AW.cond (b := _) rfl (fun hc1 => ?_) (fun hc1 => ?_)
 ·replace hm := iteT hc1 hm
  refine zr (zm rfl (za rfl (za rfl (zn (AW.ret (tq_ret ?_))))))
  obtain rfl := Option.some.inj hm
  exact EndQ.d (.tmp .r (.tmp .r .nil)) rfl rfl
 ·replace hm := iteF hc1 hm
  refine AW.skip (nq (zr (zm rfl ?_)))
  obtain ⟨v4, hv4, hm⟩ := bindE hm
  refine zs (op_fn Tryz.call69 .r (.cons (.r rfl) .nil) (m_ref28_Weight_ok hv4)) (zs (op_extractD .r rfl) (zs (op_extractD .r rfl) (za rfl (za rfl (zn (AW.ret ?_))))))
  obtain rfl := Option.some.inj hm
  exact EndQ.d (.tmp .r (.tmp .r .nil)) rfl rfl

theorem m_ref31_All_ok {n : Nat} {a1 : A72} {a2 : (List SFeatures)} {a3 : (List SPair)} {r : ((List SWeighted) × Int)} (hm : m_ref31_All n a1 a2 a3 = some r) : Fn Tryz.prog 13 [(A72.e a1), (.sl (a2.map SFeatures.e)), (.sl (a3.map SPair.e))] (.tup [(.sl (r.1.map SWeighted.e)), (.int .i64 r.2)]) := by
 unfold m_ref31_All at hm
 refine Fn.of_AW (fnn := Tryz.f13) Tryz.func13 rfl (Nat.le_of_ble_eq_true rfl) (fun g0 w0 hw0 => ?_)
 refine AW.reset 0 [(0, .d (A72.e a1)), (1, .d (.sl (a2.map SFeatures.e))), (2, .d (.sl (a3.map SPair.e)))] [] (WOK.g0 hw0 (by simp)) ⟨[], rfl, rfl, rfl, ⟨(.d rfl), (.d rfl), (.d rfl), trivial⟩, trivial, .nil⟩ (zr (zs (op_box (n := 0) .r rfl rfl rfl) (zs (op_assignN .r) (za rfl (zn (AW.seq (zr (zs (op_load_ptrA .r rfl rfl rfl ag43) ?_))))))))
 obtain ⟨v4, hv4, hm⟩ := bindE hm
 refine zs (op_fn Tryz.call31 .r (.cons (.r rfl) .nil) (m_ref31_Valid_ok hv4)) (zs (op_not (.r rfl)) (zn ?_))
 refine AW.cond (b := _) rfl (fun hc1 => ?_) (fun hc1 => ?_)
 ·replace hm := iteT hc1 hm
  refine zr (zs (op_assignN .r) (za rfl (zn (AW.ret (tq_ret ?_)))))
  obtain rfl := Option.some.inj hm
  exact EndQ.d (.tmp .r (.tmp .r .nil)) rfl rfl
 ·replace hm := iteF hc1 hm
  refine AW.skip (nq (AW.seq (zr (za rfl (zn (AW.block ?_))))))
  obtain ⟨t_1, hI1, hk1⟩ := bindE hm
  refine AW.loopS (σ := Int) (τ := (((List SWeighted) × Int) ⊕ Unit)) 0 (fun x => [(1, .d (.sl (a2.map SFeatures.e))), (2, .d (.sl (a3.map SPair.e))), (3, .ptr 0 0), (8, .d (.int .i64 x))]) (fun x => [.row ((A72.e a1).cells.map .d)]) hI1 (WOK.g0 hw0 (by simp)) ⟨[0], rfl, rfl, rfl, ⟨(.d rfl), (.d rfl), (.ptr rfl), (.d rfl), trivial⟩, trivial, (.row rfl (cd (A72.e a1).cells) .nil)⟩ ?_
  rintro n1 s5 hI1
  obtain ⟨y_1, hm, hI1⟩ := iterS hI1
  replace hm : m_ref31_All_L1 n _ s5 = some y_1 := hm
  unfold m_ref31_All_L1 at hm
  try dsimp only at hm
  refine AW.seq (zr (zm rfl (zm rfl (zs (op_lenM (f := SFeatures.e) (.r rfl) sl44) (zs (op_lss (.r rfl) (.r rfl)) (zn ?_))))))
  refine AW.cond (b := _) rfl (fun hc2 => ?_) (fun hc2 => ?_)
  ·replace hm := iteT hc2 hm
   refine AW.skip (nq (AW.seq (AW.block (zr (zm rfl (zm rfl ?_))))))
   obtain ⟨v6, hv6, hm⟩ := bindE hm
   refine zs (op_indexAddrM (f := SFeatures.e) (.r rfl) (.r rfl) hv6 enSFeatures sl44) (zs (op_loadA .r rfl ag25) ?_)
   obtain ⟨v7, hv7, hm⟩ := bindE hm
   refine zs (op_fn Tryz.call27 .r (.cons (.r rfl) .nil) (m_ref29_Valid_ok hv7)) (zs (op_not (.r rfl)) (zn ?_))
   refine AW.cond (b := _) rfl (fun hc3 => ?_) (fun hc3 => ?_)
   ·replace hm := iteT hc3 hm
    refine zr (zs (op_assignN .r) (za rfl (zn (AW.ret (bq_ret (tq_ret (tq_ret ?_)))))))
    obtain rfl := Option.some.inj hm
    obtain rfl := Option.some.inj hI1
    replace hm := hk1
    try dsimp only at hm
    refine bq_ret (tq_ret ?_)
    obtain rfl := Option.some.inj hm
    exact EndQ.d (.tmp .r (.tmp .r .nil)) rfl rfl
   ·replace hm := iteF hc3 hm
    refine AW.skip (bq_n (nq (AW.region (zm rfl (zs (op_addw (.r rfl) (.r rfl)) (za rfl (zn ?_)))))))
    obtain rfl := Option.some.inj hm
    exact nq ⟨_, hI1, ⟨[0], rfl, rfl, rfl, ⟨(.d rfl), (.d rfl), (.ptr rfl), (.d rfl), trivial⟩, trivial, (.row rfl (cd (A72.e a1).cells) .nil)⟩⟩
  ·replace hm := iteF hc2 hm
   refine AW.exit (tq_exit (tq_exit ?_))
   obtain rfl := Option.some.inj hm
   obtain rfl := Option.some.inj hI1
   replace hm := hk1
   try dsimp only at hm
   refine bq_hit (nq (AW.seq (zr (za rfl (zn (AW.block ?_))))))
   obtain ⟨t_2, hI2, hk2⟩ := bindE hm
   refine AW.loopS (σ := Int) (τ := (((List SWeighted) × Int) ⊕ Unit)) 0 (fun x => [(1, .d (.sl (a2.map SFeatures.e))), (2, .d (.sl (a3.map SPair.e))), (3, .ptr 0 0), (9, .d (.int .i64 x))]) (fun x => [.row ((A72.e a1).cells.map .d)]) hI2 (WOK.g0 hw0 (by simp)) ⟨[0], rfl, rfl, rfl, ⟨(.d rfl), (.d rfl), (.ptr rfl), (.d rfl), trivial⟩, trivial, (.row rfl (cd (A72.e a1).cells) .nil)⟩ ?_
   rintro n2 s8 hI2
   obtain ⟨y_2, hm, hI2⟩ := iterS hI2
   replace hm : m_ref31_All_L2 n _ s8 = some y_2 := hm
   unfold m_ref31_All_L2 at hm
   try dsimp only at hm
   refine AW.seq (zr (zm rfl (zm rfl (zs (op_lenM (f := SFeatures.e) (.r rfl) sl44) (zs (op_lss (.r rfl) (.r rfl)) (zn ?_))))))
   refine AW.cond (b := _) rfl (fun hc4 => ?_) (fun hc4 => ?_)
   ·replace hm := iteT hc4 hm
    refine AW.skip (nq (AW.seq (AW.block (zr (zm rfl (zm rfl (zm rfl ?_)))))))
    obtain ⟨v9, hv9, hm⟩ := bindE hm
    refine zs (op_indexAddrM (f := SFeatures.e) (.r rfl) (.r rfl) hv9 enSFeatures sl44) (zs (op_field_vp .r fd25_0) (zs (op_load_vp1 .r rfl sc3) ?_))
    obtain ⟨v10, hv10, hm⟩ := bindE hm
    refine zs (op_fn Tryz.call32 .r (.cons (.r rfl) (.cons (.r rfl) .nil)) (m_ref31_find_ok hv10)) (zm rfl (zs (op_lss (.r rfl) (.r rfl)) (zn ?_)))
    refine AW.cond (b := _) rfl (fun hc5 => ?_) (fun hc5 => ?_)
    ·replace hm := iteT hc5 hm
     refine zr (zs (op_assignN .r) (za rfl (zn (AW.ret (bq_ret (tq_ret (tq_ret ?_)))))))
     obtain rfl := Option.some.inj hm
     obtain rfl := Option.some.inj hI2
     replace hm := hk2
     try dsimp only at hm
     refine bq_ret (tq_ret ?_)
     obtain rfl := Option.some.inj hm
     exact EndQ.d (.tmp .r (.tmp .r .nil)) rfl rfl
    ·replace hm := iteF hc5 hm
     refine AW.skip (bq_n (nq (AW.region (zm rfl (zs (op_addw (.r rfl) (.r rfl)) (za rfl (zn ?_)))))))
     obtain rfl := Option.some.inj hm
     exact nq ⟨_, hI2, ⟨[0], rfl, rfl, rfl, ⟨(.d rfl), (.d rfl), (.ptr rfl), (.d rfl), trivial⟩, trivial, (.row rfl (cd (A72.e a1).cells) .nil)⟩⟩
   ·replace hm := iteF hc4 hm
    refine AW.exit (tq_exit (tq_exit ?_))
    obtain rfl := Option.some.inj hm
    obtain rfl := Option.some.inj hI2
    replace hm := hk2
    try dsimp only at hm
    refine bq_hit (nq (AW.seq (zr (za rfl (zn (AW.block ?_))))))
    obtain ⟨t_3, hI3, hk3⟩ := bindE hm
    refine AW.loopS (σ := Int) (τ := (((List SWeighted) × Int) ⊕ Unit)) 0 (fun x => [(1, .d (.sl (a2.map SFeatures.e))), (2, .d (.sl (a3.map SPair.e))), (3, .ptr 0 0), (10, .d (.int .i64 x))]) (fun x => [.row ((A72.e a1).cells.map .d)]) hI3 (WOK.g0 hw0 (by simp)) ⟨[0], rfl, rfl, rfl, ⟨(.d rfl), (.d rfl), (.ptr rfl), (.d rfl), trivial⟩, trivial, (.row rfl (cd (A72.e a1).cells) .nil)⟩ ?_
    rintro n3 s11 hI3
    obtain ⟨y_3, hm, hI3⟩ := iterS hI3
    replace hm : m_ref31_All_L3 n _ _ s11 = some y_3 := hm
    unfold m_ref31_All_L3 at hm
    try dsimp only at hm
    refine AW.seq (zr (zm rfl (zm rfl (zs (op_lenM (f := SPair.e) (.r rfl) sl45) (zs (op_lss (.r rfl) (.r rfl)) (zn ?_))))))
    refine AW.cond (b := _) rfl (fun hc6 => ?_) (fun hc6 => ?_)
    ·replace hm := iteT hc6 hm
     refine AW.skip (nq (AW.seq (AW.block (zr (zm rfl (zm rfl (zm rfl ?_)))))))
     obtain ⟨v12, hv12, hm⟩ := bindE hm
     refine zs (op_indexAddrM (f := SPair.e) (.r rfl) (.r rfl) hv12 enSPair sl45) (zs (op_field_vp .r fd60_0) (zs (op_load_vp1 .r rfl sc3) ?_))
     obtain ⟨v13, hv13, hm⟩ := bindE hm
     refine zs (op_fn Tryz.call32 .r (.cons (.r rfl) (.cons (.r rfl) .nil)) (m_ref31_find_ok hv13)) (zs (op_lss (.r rfl) (.r rfl)) (zm rfl (AL.sF rfl rfl rfl rfl (fun g => op_moveD .r) (AL.sF rfl rfl rfl rfl (fun g => op_moveD .r) (AL.sF rfl rfl rfl rfl (fun g => op_moveD .r) ?_)))))
     obtain ⟨v14, hv14, hm⟩ := bindE hm
     refine AL.sF rfl rfl rfl rfl (fun g => op_indexAddrM (f := SPair.e) (.we (nt g) rfl rfl) (.we (nt g) rfl rfl) (iteT (nt g) hv14) enSPair sl45) (AL.sF rfl rfl rfl rfl (fun g => op_field_vp (.we (nt g) rfl) fd60_1) (AL.sF rfl rfl rfl rfl (fun g => op_load_vp1 (.we (nt g) rfl) rfl sc3) ?_))
     obtain ⟨v15, hv15, hm⟩ := bindE hm
     refine AL.sF rfl rfl rfl rfl (fun g => op_fn Tryz.call32 .r (.cons (.we (nt g) rfl rfl) (.cons (.we (nt g) rfl rfl) .nil)) (m_ref31_find_ok (iteT (nt g) hv15))) (AL.sF rfl rfl rfl rfl (fun g => op_lss (.we (nt g) rfl rfl) (.r rfl)) (zs (op_or (.r rfl) rfl (fun h => (.we (nt h) rfl rfl))) (zn ?_)))
     refine AW.cond (b := _) rfl (fun hc7 => ?_) (fun hc7 => ?_)
     ·replace hm := iteT hc7 hm
      refine zr (zs (op_assignN .r) (za rfl (zn (AW.ret (bq_ret (tq_ret (tq_ret ?_)))))))
      obtain rfl := Option.some.inj hm
      obtain rfl := Option.some.inj hI3
      replace hm := hk3
      try dsimp only at hm
      refine bq_ret (tq_ret ?_)
      obtain rfl := Option.some.inj hm
      exact EndQ.d (.tmp .r (.tmp .r .nil)) rfl rfl
     ·replace hm := iteF hc7 hm
      refine AW.skip (bq_n (nq (AW.region (zm rfl (zs (op_addw (.r rfl) (.r rfl)) (za rfl (zn ?_)))))))
      obtain rfl := Option.some.inj hm
      exact nq ⟨_, hI3, ⟨[0], rfl, rfl, rfl, ⟨(.d rfl), (.d rfl), (.ptr rfl), (.d rfl), trivial⟩, trivial, (.row rfl (cd (A72.e a1).cells) .nil)⟩⟩
    ·replace hm := iteF hc6 hm
     refine AW.exit (tq_exit (tq_exit ?_))
     obtain rfl := Option.some.inj hm
     obtain rfl := Option.some.inj hI3
     replace hm := hk3
     try dsimp only at hm
     refine bq_hit (nq (zr (zs (op_assignN .r) (zn (AW.seq (zr (za rfl (zn (AW.block (AW.tokenize (n := 1) 11 62 3 rfl rfl (by simp) ?_))))))))))
     obtain ⟨t_4, hI4, hk4⟩ := bindE hm
     refine AW.loopS (σ := ((List SWeighted) × Int)) (τ := (((List SWeighted) × Int) ⊕ (List SWeighted))) 0 (fun x => [(1, .d (.sl (a2.map SFeatures.e))), (2, .d (.sl (a3.map SPair.e))), (3, .ptr 0 0), (11, .tk 1 (x.1.map SWeighted.e)), (12, .d (.int .i64 x.2))]) (fun x => [.row ((A72.e a1).cells.map .d), .tok x.1.length 62 3]) hI4 (WOK.g0 hw0 (by simp)) ⟨[0, 1], rfl, rfl, rfl, ⟨(.d rfl), (.d rfl), (.ptr rfl), (.tk rfl), (.d rfl), trivial⟩, trivial, (.row rfl (cd (A72.e a1).cells) (.tok rfl .nil))⟩ ?_
     rintro n4 ⟨s16, s17⟩ hI4
     obtain ⟨y_4, hm, hI4⟩ := iterS hI4
     replace hm : m_ref31_All_L4 n _ _ _ s16 s17 = some y_4 := hm
     unfold m_ref31_All_L4 at hm
     try dsimp only at hm
     refine AW.seq (zr (zm rfl (zm rfl (zs (op_lenM (f := SPair.e) (.r rfl) sl45) (zs (op_lss (.r rfl) (.r rfl)) (zn ?_))))))
     refine AW.cond (b := _) rfl (fun hc8 => ?_) (fun hc8 => ?_)
     ·replace hm := iteT hc8 hm
      refine AW.skip (nq (AW.seq (AW.block (zr (zm rfl (zm rfl ?_))))))
      obtain ⟨v18, hv18, hm⟩ := bindE hm
      refine zs (op_indexAddrM (f := SPair.e) (.r rfl) (.r rfl) hv18 enSPair sl45) (zs (op_loadA .r rfl ag60) (zs (op_alloc (n := 2) zr60 rfl) (zs (op_store .r .r rfl rfl rfl ⟨_, rfl, rfl⟩ rfl (Nat.le_of_ble_eq_true rfl)) (zn (AW.seq (AW.seqD [([], []), ([2], []), ([], []), ([2], []), ([], []), ([], []), ([], []), ([], []), ([], []), ([], []), ([], []), ([], []), ([], []), ([], []), ([], []), ([], []), ([2], []), ([], []), ([], []), ([], []), ([], []), ([], []), ([], []), ([], []), ([], []), ([], []), ([2], []), ([], []), ([], []), ([], []), ([], []), ([], []), ([], []), ([], []), ([], []), ([], []), ([2], []), ([], []), ([], []), ([], []), ([], []), ([], [])] mo (by decide +kernel) (AD.s (ws := []) rfl rfl (fun H' _ hH => op_field_ptr .r fd60_0) (AD.s (ws := []) rfl rfl (fun H' _ hH => op_load_ptr1 .r ((hH _ (by simp)).trans rfl) rfl sc3) (AD.s (ws := []) rfl rfl (fun H' _ hH => op_field_ptr .r fd60_1) (AD.s (ws := []) rfl rfl (fun H' _ hH => op_load_ptr1 .r ((hH _ (by simp)).trans rfl) rfl sc3) (AD.s (ws := []) rfl rfl (fun H' _ hH => op_geq (.r rfl) (.r rfl)) (AD.s (ws := []) rfl rfl (fun H' _ hH => op_moveD .r) (AD.sF rfl rfl rfl rfl (fun g H' _ hH => op_moveD .r) (AD.sF rfl rfl rfl rfl (fun g H' _ hH => op_gtr (.we (nt g) rfl rfl) (.r rfl)) (AD.sF rfl rfl rfl rfl (fun g H' _ hH => op_moveD (.we (nt g) rfl)) (AD.sTT rfl rfl rfl rfl (fun gp g H' _ hH => op_moveD .r) (AD.sTT rfl rfl rfl rfl (fun gp g H' _ hH => op_moveD .r) (AD.sTT rfl rfl rfl rfl (fun gp g H' _ hH => op_subw (.we (an gp g) rfl rfl) (.r rfl)) ?_))))))))))))))))))
      obtain ⟨v19, hv19, hm⟩ := bindE hm
      refine AD.sTT rfl rfl rfl rfl (fun gp g H' _ hH => op_indexAddrM (f := SPair.e) (.we (an gp g) rfl rfl) (.we (an gp g) rfl rfl) (iteT (an gp g) hv19) enSPair sl45) (AD.sTT rfl rfl rfl rfl (fun gp g H' _ hH => op_field_vp (.we (an gp g) rfl) fd60_0) (AD.sTT rfl rfl rfl rfl (fun gp g H' _ hH => op_load_vp1 (.we (an gp g) rfl) rfl sc3) (AD.sTT rfl rfl rfl rfl (fun gp g H' _ hH => op_field_ptr .r fd60_0) (AD.sTT rfl rfl rfl rfl (fun gp g H' _ hH => op_load_ptr1 (.we (an gp g) rfl) ((hH _ (by simp)).trans rfl) rfl sc3) (AD.sTT rfl rfl rfl rfl (fun gp g H' _ hH => op_gtr (.we (an gp g) rfl rfl) (.we (an gp g) rfl rfl)) (AD.sTT rfl rfl rfl rfl (fun gp g H' _ hH => op_moveD (.we (an gp g) rfl)) (AD.sFF rfl rfl rfl rfl (fun gp g H' _ hH => op_moveD .r) (AD.sFF rfl rfl rfl rfl (fun gp g H' _ hH => op_moveD .r) (AD.sFF rfl rfl rfl rfl (fun gp g H' _ hH => op_subw (.we (an gp (nt g)) rfl rfl) (.r rfl)) ?_)))))))))
      obtain ⟨v20, hv20, hm⟩ := bindE hm
      refine AD.sFF rfl rfl rfl rfl (fun gp g H' _ hH => op_indexAddrM (f := SPair.e) (.we (an gp (nt g)) rfl rfl) (.we (an gp (nt g)) rfl rfl) (iteT (an gp (nt g)) hv20) enSPair sl45) (AD.sFF rfl rfl rfl rfl (fun gp g H' _ hH => op_field_vp (.we (an gp (nt g)) rfl) fd60_0) (AD.sFF rfl rfl rfl rfl (fun gp g H' _ hH => op_load_vp1 (.we (an gp (nt g)) rfl) rfl sc3) (AD.sFF rfl rfl rfl rfl (fun gp g H' _ hH => op_field_ptr .r fd60_0) (AD.sFF rfl rfl rfl rfl (fun gp g H' _ hH => op_load_ptr1 (.we (an gp (nt g)) rfl) ((hH _ (by simp)).trans rfl) rfl sc3) (AD.sFF rfl rfl rfl rfl (fun gp g H' _ hH => op_eql (.we (an gp (nt g)) rfl rfl) (.we (an gp (nt g)) rfl rfl)) (AD.sFF rfl rfl rfl rfl (fun gp g H' _ hH => op_moveD (.we (an gp (nt g)) rfl)) (AD.sTT rfl rfl rfl rfl (fun gp g H' _ hH => op_moveD .r) (AD.sTT rfl rfl rfl rfl (fun gp g H' _ hH => op_moveD .r) (AD.sTT rfl rfl rfl rfl (fun gp g H' _ hH => op_subw (.we (an gp g) rfl rfl) (.r rfl)) ?_)))))))))
      obtain ⟨v21, hv21, hm⟩ := bindE hm
      refine AD.sTT rfl rfl rfl rfl (fun gp g H' _ hH => op_indexAddrM (f := SPair.e) (.we (an gp g) rfl rfl) (.we (an gp g) rfl rfl) (iteT (an gp g) hv21) enSPair sl45) (AD.sTT rfl rfl rfl rfl (fun gp g H' _ hH => op_field_vp (.we (an gp g) rfl) fd60_1) (AD.sTT rfl rfl rfl rfl (fun gp g H' _ hH => op_load_vp1 (.we (an gp g) rfl) rfl sc3) (AD.sTT rfl rfl rfl rfl (fun gp g H' _ hH => op_field_ptr .r fd60_1) (AD.sTT rfl rfl rfl rfl (fun gp g H' _ hH => op_load_ptr1 (.we (an gp g) rfl) ((hH _ (by simp)).trans rfl) rfl sc3) (AD.sTT rfl rfl rfl rfl (fun gp g H' _ hH => op_geq (.we (an gp g) rfl rfl) (.we (an gp g) rfl rfl)) (AD.sFF rfl rfl rfl rfl (fun gp g H' _ hH => op_and (.we (an gp (nt g)) rfl rfl) (fun h => (.we (an (an gp (nt g)) h) rfl rfl)) rfl) (AD.sTT rfl rfl rfl rfl (fun gp g H' _ hH => op_or (.we (an gp g) rfl rfl) rfl (fun h => (.we (an (an gp g) (nt h)) rfl rfl))) (AD.sF rfl rfl rfl rfl (fun g H' _ hH => op_and (.we (nt g) rfl rfl) (fun h => (.we (an (nt g) h) rfl rfl)) rfl) (AD.s (ws := []) rfl rfl (fun H' _ hH => op_or (.r rfl) rfl (fun h => (.we (nt h) rfl rfl))) (AD.nil ?_))))))))))
      refine AW.cond (b := _) rfl (fun hc9 => ?_) (fun hc9 => ?_)
      ·replace hm := iteT hc9 hm
       refine AW.reset 0 [] [.row ((A72.e a1).cells.map .d), .tok s16.length 62 3, .row [.d (.int .i64 v18.fA), .d (.int .i64 v18.fB)]] (WOK.g0 hw0 (by simp)) ⟨[0, 1, 2], rfl, rfl, rfl, trivial, trivial, (.row rfl (cd (A72.e a1).cells) (.tok rfl (.row rfl (.cons (.d rfl) (.cons (.d rfl) .nil)) .nil)))⟩ (zr (zs (op_assignN .r) (za rfl (zn (AW.ret (tq_ret (bq_ret (tq_ret (tq_ret ?_)))))))))
       obtain rfl := Option.some.inj hm
       obtain rfl := Option.some.inj hI4
       replace hm := hk4
       try dsimp only at hm
       refine bq_ret (tq_ret ?_)
       obtain rfl := Option.some.inj hm
       exact EndQ.d (.tmp .r (.tmp .r .nil)) rfl rfl
      ·replace hm := iteF hc9 hm
       refine AW.skip (nq (AW.seqD [([0], []), ([], []), ([], []), ([], []), ([2], []), ([], []), ([], []), ([], []), ([], []), ([], []), ([], []), ([2], []), ([], []), ([], []), ([], []), ([], []), ([], []), ([], []), ([], []), ([], []), ([], []), ([], [])] mo (by decide +kernel) (AD.s (ws := []) rfl rfl (fun H' _ hH => op_load_ptrA .r ((hH _ (by simp)).trans rfl) rfl rfl ag43) (AD.s (ws := []) rfl rfl (fun H' _ hH => op_moveD .r) (AD.s (ws := []) rfl rfl (fun H' _ hH => op_moveD .r) (AD.s (ws := []) rfl rfl (fun H' _ hH => op_field_ptr .r fd60_0) (AD.s (ws := []) rfl rfl (fun H' _ hH => op_load_ptr1 .r ((hH _ (by simp)).trans rfl) rfl sc3) ?_)))))))
       obtain ⟨v22, hv22, hm⟩ := bindE hm
       refine AD.s (ws := []) rfl rfl (fun H' _ hH => op_fn Tryz.call32 .r (.cons (.r rfl) (.cons (.r rfl) .nil)) (m_ref31_find_ok hv22)) ?_
       obtain ⟨v23, hv23, hm⟩ := bindE hm
       refine AD.s (ws := []) rfl rfl (fun H' _ hH => op_indexAddrM (f := SFeatures.e) (.r rfl) (.r rfl) hv23 enSFeatures sl44) (AD.s (ws := []) rfl rfl (fun H' _ hH => op_loadA .r rfl ag25) (AD.s (ws := []) rfl rfl (fun H' _ hH => op_moveD .r) (AD.s (ws := []) rfl rfl (fun H' _ hH => op_moveD .r) (AD.s (ws := []) rfl rfl (fun H' _ hH => op_field_ptr .r fd60_1) (AD.s (ws := []) rfl rfl (fun H' _ hH => op_load_ptr1 .r ((hH _ (by simp)).trans rfl) rfl sc3) ?_)))))
       obtain ⟨v24, hv24, hm⟩ := bindE hm
       refine AD.s (ws := []) rfl rfl (fun H' _ hH => op_fn Tryz.call32 .r (.cons (.r rfl) (.cons (.r rfl) .nil)) (m_ref31_find_ok hv24)) ?_
       obtain ⟨v25, hv25, hm⟩ := bindE hm
       refine AD.s (ws := []) rfl rfl (fun H' _ hH => op_indexAddrM (f := SFeatures.e) (.r rfl) (.r rfl) hv25 enSFeatures sl44) (AD.s (ws := []) rfl rfl (fun H' _ hH => op_loadA .r rfl ag25) ?_)
       obtain ⟨v26, hv26, hm⟩ := bindE hm
       refine AD.s (ws := []) rfl rfl (fun H' _ hH => op_fn Tryz.call28 .r (.cons (.r rfl) (.cons (.r rfl) .nil)) (m_ref31_compare_ok hv26)) ?_
       obtain ⟨v27, hv27, hm⟩ := bindE hm
       refine AD.s (ws := []) rfl rfl (fun H' _ hH => op_fn Tryz.call33 .r (.cons (.r rfl) (.cons (.r rfl) .nil)) (m_ref31_Weight_ok hv27)) (AD.s (ws := []) rfl rfl (fun H' _ hH => op_moveD .r) (AD.s (ws := []) rfl rfl (fun H' _ hH => op_extractD .r rfl) (AD.s (ws := []) rfl rfl (fun H' _ hH => op_extractD .r rfl) (AD.s (ws := []) rfl rfl (fun H' _ hH => op_assignD .r) (AD.s (ws := []) rfl rfl (fun H' _ hH => op_assignD .r) (AD.nil (AW.region (zs (op_moveT .r) (zs (op_load_ptrA .r rfl rfl rfl ag60) (zm rfl (zs (op_build bd62 (.cons .r rfl rfl rfl rfl (Nat.le_of_ble_eq_true rfl) (.cons .r rfl rfl rfl rfl (Nat.le_of_ble_eq_true rfl) .nil))) (zs (op_buildSlice (ds := ([(⟨v18, v27.1⟩ : SWeighted)] : List SWeighted).map SWeighted.e) sl56 (.cons (.r rfl) rfl (enSWeighted.one _) .nil) rfl (by decide)) ?_))))))))))))
       obtain ⟨v28, hv28, hm⟩ := bindE hm
       refine zs (op_appendM (f := SWeighted.e) (l' := ([(⟨v18, v27.1⟩ : SWeighted)] : List SWeighted)) sl56 .r (.r rfl) rfl rfl enSWeighted hv28) (zs (op_assignT .r) (zn (bq_n (nq (AW.region (zm rfl (zs (op_addw (.r rfl) (.r rfl)) (za rfl (zn ?_)))))))))
       obtain rfl := Option.some.inj hm
       exact nq ⟨_, hI4, ⟨[0, 1], rfl, rfl, rfl, ⟨(.d rfl), (.d rfl), (.ptr rfl), (.tk rfl), (.d rfl), trivial⟩, trivial, (.row rfl (cd (A72.e a1).cells) (.tok rfl .nil))⟩⟩
     ·replace hm := iteF hc8 hm
      refine AW.exit (tq_exit (tq_exit ?_))
      obtain rfl := Option.some.inj hm
      obtain rfl := Option.some.inj hI4
      replace hm := hk4
      try dsimp only at hm
      refine bq_hit (nq (zr (zs (op_moveT .r) (zs (op_assignT .r) (za rfl (zn (AW.ret ?_)))))))
      obtain rfl := Option.some.inj hm
      exact EndQ.d (.tmp .r (.tmp .r .nil)) rfl rfl

end Go.Proofs.YtgcmhhcopeiomaaGreat.Ab
