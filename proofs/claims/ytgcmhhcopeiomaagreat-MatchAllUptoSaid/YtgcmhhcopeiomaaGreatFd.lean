/- The functions do what they are in plain Lean. Conditions: none. -/
import Derived.Test.YtgcmhhcopeiomaaGreatTy
import Derived.Test.YtgcmhhcopeiomaaGreatMi
import Derived.Test.YtgcmhhcopeiomaaGreatFc
set_option maxRecDepth 100000
set_option maxHeartbeats 20000000
namespace Go.Proofs.YtgcmhhcopeiomaaGreat.Ab
open Go
attribute [local irreducible] AL AD AW

theorem m_odds_eighth_ok {n : Nat} {a1 : (List Int)} {r : (List Int)} (hm : m_odds_eighth n a1 = some r) : Fn Tryz.prog 73 [(.sl (a1.map D.i))] (.sl (r.map D.i)) := by
 unfold m_odds_eighth at hm
 refine Fn.of_AW (fnn := Tryz.f73) Tryz.func73 rfl (Nat.le_of_ble_eq_true rfl) (fun g0 w0 hw0 => ?_)
 refine zr (zs (op_assignN .r) (zn (zr (zm rfl ?_))))
 obtain ⟨v2, hv2, hm⟩ := bindE hm
 refine zs (op_fn Tryz.call102 .r (.cons (.r rfl) (.cons (.r rfl) .nil)) (m_nat_Power_ok hv2)) (zm rfl (zs (op_extractD .r rfl) (zs (op_extractD .r rfl) (za rfl (za rfl (zn (zr (zm rfl (za rfl (zn (AW.ret ?_)))))))))))
 obtain rfl := Option.some.inj hm
 exact EndQ.d (.tmp .r .nil) rfl rfl

theorem m_math_bits_Len64_ok {n : Nat} {a1 : Int} {r : Int} (hm : m_math_bits_Len64 n a1 = some r) : Fn Tryz.prog 131 [(.int .u64 a1)] (.int .i64 r) := by
 unfold m_math_bits_Len64 at hm
 refine Fn.of_AW (fnn := Tryz.f131) Tryz.func131 rfl (Nat.le_of_ble_eq_true rfl) (fun g0 w0 hw0 => ?_)
 refine AW.reset 0 [(0, .d (.int .u64 a1))] [] (WOK.g0 hw0 (by simp)) ⟨[], rfl, rfl, rfl, ⟨(.d rfl), trivial⟩, trivial, .nil⟩ (zr (za rfl (zn ?_)))
 obtain ⟨t_j1, hm, hkj1⟩ := bindE hm
 refine AW.cutS (α := (Int × Int)) 0 (fun x => x = t_j1) (fun x => [(0, .d (.int .u64 x.1)), (2, .d (.int .i64 x.2))]) (fun x => []) (WOK.g0 hw0 (by simp)) ?_ ?_
 ·skip
  refine zr (zm rfl (zs (op_geq (.r rfl) (.r rfl)) (zn ?_)))
  refine AW.cond (b := _) rfl (fun hc1 => ?_) (fun hc1 => ?_)
  ·replace hm := iteT hc1 hm
   refine zr (zm rfl ?_)
   obtain ⟨v2, hv2, hm⟩ := bindE hm
   refine zs (op_shrM (.r rfl) (.r rfl) hv2) (za rfl (zn (AW.region (za rfl (zn ?_)))))
   obtain rfl := Option.some.inj hm
   exact nq ⟨_, rfl, ⟨[], rfl, rfl, rfl, ⟨(.d rfl), (.d rfl), trivial⟩, trivial, .nil⟩⟩
  ·replace hm := iteF hc1 hm
   refine AW.skip ?_
   obtain rfl := Option.some.inj hm
   exact nq ⟨_, rfl, ⟨[], rfl, rfl, rfl, ⟨(.d rfl), (.d rfl), trivial⟩, trivial, .nil⟩⟩
 ·rintro ⟨s3, s4⟩ rfl
  replace hm := hkj1
  try dsimp only at hm
  obtain ⟨t_j2, hm, hkj2⟩ := bindE hm
  refine AW.cutS (α := (Int × Int)) 0 (fun x => x = t_j2) (fun x => [(0, .d (.int .u64 x.1)), (2, .d (.int .i64 x.2))]) (fun x => []) (WOK.g0 hw0 (by simp)) ?_ ?_
  ·skip
   refine zr (zm rfl (zs (op_geq (.r rfl) (.r rfl)) (zn ?_)))
   refine AW.cond (b := _) rfl (fun hc2 => ?_) (fun hc2 => ?_)
   ·replace hm := iteT hc2 hm
    refine zr (zm rfl ?_)
    obtain ⟨v5, hv5, hm⟩ := bindE hm
    refine zs (op_shrM (.r rfl) (.r rfl) hv5) (za rfl (zn (AW.region (zm rfl (zs (op_addw (.r rfl) (.r rfl)) (za rfl (zn ?_)))))))
    obtain rfl := Option.some.inj hm
    exact nq ⟨_, rfl, ⟨[], rfl, rfl, rfl, ⟨(.d rfl), (.d rfl), trivial⟩, trivial, .nil⟩⟩
   ·replace hm := iteF hc2 hm
    refine AW.skip ?_
    obtain rfl := Option.some.inj hm
    exact nq ⟨_, rfl, ⟨[], rfl, rfl, rfl, ⟨(.d rfl), (.d rfl), trivial⟩, trivial, .nil⟩⟩
  ·rintro ⟨s6, s7⟩ rfl
   replace hm := hkj2
   try dsimp only at hm
   obtain ⟨t_j3, hm, hkj3⟩ := bindE hm
   refine AW.cutS (α := (Int × Int)) 0 (fun x => x = t_j3) (fun x => [(0, .d (.int .u64 x.1)), (2, .d (.int .i64 x.2))]) (fun x => []) (WOK.g0 hw0 (by simp)) ?_ ?_
   ·skip
    refine zr (zm rfl (zs (op_geq (.r rfl) (.r rfl)) (zn ?_)))
    refine AW.cond (b := _) rfl (fun hc3 => ?_) (fun hc3 => ?_)
    ·replace hm := iteT hc3 hm
     refine zr (zm rfl ?_)
     obtain ⟨v8, hv8, hm⟩ := bindE hm
     refine zs (op_shrM (.r rfl) (.r rfl) hv8) (za rfl (zn (AW.region (zm rfl (zs (op_addw (.r rfl) (.r rfl)) (za rfl (zn ?_)))))))
     obtain rfl := Option.some.inj hm
     exact nq ⟨_, rfl, ⟨[], rfl, rfl, rfl, ⟨(.d rfl), (.d rfl), trivial⟩, trivial, .nil⟩⟩
    ·replace hm := iteF hc3 hm
     refine AW.skip ?_
     obtain rfl := Option.some.inj hm
     exact nq ⟨_, rfl, ⟨[], rfl, rfl, rfl, ⟨(.d rfl), (.d rfl), trivial⟩, trivial, .nil⟩⟩
   ·rintro ⟨s9, s10⟩ rfl
    replace hm := hkj3
    try dsimp only at hm
    refine zr (zm rfl (zm rfl (zs (op_conv_int (.r rfl) ⟨_, Tryz.underlying176⟩ Tryz.underlying5) ?_)))
    obtain ⟨v11, hv11, hm⟩ := bindE hm
    refine zs (op_indexSM (.r rfl) (.r rfl) hv11 Tryz.underlying9) (zs (op_conv_int (.r rfl) ⟨_, Tryz.underlying5⟩ Tryz.underlying3) (zs (op_addw (.r rfl) (.r rfl)) (za rfl (zn (AW.ret ?_)))))
    obtain rfl := Option.some.inj hm
    exact EndQ.d (.tmp .r .nil) rfl rfl

theorem m_math_bits_Len_ok {n : Nat} {a1 : Int} {r : Int} (hm : m_math_bits_Len n a1 = some r) : Fn Tryz.prog 120 [(.int .u64 a1)] (.int .i64 r) := by
 unfold m_math_bits_Len at hm
 refine Fn.of_AW (fnn := Tryz.f120) Tryz.func120 rfl (Nat.le_of_ble_eq_true rfl) (fun g0 w0 hw0 => ?_)
 refine zr (za rfl (zn (AW.seq ?_)))
 refine AW.cond (b := false) rfl (fun hc => by cases hc) (fun hc => ?_)
 refine AW.skip (nq (zr (zm rfl ?_)))
 obtain ⟨v2, hv2, hm⟩ := bindE hm
 refine zs (op_fn Tryz.call131 .r (.cons (.r rfl) .nil) (m_math_bits_Len64_ok hv2)) (za rfl (zn (AW.ret ?_)))
 obtain rfl := Option.some.inj hm
 exact EndQ.d (.tmp .r .nil) rfl rfl

theorem m_nat_Bits_ok {n : Nat} {a1 : (List Int)} {r : Int} (hm : m_nat_Bits n a1 = some r) : Fn Tryz.prog 99 [(.sl (a1.map D.i))] (.int .i64 r) := by
 unfold m_nat_Bits at hm
 refine Fn.of_AW (fnn := Tryz.f99) Tryz.func99 rfl (Nat.le_of_ble_eq_true rfl) (fun g0 w0 hw0 => ?_)
 refine zr (za rfl (zn (AW.seq (zr (zm rfl ?_)))))
 obtain ⟨v2, hv2, hm⟩ := bindE hm
 refine zs (op_fn Tryz.call119 .r (.cons (.r rfl) .nil) (m_nat_Valid_ok hv2)) (zs (op_not (.r rfl)) (zm rfl (AL.sF rfl rfl rfl rfl (fun g => op_moveD .r) (AL.sF rfl rfl rfl rfl (fun g => op_lenM (f := D.i) (.we (nt g) rfl rfl) sl125) (AL.sF rfl rfl rfl rfl (fun g => op_eql (.we (nt g) rfl rfl) (.r rfl)) (zs (op_or (.r rfl) rfl (fun h => (.we (nt h) rfl rfl))) (zn ?_)))))))
 refine AW.cond (b := _) rfl (fun hc1 => ?_) (fun hc1 => ?_)
 ·replace hm := iteT hc1 hm
  refine zr (za rfl (zn (AW.ret (tq_ret ?_))))
  obtain rfl := Option.some.inj hm
  exact EndQ.d (.tmp .r .nil) rfl rfl
 ·replace hm := iteF hc1 hm
  refine AW.skip (nq (zr (zm rfl (zs (op_lenM (f := D.i) (.r rfl) sl125) (zs (op_subw (.r rfl) (.r rfl)) (zs (op_mulw (.r rfl) (.r rfl)) (zm rfl (zm rfl (zs (op_lenM (f := D.i) (.r rfl) sl125) (zs (op_subw (.r rfl) (.r rfl)) ?_))))))))))
  obtain ⟨v3, hv3, hm⟩ := bindE hm
  refine zs (op_indexAddrM (f := D.i) (.r rfl) (.r rfl) hv3 En.i sl125) (zs (op_load_vp1 .r rfl sc3) (zs (op_conv_int (.r rfl) ⟨_, Tryz.underlying3⟩ Tryz.underlying165) ?_))
  obtain ⟨v4, hv4, hm⟩ := bindE hm
  refine zs (op_fn Tryz.call120 .r (.cons (.r rfl) .nil) (m_math_bits_Len_ok hv4)) (zs (op_addw (.r rfl) (.r rfl)) (za rfl (zn (AW.ret ?_))))
  obtain rfl := Option.some.inj hm
  exact EndQ.d (.tmp .r .nil) rfl rfl

theorem m_nat_Shift_ok {n : Nat} {a1 : (List Int)} {a2 : Int} {r : ((List Int) × Int)} (hm : m_nat_Shift n a1 a2 = some r) : Fn Tryz.prog 100 [(.sl (a1.map D.i)), (.int .i64 a2)] (.tup [(.sl (r.1.map D.i)), (.int .i64 r.2)]) := by
 unfold m_nat_Shift at hm
 refine Fn.of_AW (fnn := Tryz.f100) Tryz.func100 rfl (Nat.le_of_ble_eq_true rfl) (fun g0 w0 hw0 => ?_)
 refine zr (zs (op_assignN .r) (za rfl (zn (AW.seq (AW.block (AW.reset 0 [(0, .d (.sl (a1.map D.i))), (1, .d (.int .i64 a2))] [] (WOK.g0 hw0 (by simp)) ⟨[], rfl, rfl, rfl, ⟨(.d rfl), (.d rfl), trivial⟩, trivial, .nil⟩ (zr (zm rfl ?_))))))))
 obtain ⟨v3, hv3, hm⟩ := bindE hm
 refine zs (op_fn Tryz.call119 .r (.cons (.r rfl) .nil) (m_nat_Valid_ok hv3)) (zs (op_not (.r rfl)) (za rfl (zn ?_)))
 refine AW.cond (b := _) rfl (fun hc1 => ?_) (fun hc1 => ?_)
 ·replace hm := iteT hc1 hm
  refine zr (zs (op_assignN .r) (za rfl (zn (AW.ret (bq_ret (tq_ret ?_))))))
  obtain rfl := Option.some.inj hm
  exact EndQ.d (.tmp .r (.tmp .r .nil)) rfl rfl
 ·replace hm := iteF hc1 hm
  refine zr (zm rfl (zs (op_lss (.r rfl) (.r rfl)) (zm rfl (AL.sF rfl rfl rfl rfl (fun g => op_moveD .r) (AL.sF rfl rfl rfl rfl (fun g => op_gtr (.we (nt g) rfl rfl) (.r rfl)) (zs (op_or (.r rfl) rfl (fun h => (.we (nt h) rfl rfl))) (za rfl (zn ?_))))))))
  refine AW.cond (b := _) rfl (fun hc2 => ?_) (fun hc2 => ?_)
  ·replace hm := iteT hc2 hm
   refine zr (zs (op_assignN .r) (za rfl (zn (AW.ret (bq_ret (tq_ret ?_))))))
   obtain rfl := Option.some.inj hm
   exact EndQ.d (.tmp .r (.tmp .r .nil)) rfl rfl
  ·replace hm := iteF hc2 hm
   refine zr (zm rfl (zs (op_lenM (f := D.i) (.r rfl) sl125) (zs (op_eql (.r rfl) (.r rfl)) (za rfl (zn ?_)))))
   refine AW.cond (b := _) rfl (fun hc3 => ?_) (fun hc3 => ?_)
   ·replace hm := iteT hc3 hm
    refine zr (zs (op_assignN .r) (za rfl (zn (AW.ret (bq_ret (tq_ret ?_))))))
    obtain rfl := Option.some.inj hm
    exact EndQ.d (.tmp .r (.tmp .r .nil)) rfl rfl
   ·replace hm := iteF hc3 hm
    refine AW.skip (bq_n (nq (AW.free (AW.free (AW.seqD [([], []), ([], []), ([], [0]), ([], []), ([], []), ([], []), ([], []), ([], []), ([], []), ([0], [0, 1]), ([], [])] mo (by decide +kernel) (AD.s (ws := []) rfl rfl (fun H' _ hH => op_moveD .r) ?_))))))
    obtain ⟨v4, hv4, hm⟩ := bindE hm
    refine AD.s (ws := []) rfl rfl (fun H' _ hH => op_quoM (.r rfl) (.r rfl) hv4) ?_
    obtain ⟨v5, hv5, hm⟩ := bindE hm
    refine AD.s (ws := [(0, _)]) rfl rfl (fun H' _ hH => op_makeR (res := 0) (f := D.i) (.r rfl) sl125 zr3 rfl ((hH _ (by simp)).trans rfl) hv5) (AD.s (ws := []) rfl rfl (fun H' _ hH => op_moveD .r) (AD.s (ws := []) rfl rfl (fun H' _ hH => op_moveD .r) ?_))
    obtain ⟨v6, hv6, hm⟩ := bindE hm
    refine AD.s (ws := []) rfl rfl (fun H' _ hH => op_remM (.r rfl) (.r rfl) hv6) ?_
    obtain ⟨v7, hv7, hm⟩ := bindE hm
    refine AD.s (ws := []) rfl rfl (fun H' _ hH => op_shlM (.r rfl) (.r rfl) hv7) (AD.s (ws := []) rfl rfl (fun H' _ hH => op_buildSlice (ds := ([v7] : List Int).map D.i) sl125 (.cons (.r rfl) rfl (En.i.one _) .nil) rfl (by decide)) ?_)
    obtain ⟨v8, hv8, hm⟩ := bindE hm
    refine AD.s (ws := []) rfl rfl (fun H' _ hH => op_fn Tryz.call121 .r (.cons (.r rfl) (.cons (.r rfl) .nil)) (m_nat_times_ok hv8)) ?_
    obtain ⟨v9, hv9, hm⟩ := bindE hm
    refine AD.s (ws := [(0, _), (1, _)]) rfl rfl (fun H' _ hH => op_appendHRM (res := 1) (f := D.i) (l := v5) (l' := v8) sl125 .r (.r rfl) ((hH _ (by simp)).trans rfl) rfl ((hH _ (by simp)).trans rfl) En.i hv9) (AD.s (ws := []) rfl rfl (fun H' _ hH => op_assignH .r) (AD.nil (AW.freeze (f := D.i) (l := v9) 1 [6, 31] rfl rfl En.i ⟨rfl, rfl, trivial⟩ (zr (zm rfl ?_)))))
    obtain ⟨v10, hv10, hm⟩ := bindE hm
    refine zs (op_fn Tryz.call122 .r (.cons (.r rfl) .nil) (m_nat_limited_ok hv10)) (zs (op_extractD .r rfl) (zs (op_extractD .r rfl) (za rfl (za rfl (zn (AW.ret ?_))))))
    obtain rfl := Option.some.inj hm
    exact EndQ.d (.tmp .r (.tmp .r .nil)) rfl rfl

theorem m_cmp_isNaN_int_ok {n : Nat} {a1 : Int} {r : Bool} (hm : m_cmp_isNaN_int n a1 = some r) : Fn Tryz.prog 138 [(.int .i64 a1)] (.bool r) := by
 unfold m_cmp_isNaN_int at hm
 refine Fn.of_AW (fnn := Tryz.f138) Tryz.func138 rfl (Nat.le_of_ble_eq_true rfl) (fun g0 w0 hw0 => ?_)
 refine zr (za rfl (zn (zr (zm rfl (zm rfl (zs (op_neq (.r rfl) (.r rfl)) (za rfl (zn (AW.ret ?_)))))))))
 obtain rfl := Option.some.inj hm
 exact EndQ.d (.tmp .r .nil) rfl rfl

theorem m_cmp_Compare_int_ok {n : Nat} {a1 : Int} {a2 : Int} {r : Int} (hm : m_cmp_Compare_int n a1 a2 = some r) : Fn Tryz.prog 133 [(.int .i64 a1), (.int .i64 a2)] (.int .i64 r) := by
 unfold m_cmp_Compare_int at hm
 refine Fn.of_AW (fnn := Tryz.f133) Tryz.func133 rfl (Nat.le_of_ble_eq_true rfl) (fun g0 w0 hw0 => ?_)
 refine zr (za rfl (zn (zr (zm rfl ?_))))
 obtain ⟨v3, hv3, hm⟩ := bindE hm
 refine zs (op_fn Tryz.call138 .r (.cons (.r rfl) .nil) (m_cmp_isNaN_int_ok hv3)) (za rfl (zn (zr (zm rfl ?_))))
 obtain ⟨v4, hv4, hm⟩ := bindE hm
 refine zs (op_fn Tryz.call138 .r (.cons (.r rfl) .nil) (m_cmp_isNaN_int_ok hv4)) (za rfl (zn (AW.seq (zr (zm rfl (zn ?_))))))
 refine AW.cond (b := _) rfl (fun hc1 => ?_) (fun hc1 => ?_)
 ·replace hm := iteT hc1 hm
  refine AW.seq (zr (zm rfl (zn ?_)))
  refine AW.cond (b := _) rfl (fun hc2 => ?_) (fun hc2 => ?_)
  ·replace hm := iteT hc2 hm
   refine zr (za rfl (zn (AW.ret (tq_ret (tq_ret ?_)))))
   obtain rfl := Option.some.inj hm
   exact EndQ.d (.tmp .r .nil) rfl rfl
  ·replace hm := iteF hc2 hm
   refine AW.skip (nq (zr (za rfl (zn (AW.ret (tq_ret ?_))))))
   obtain rfl := Option.some.inj hm
   exact EndQ.d (.tmp .r .nil) rfl rfl
 ·replace hm := iteF hc1 hm
  refine AW.skip (nq (AW.seq (zr (zm rfl (zn ?_)))))
  refine AW.cond (b := _) rfl (fun hc3 => ?_) (fun hc3 => ?_)
  ·replace hm := iteT hc3 hm
   refine zr (za rfl (zn (AW.ret (tq_ret ?_))))
   obtain rfl := Option.some.inj hm
   exact EndQ.d (.tmp .r .nil) rfl rfl
  ·replace hm := iteF hc3 hm
   refine AW.skip (nq (AW.seq (zr (zm rfl (zm rfl (zs (op_lss (.r rfl) (.r rfl)) (zn ?_)))))))
   refine AW.cond (b := _) rfl (fun hc4 => ?_) (fun hc4 => ?_)
   ·replace hm := iteT hc4 hm
    refine zr (za rfl (zn (AW.ret (tq_ret ?_))))
    obtain rfl := Option.some.inj hm
    exact EndQ.d (.tmp .r .nil) rfl rfl
   ·replace hm := iteF hc4 hm
    refine AW.skip (nq (AW.seq (zr (zm rfl (zm rfl (zs (op_gtr (.r rfl) (.r rfl)) (zn ?_)))))))
    refine AW.cond (b := _) rfl (fun hc5 => ?_) (fun hc5 => ?_)
    ·replace hm := iteT hc5 hm
     refine AW.reset 0 [] [] (WOK.g0 hw0 (by simp)) ⟨[], rfl, rfl, rfl, trivial, trivial, .nil⟩ (zr (za rfl (zn (AW.ret (tq_ret ?_)))))
     obtain rfl := Option.some.inj hm
     exact EndQ.d (.tmp .r .nil) rfl rfl
    ·replace hm := iteF hc5 hm
     refine AW.skip (nq (zr (za rfl (zn (AW.ret ?_)))))
     obtain rfl := Option.some.inj hm
     exact EndQ.d (.tmp .r .nil) rfl rfl

theorem m_nat_compare_ok {n : Nat} {a1 : (List Int)} {a2 : (List Int)} {r : Int} (hm : m_nat_compare n a1 a2 = some r) : Fn Tryz.prog 123 [(.sl (a1.map D.i)), (.sl (a2.map D.i))] (.int .i64 r) := by
 unfold m_nat_compare at hm
 refine Fn.of_AW (fnn := Tryz.f123) Tryz.func123 rfl (Nat.le_of_ble_eq_true rfl) (fun g0 w0 hw0 => ?_)
 refine AW.reset 0 [(0, .d (.sl (a1.map D.i))), (1, .d (.sl (a2.map D.i)))] [] (WOK.g0 hw0 (by simp)) ⟨[], rfl, rfl, rfl, ⟨(.d rfl), (.d rfl), trivial⟩, trivial, .nil⟩ (zr (za rfl (zn (AW.seq (zr (zm rfl (zs (op_lenM (f := D.i) (.r rfl) sl125) (zm rfl (zs (op_lenM (f := D.i) (.r rfl) sl125) (zs (op_neq (.r rfl) (.r rfl)) (zn ?_)))))))))))
 refine AW.cond (b := _) rfl (fun hc1 => ?_) (fun hc1 => ?_)
 ·replace hm := iteT hc1 hm
  refine zr (zm rfl (zs (op_lenM (f := D.i) (.r rfl) sl125) (zm rfl (zs (op_lenM (f := D.i) (.r rfl) sl125) ?_))))
  obtain ⟨v3, hv3, hm⟩ := bindE hm
  refine zs (op_fn Tryz.call133 .r (.cons (.r rfl) (.cons (.r rfl) .nil)) (m_cmp_Compare_int_ok hv3)) (za rfl (zn (AW.ret (tq_ret ?_))))
  obtain rfl := Option.some.inj hm
  exact EndQ.d (.tmp .r .nil) rfl rfl
 ·replace hm := iteF hc1 hm
  refine AW.skip (nq (AW.seq (zr (zm rfl (zs (op_lenM (f := D.i) (.r rfl) sl125) (zm rfl (zn (AW.block ?_))))))))
  obtain ⟨t_1, hI1, hk1⟩ := bindE hm
  refine AW.loopS (σ := Int) (τ := (Int ⊕ Unit)) 0 (fun x => [(0, .d (.sl (a1.map D.i))), (1, .d (.sl (a2.map D.i))), (18, .d (.int .i64 (a1.length : Int))), (19, .d (.int .i64 x))]) (fun x => []) hI1 (WOK.g0 hw0 (by simp)) ⟨[], rfl, rfl, rfl, ⟨(.d rfl), (.d rfl), (.d rfl), (.d rfl), trivial⟩, trivial, .nil⟩ ?_
  rintro n1 s4 hI1
  obtain ⟨y_1, hm, hI1⟩ := iterS hI1
  replace hm : m_nat_compare_L1 n _ _ s4 = some y_1 := hm
  unfold m_nat_compare_L1 at hm
  try dsimp only at hm
  refine zr (zs (op_lss (.r rfl) (.r rfl)) (zn (AW.seq ?_)))
  refine AW.cond (b := _) rfl (fun hc2 => ?_) (fun hc2 => ?_)
  ·replace hm := iteT hc2 hm
   refine AW.skip (nq (AW.seq (AW.block (zr (zm rfl (za rfl (zn (zr (zm rfl (zs (op_lenM (f := D.i) (.r rfl) sl125) (zs (op_subw (.r rfl) (.r rfl)) (zm rfl (zs (op_subw (.r rfl) (.r rfl)) (za rfl (zn (AW.seqD [([], []), ([], []), ([], []), ([], []), ([], []), ([], []), ([], []), ([], []), ([], [])] mo (by decide +kernel) (AD.s (ws := []) rfl rfl (fun H' _ hH => op_moveD .r) (AD.s (ws := []) rfl rfl (fun H' _ hH => op_moveD .r) ?_))))))))))))))))))
   obtain ⟨v5, hv5, hm⟩ := bindE hm
   refine AD.s (ws := []) rfl rfl (fun H' _ hH => op_indexAddrM (f := D.i) (.r rfl) (.r rfl) hv5 En.i sl125) (AD.s (ws := []) rfl rfl (fun H' _ hH => op_load_vp1 .r rfl sc3) (AD.s (ws := []) rfl rfl (fun H' _ hH => op_moveD .r) (AD.s (ws := []) rfl rfl (fun H' _ hH => op_moveD .r) ?_)))
   obtain ⟨v6, hv6, hm⟩ := bindE hm
   refine AD.s (ws := []) rfl rfl (fun H' _ hH => op_indexAddrM (f := D.i) (.r rfl) (.r rfl) hv6 En.i sl125) (AD.s (ws := []) rfl rfl (fun H' _ hH => op_load_vp1 .r rfl sc3) (AD.s (ws := []) rfl rfl (fun H' _ hH => op_neq (.r rfl) (.r rfl)) (AD.nil ?_)))
   refine AW.cond (b := _) rfl (fun hc3 => ?_) (fun hc3 => ?_)
   ·replace hm := iteT hc3 hm
    refine AW.seqD [([], []), ([], []), ([], []), ([], []), ([], []), ([], []), ([], []), ([], []), ([], []), ([], [])] mo (by decide +kernel) (AD.s (ws := []) rfl rfl (fun H' _ hH => op_moveD .r) (AD.s (ws := []) rfl rfl (fun H' _ hH => op_moveD .r) ?_))
    obtain ⟨v7, hv7, hm⟩ := bindE hm
    refine AD.s (ws := []) rfl rfl (fun H' _ hH => op_indexAddrM (f := D.i) (.r rfl) (.r rfl) hv7 En.i sl125) (AD.s (ws := []) rfl rfl (fun H' _ hH => op_load_vp1 .r rfl sc3) (AD.s (ws := []) rfl rfl (fun H' _ hH => op_moveD .r) (AD.s (ws := []) rfl rfl (fun H' _ hH => op_moveD .r) ?_)))
    obtain ⟨v8, hv8, hm⟩ := bindE hm
    refine AD.s (ws := []) rfl rfl (fun H' _ hH => op_indexAddrM (f := D.i) (.r rfl) (.r rfl) hv8 En.i sl125) (AD.s (ws := []) rfl rfl (fun H' _ hH => op_load_vp1 .r rfl sc3) ?_)
    obtain ⟨v9, hv9, hm⟩ := bindE hm
    refine AD.s (ws := []) rfl rfl (fun H' _ hH => op_fn Tryz.call133 .r (.cons (.r rfl) (.cons (.r rfl) .nil)) (m_cmp_Compare_int_ok hv9)) (AD.s (ws := []) rfl rfl (fun H' _ hH => op_assignD .r) (AD.nil (AW.ret (bq_ret (tq_ret (tq_ret ?_))))))
    obtain rfl := Option.some.inj hm
    obtain rfl := Option.some.inj hI1
    replace hm := hk1
    try dsimp only at hm
    refine bq_ret (tq_ret ?_)
    obtain rfl := Option.some.inj hm
    exact EndQ.d (.tmp .r .nil) rfl rfl
   ·replace hm := iteF hc3 hm
    refine AW.skip (bq_n (nq (AW.region (zs (op_addw (.r rfl) (.r rfl)) (zm rfl (zn ?_))))))
    obtain rfl := Option.some.inj hm
    exact nq ⟨_, hI1, ⟨[], rfl, rfl, rfl, ⟨(.d rfl), (.d rfl), (.d rfl), (.d rfl), trivial⟩, trivial, .nil⟩⟩
  ·replace hm := iteF hc2 hm
   refine AW.exit (tq_exit (tq_exit ?_))
   obtain rfl := Option.some.inj hm
   obtain rfl := Option.some.inj hI1
   replace hm := hk1
   try dsimp only at hm
   refine bq_hit (nq (zr (za rfl (zn (AW.ret ?_)))))
   obtain rfl := Option.some.inj hm
   exact EndQ.d (.tmp .r .nil) rfl rfl

theorem m_nat_Compare_ok {n : Nat} {a1 : (List Int)} {a2 : (List Int)} {r : Int} (hm : m_nat_Compare n a1 a2 = some r) : Fn Tryz.prog 101 [(.sl (a1.map D.i)), (.sl (a2.map D.i))] (.int .i64 r) := by
 unfold m_nat_Compare at hm
 refine Fn.of_AW (fnn := Tryz.f101) Tryz.func101 rfl (Nat.le_of_ble_eq_true rfl) (fun g0 w0 hw0 => ?_)
 refine zr (za rfl (zn (AW.seq (zr (zm rfl ?_)))))
 obtain ⟨v3, hv3, hm⟩ := bindE hm
 refine zs (op_fn Tryz.call119 .r (.cons (.r rfl) .nil) (m_nat_Valid_ok hv3)) (zs (op_not (.r rfl)) (zm rfl (AL.sF rfl rfl rfl rfl (fun g => op_moveD .r) ?_)))
 obtain ⟨v4, hv4, hm⟩ := bindE hm
 refine AL.sF rfl rfl rfl rfl (fun g => op_fn Tryz.call119 .r (.cons (.we (nt g) rfl rfl) .nil) (m_nat_Valid_ok (iteT (nt g) hv4))) (AL.sF rfl rfl rfl rfl (fun g => op_not (.we (nt g) rfl rfl)) (zs (op_or (.r rfl) rfl (fun h => (.we (nt h) rfl rfl))) (zn ?_)))
 refine AW.cond (b := _) rfl (fun hc1 => ?_) (fun hc1 => ?_)
 ·replace hm := iteT hc1 hm
  refine zr (za rfl (zn (AW.ret (tq_ret ?_))))
  obtain rfl := Option.some.inj hm
  exact EndQ.d (.tmp .r .nil) rfl rfl
 ·replace hm := iteF hc1 hm
  refine AW.skip (nq (zr (zm rfl (zm rfl ?_))))
  obtain ⟨v5, hv5, hm⟩ := bindE hm
  refine zs (op_fn Tryz.call123 .r (.cons (.r rfl) (.cons (.r rfl) .nil)) (m_nat_compare_ok hv5)) (za rfl (zn (AW.ret ?_)))
  obtain rfl := Option.some.inj hm
  exact EndQ.d (.tmp .r .nil) rfl rfl

theorem m_odds_floor_ok {n : Nat} {a1 : (List Int)} {a2 : (List Int)} {r : Int} (hm : m_odds_floor n a1 a2 = some r) : Fn Tryz.prog 72 [(.sl (a1.map D.i)), (.sl (a2.map D.i))] (.int .i64 r) := by
 unfold m_odds_floor at hm
 refine Fn.of_AW (fnn := Tryz.f72) Tryz.func72 rfl (Nat.le_of_ble_eq_true rfl) (fun g0 w0 hw0 => ?_)
 refine AW.reset 0 [(0, .d (.sl (a1.map D.i))), (1, .d (.sl (a2.map D.i)))] [] (WOK.g0 hw0 (by simp)) ⟨[], rfl, rfl, rfl, ⟨(.d rfl), (.d rfl), trivial⟩, trivial, .nil⟩ (zr (za rfl (zn (zr (zm rfl ?_)))))
 obtain ⟨v3, hv3, hm⟩ := bindE hm
 refine zs (op_fn Tryz.call99 .r (.cons (.r rfl) .nil) (m_nat_Bits_ok hv3)) (zm rfl ?_)
 obtain ⟨v4, hv4, hm⟩ := bindE hm
 refine zs (op_fn Tryz.call99 .r (.cons (.r rfl) .nil) (m_nat_Bits_ok hv4)) (zs (op_subw (.r rfl) (.r rfl)) (za rfl (zn (zr (zm rfl (zm rfl (zs (op_max (.r rfl) (.r rfl)) ?_)))))))
 obtain ⟨v5, hv5, hm⟩ := bindE hm
 refine zs (op_fn Tryz.call100 .r (.cons (.r rfl) (.cons (.r rfl) .nil)) (m_nat_Shift_ok hv5)) (zm rfl (zs (op_extractD .r rfl) (zs (op_extractD .r rfl) (za rfl (za rfl (zn (zr (zm rfl (zm rfl (zs (op_negw (.r rfl)) (zs (op_max (.r rfl) (.r rfl)) ?_)))))))))))
 obtain ⟨v6, hv6, hm⟩ := bindE hm
 refine zs (op_fn Tryz.call100 .r (.cons (.r rfl) (.cons (.r rfl) .nil)) (m_nat_Shift_ok hv6)) (zm rfl (zs (op_extractD .r rfl) (zs (op_extractD .r rfl) (za rfl (za rfl (zn ?_))))))
 obtain ⟨t_j1, hm, hkj1⟩ := bindE hm
 refine AW.cutS (α := Int) 0 (fun x => x = t_j1) (fun x => [(5, .d (.int .i64 x))]) (fun x => []) (WOK.g0 hw0 (by simp)) ?_ ?_
 ·skip
  refine zr (zm rfl (zm rfl ?_))
  obtain ⟨v7, hv7, hm⟩ := bindE hm
  refine zs (op_fn Tryz.call101 .r (.cons (.r rfl) (.cons (.r rfl) .nil)) (m_nat_Compare_ok hv7)) (zs (op_gtr (.r rfl) (.r rfl)) (zn ?_))
  refine AW.cond (b := _) rfl (fun hc1 => ?_) (fun hc1 => ?_)
  ·replace hm := iteT hc1 hm
   refine AW.region (zm rfl (zs (op_subw (.r rfl) (.r rfl)) (za rfl (zn ?_))))
   obtain rfl := Option.some.inj hm
   exact nq ⟨_, rfl, ⟨[], rfl, rfl, rfl, ⟨(.d rfl), trivial⟩, trivial, .nil⟩⟩
  ·replace hm := iteF hc1 hm
   refine AW.skip ?_
   obtain rfl := Option.some.inj hm
   exact nq ⟨_, rfl, ⟨[], rfl, rfl, rfl, ⟨(.d rfl), trivial⟩, trivial, .nil⟩⟩
 ·rintro s8 rfl
  replace hm := hkj1
  try dsimp only at hm
  refine zr (zm rfl (za rfl (zn (AW.ret ?_))))
  obtain rfl := Option.some.inj hm
  exact EndQ.d (.tmp .r .nil) rfl rfl

theorem m_odds_Weight_ok {n : Nat} {a1 : (List SRatio)} {r : (Int × Int)} (hm : m_odds_Weight n a1 = some r) : Fn Tryz.prog 35 [(.sl (a1.map SRatio.e))] (.tup [(.int .i64 r.1), (.int .i64 r.2)]) := by
 unfold m_odds_Weight at hm
 refine Fn.of_AW (fnn := Tryz.f35) Tryz.func35 rfl (Nat.le_of_ble_eq_true rfl) (fun g0 w0 hw0 => ?_)
 refine zr (za rfl (za rfl (zn (AW.seq (zr (zm rfl ?_))))))
 obtain ⟨v2, hv2, hm⟩ := bindE hm
 refine zs (op_fn Tryz.call39 .r (.cons (.r rfl) .nil) (m_odds_Valid_ok hv2)) (zs (op_not (.r rfl)) (zn ?_))
 refine AW.cond (b := _) rfl (fun hc1 => ?_) (fun hc1 => ?_)
 ·replace hm := iteT hc1 hm
  refine zr (za rfl (za rfl (zn (AW.ret (tq_ret ?_)))))
  obtain rfl := Option.some.inj hm
  exact EndQ.d (.tmp .r (.tmp .r .nil)) rfl rfl
 ·replace hm := iteF hc1 hm
  refine AW.skip (nq (zr (zm rfl ?_)))
  obtain ⟨v3, hv3, hm⟩ := bindE hm
  refine zs (op_fn Tryz.call71 .r (.cons (.r rfl) .nil) (m_odds_parts_ok hv3)) (zm rfl (zs (op_extractD .r rfl) (zs (op_extractD .r rfl) (za rfl (za rfl (zn (zr (zm rfl ?_))))))))
  obtain ⟨v4, hv4, hm⟩ := bindE hm
  refine zs (op_fn Tryz.call73 .r (.cons (.r rfl) .nil) (m_odds_eighth_ok hv4)) (zm rfl ?_)
  obtain ⟨v5, hv5, hm⟩ := bindE hm
  refine zs (op_fn Tryz.call73 .r (.cons (.r rfl) .nil) (m_odds_eighth_ok hv5)) ?_
  obtain ⟨v6, hv6, hm⟩ := bindE hm
  refine zs (op_fn Tryz.call72 .r (.cons (.r rfl) (.cons (.r rfl) .nil)) (m_odds_floor_ok hv6)) (za rfl (za rfl (zn (AW.ret ?_))))
  obtain rfl := Option.some.inj hm
  exact EndQ.d (.tmp .r (.tmp .r .nil)) rfl rfl

theorem m_match_Weight_ok {n : Nat} {a1 : A72} {a2 : A7} {r : (Int × Int)} (hm : m_match_Weight n a1 a2 = some r) : Fn Tryz.prog 14 [(A72.e a1), (A7.e a2)] (.tup [(.int .i64 r.1), (.int .i64 r.2)]) := by
 unfold m_match_Weight at hm
 refine Fn.of_AW (fnn := Tryz.f14) Tryz.func14 rfl (Nat.le_of_ble_eq_true rfl) (fun g0 w0 hw0 => ?_)
 refine zr (zs (op_box (n := 0) .r rfl rfl rfl) (zs (op_box (n := 1) .r rfl rfl rfl) (za rfl (za rfl (zn (zr (zs (op_load_ptrA .r rfl rfl rfl ag52) (zs (op_load_ptrA .r rfl rfl rfl ag29) ?_))))))))
 obtain ⟨v3, hv3, hm⟩ := bindE hm
 refine zs (op_fn Tryz.call34 .r (.cons (.r rfl) (.cons (.r rfl) .nil)) (m_match_Factors_ok hv3)) (zm rfl (zs (op_extractD .r rfl) (zs (op_extractD .r rfl) (za rfl (za rfl (zn (AW.seq (zr (zm rfl (zs (op_neq (.r rfl) (.r rfl)) (zn ?_)))))))))))
 refine AW.cond (b := _) rfl (fun hc1 => ?_) (fun hc1 => ?_)
 ·replace hm := iteT hc1 hm
  refine zr (zm rfl (za rfl (za rfl (zn (AW.ret (tq_ret ?_))))))
  obtain rfl := Option.some.inj hm
  exact EndQ.d (.tmp .r (.tmp .r .nil)) rfl rfl
 ·replace hm := iteF hc1 hm
  refine AW.skip (nq (zr (zm rfl ?_)))
  obtain ⟨v4, hv4, hm⟩ := bindE hm
  refine zs (op_fn Tryz.call35 .r (.cons (.r rfl) .nil) (m_odds_Weight_ok hv4)) (zs (op_extractD .r rfl) (zs (op_extractD .r rfl) (za rfl (za rfl (zn (AW.ret ?_))))))
  obtain rfl := Option.some.inj hm
  exact EndQ.d (.tmp .r (.tmp .r .nil)) rfl rfl

theorem m_match_Editions_ok {n : Nat} {r : A72} (hm : m_match_Editions n  = some r) : Fn Tryz.prog 17 [] (A72.e r) := by
 unfold m_match_Editions at hm
 refine Fn.of_AW (fnn := Tryz.f17) Tryz.func17 rfl (Nat.le_of_ble_eq_true rfl) (fun g0 w0 hw0 => ?_)
 refine zr (zs (op_alloc (n := 0) zr52 rfl) (zn (zr (zs (op_buildArrF ba87 (.cons .r rfl rfl rfl rfl (Nat.le_of_ble_eq_true rfl) (.cons .r rfl rfl rfl rfl (Nat.le_of_ble_eq_true rfl) (.cons .r rfl rfl rfl rfl (Nat.le_of_ble_eq_true rfl) (.cons .r rfl rfl rfl rfl (Nat.le_of_ble_eq_true rfl) (.cons .r rfl rfl rfl rfl (Nat.le_of_ble_eq_true rfl) (.cons .r rfl rfl rfl rfl (Nat.le_of_ble_eq_true rfl) .nil)))))) rfl rfl) (zs (op_buildArrF ba87 (.cons .r rfl rfl rfl rfl (Nat.le_of_ble_eq_true rfl) (.cons .r rfl rfl rfl rfl (Nat.le_of_ble_eq_true rfl) (.cons .r rfl rfl rfl rfl (Nat.le_of_ble_eq_true rfl) (.cons .r rfl rfl rfl rfl (Nat.le_of_ble_eq_true rfl) (.cons .r rfl rfl rfl rfl (Nat.le_of_ble_eq_true rfl) (.cons .r rfl rfl rfl rfl (Nat.le_of_ble_eq_true rfl) .nil)))))) rfl rfl) (zs (op_buildArrF ba87 (.cons .r rfl rfl rfl rfl (Nat.le_of_ble_eq_true rfl) (.cons .r rfl rfl rfl rfl (Nat.le_of_ble_eq_true rfl) (.cons .r rfl rfl rfl rfl (Nat.le_of_ble_eq_true rfl) (.cons .r rfl rfl rfl rfl (Nat.le_of_ble_eq_true rfl) (.cons .r rfl rfl rfl rfl (Nat.le_of_ble_eq_true rfl) (.cons .r rfl rfl rfl rfl (Nat.le_of_ble_eq_true rfl) .nil)))))) rfl rfl) (zs (op_buildArrF ba87 (.cons .r rfl rfl rfl rfl (Nat.le_of_ble_eq_true rfl) (.cons .r rfl rfl rfl rfl (Nat.le_of_ble_eq_true rfl) (.cons .r rfl rfl rfl rfl (Nat.le_of_ble_eq_true rfl) (.cons .r rfl rfl rfl rfl (Nat.le_of_ble_eq_true rfl) (.cons .r rfl rfl rfl rfl (Nat.le_of_ble_eq_true rfl) (.cons .r rfl rfl rfl rfl (Nat.le_of_ble_eq_true rfl) .nil)))))) rfl rfl) (zs (op_buildArrF ba87 (.cons .r rfl rfl rfl rfl (Nat.le_of_ble_eq_true rfl) (.cons .r rfl rfl rfl rfl (Nat.le_of_ble_eq_true rfl) (.cons .r rfl rfl rfl rfl (Nat.le_of_ble_eq_true rfl) (.cons .r rfl rfl rfl rfl (Nat.le_of_ble_eq_true rfl) (.cons .r rfl rfl rfl rfl (Nat.le_of_ble_eq_true rfl) (.cons .r rfl rfl rfl rfl (Nat.le_of_ble_eq_true rfl) .nil)))))) rfl rfl) (zs (op_buildArrF ba87 (.cons .r rfl rfl rfl rfl (Nat.le_of_ble_eq_true rfl) (.cons .r rfl rfl rfl rfl (Nat.le_of_ble_eq_true rfl) (.cons .r rfl rfl rfl rfl (Nat.le_of_ble_eq_true rfl) (.cons .r rfl rfl rfl rfl (Nat.le_of_ble_eq_true rfl) (.cons .r rfl rfl rfl rfl (Nat.le_of_ble_eq_true rfl) (.cons .r rfl rfl rfl rfl (Nat.le_of_ble_eq_true rfl) .nil)))))) rfl rfl) (zs (op_buildArrF ba87 (.cons .r rfl rfl rfl rfl (Nat.le_of_ble_eq_true rfl) (.cons .r rfl rfl rfl rfl (Nat.le_of_ble_eq_true rfl) (.cons .r rfl rfl rfl rfl (Nat.le_of_ble_eq_true rfl) (.cons .r rfl rfl rfl rfl (Nat.le_of_ble_eq_true rfl) (.cons .r rfl rfl rfl rfl (Nat.le_of_ble_eq_true rfl) (.cons .r rfl rfl rfl rfl (Nat.le_of_ble_eq_true rfl) .nil)))))) rfl rfl) (zs (op_buildArrF ba88 (.cons .r rfl rfl rfl rfl (Nat.le_of_ble_eq_true rfl) (.cons .r rfl rfl rfl rfl (Nat.le_of_ble_eq_true rfl) (.cons .r rfl rfl rfl rfl (Nat.le_of_ble_eq_true rfl) (.cons .r rfl rfl rfl rfl (Nat.le_of_ble_eq_true rfl) (.cons .r rfl rfl rfl rfl (Nat.le_of_ble_eq_true rfl) (.cons .r rfl rfl rfl rfl (Nat.le_of_ble_eq_true rfl) (.cons .r rfl rfl rfl rfl (Nat.le_of_ble_eq_true rfl) .nil))))))) rfl rfl) ?_)))))))))))
 obtain ⟨v1, hv1, hm⟩ := bindE hm
 refine zs (op_fn Tryz.call36 .r (.cons (.r rfl) .nil) (m_match_model_ok hv1)) (zs (op_store .r .r rfl rfl rfl ⟨_, rfl, rfl⟩ rfl (Nat.le_of_ble_eq_true rfl)) (zn (AW.ret ?_)))
 obtain rfl := Option.some.inj hm
 exact EndQ.d (.cellA .r rfl rfl rfl ag52 .nil) rfl rfl

theorem m_law31_awake_ok {n : Nat} {r : Bool} (hm : m_law31_awake n  = some r) : Fn Tryz.prog 5 [] (.bool r) := by
 unfold m_law31_awake at hm
 refine Fn.of_AW (fnn := Tryz.f5) Tryz.func5 rfl (Nat.le_of_ble_eq_true rfl) (fun g0 w0 hw0 => ?_)
 refine AW.reset 0 [] [] (WOK.g0 hw0 (by simp)) ⟨[], rfl, rfl, rfl, trivial, trivial, .nil⟩ (zr (za rfl (zn (zr (zs (op_buildSlice (ds := ([([102, 97, 117, 115, 116] : List UInt8)] : List (List UInt8)).map D.str) sl22 (.cons (.r rfl) rfl (En.str.one _) .nil) rfl (by decide)) (zs (op_build bd33 (.cons .r rfl rfl rfl rfl (Nat.le_of_ble_eq_true rfl) (.cons .r rfl rfl rfl rfl (Nat.le_of_ble_eq_true rfl) (.cons .r rfl rfl rfl rfl (Nat.le_of_ble_eq_true rfl) .nil)))) (zs (op_alloc (n := 0) zr33 rfl) (zs (op_storeA .r .r rfl rfl ⟨_, rfl, rfl⟩ rfl (Nat.le_of_ble_eq_true rfl)) (zn (zr (zs (op_buildSlice (ds := ([([102, 97, 117, 115, 116] : List UInt8)] : List (List UInt8)).map D.str) sl22 (.cons (.r rfl) rfl (En.str.one _) .nil) rfl (by decide)) (zs (op_build bd33 (.cons .r rfl rfl rfl rfl (Nat.le_of_ble_eq_true rfl) (.cons .r rfl rfl rfl rfl (Nat.le_of_ble_eq_true rfl) (.cons .r rfl rfl rfl rfl (Nat.le_of_ble_eq_true rfl) .nil)))) (zs (op_alloc (n := 1) zr33 rfl) (zs (op_storeA .r .r rfl rfl ⟨_, rfl, rfl⟩ rfl (Nat.le_of_ble_eq_true rfl)) (zn (zr (zs (op_load_ptrA .r rfl rfl rfl ag33) (zs (op_load_ptrA .r rfl rfl rfl ag33) ?_))))))))))))))))))
 obtain ⟨v1, hv1, hm⟩ := bindE hm
 refine zs (op_fn Tryz.call7 .r (.cons (.r rfl) (.cons (.r rfl) .nil)) (m_match_Compare_ok hv1)) (zm rfl (zs (op_extractD .r rfl) (zs (op_extractD .r rfl) (zs (op_alloc (n := 2) zr29 rfl) (zs (op_store .r .r rfl rfl rfl ⟨_, rfl, rfl⟩ rfl (Nat.le_of_ble_eq_true rfl)) (za rfl (zn (AW.seqD [([], []), ([2], []), ([], []), ([], []), ([], []), ([], []), ([], []), ([], [])] mo (by decide +kernel) ?_))))))))
 obtain ⟨v2, hv2, hm⟩ := bindE hm
 refine AD.s (ws := []) rfl rfl (fun H' _ hH => op_fn Tryz.call15 .r .nil (m_match_Works_ok hv2)) (AD.s (ws := []) rfl rfl (fun H' _ hH => op_load_ptrA .r ((hH _ (by simp)).trans rfl) rfl rfl ag29) ?_)
 obtain ⟨v3, hv3, hm⟩ := bindE hm
 refine AD.s (ws := []) rfl rfl (fun H' _ hH => op_fn Tryz.call14 .r (.cons (.r rfl) (.cons (.r rfl) .nil)) (m_match_Weight_ok hv3)) (AD.s (ws := []) rfl rfl (fun H' _ hH => op_moveD .r) (AD.s (ws := []) rfl rfl (fun H' _ hH => op_extractD .r rfl) (AD.s (ws := []) rfl rfl (fun H' _ hH => op_extractD .r rfl) (AD.s (ws := []) rfl rfl (fun H' _ hH => op_assignD .r) (AD.s (ws := []) rfl rfl (fun H' _ hH => op_assignD .r) (AD.nil (zr (zm rfl (zs (op_eql (.r rfl) (.r rfl)) (zm rfl (AL.sT rfl rfl rfl rfl (fun g => op_moveD .r) (AL.sT rfl rfl rfl rfl (fun g => op_eql (.we g rfl rfl) (.r rfl)) (zs (op_and (.r rfl) (fun h => (.we h rfl rfl)) rfl) (zm rfl (AL.sT rfl rfl rfl rfl (fun g => op_moveD .r) (AL.sT rfl rfl rfl rfl (fun g => op_eql (.we g rfl rfl) (.r rfl)) (zs (op_and (.r rfl) (fun h => (.we h rfl rfl)) rfl) (zm rfl (AL.sT rfl rfl rfl rfl (fun g => op_load_ptrA .r rfl rfl rfl ag29) (AL.sT rfl rfl rfl rfl (fun g => op_buildArr ba29 (.cons .r rfl rfl rfl rfl (Nat.le_of_ble_eq_true rfl) (.cons .r rfl rfl rfl rfl (Nat.le_of_ble_eq_true rfl) .nil))) (AL.sT rfl rfl rfl rfl (fun g => op_eqlSt (a := v1.1) (b := (⟨(1 : Int), (1 : Int), (0 : Int), (0 : Int), (0 : Int), (0 : Int), (0 : Int)⟩ : A7)) es29 (.we g rfl rfl) (.we g rfl rfl)) (zs (op_and (.r rfl) (fun h => (.we h rfl rfl)) rfl) (zm rfl ?_)))))))))))))))))))))))
 obtain ⟨v4, hv4, hm⟩ := bindE hm
 refine AL.sT rfl rfl rfl rfl (fun g => op_fn Tryz.call17 .r .nil (m_match_Editions_ok (iteT g hv4))) ?_
 obtain ⟨v5, hv5, hm⟩ := bindE hm
 refine AL.sT rfl rfl rfl rfl (fun g => op_fn Tryz.call16 .r (.cons (.we g rfl rfl) .nil) (m_match_Valid_ok (iteT g hv5))) (zs (op_and (.r rfl) (fun h => (.we h rfl rfl)) rfl) (za rfl (zn (AW.ret ?_))))
 obtain rfl := Option.some.inj hm
 exact EndQ.d (.tmp .r .nil) rfl rfl

theorem m_ref29_Few_ok {n : Nat} {a1 : SFeatures} {r : Bool} (hm : m_ref29_Few n a1 = some r) : Fn Tryz.prog 6 [(SFeatures.e a1)] (.bool r) := by
 unfold m_ref29_Few at hm
 refine Fn.of_AW (fnn := Tryz.f6) Tryz.func6 rfl (Nat.le_of_ble_eq_true rfl) (fun g0 w0 hw0 => ?_)
 refine AW.reset 0 [(0, .d (SFeatures.e a1))] [] (WOK.g0 hw0 (by simp)) ⟨[], rfl, rfl, rfl, ⟨(.d rfl), trivial⟩, trivial, .nil⟩ (zr (zs (op_box (n := 0) .r rfl rfl rfl) (za rfl (zn (AW.free (AW.free (AW.free (AW.free (AW.free (AW.seqD [([], []), ([0], []), ([], []), ([], []), ([0], []), ([], [1]), ([], []), ([0], []), ([1], [1]), ([], []), ([0], []), ([1], [1]), ([], []), ([0], []), ([1], [1]), ([], []), ([0], []), ([1], [1]), ([], [])] mo (by decide +kernel) (AD.s (ws := []) rfl rfl (fun H' _ hH => op_field_ptr .r fd25_2) (AD.s (ws := []) rfl rfl (fun H' _ hH => op_load_ptr1 .r ((hH _ (by simp)).trans rfl) rfl sc9) (AD.s (ws := []) rfl rfl (fun H' _ hH => op_buildSlice (ds := ([a1.fAuthor] : List (List UInt8)).map D.str) sl22 (.cons (.r rfl) rfl (En.str.one _) .nil) rfl (by decide)) (AD.s (ws := []) rfl rfl (fun H' _ hH => op_field_ptr .r fd25_1) (AD.s (ws := []) rfl rfl (fun H' _ hH => op_load_ptr1 .r ((hH _ (by simp)).trans rfl) rfl sc22) ?_)))))))))))))))
 obtain ⟨v2, hv2, hm⟩ := bindE hm
 refine AD.s (ws := [(1, _)]) rfl rfl (fun H' _ hH => op_appendERM (res := 1) (f := D.str) (l := ([a1.fAuthor] : List (List UInt8))) (l' := a1.fTitle) sl22 .r (.r rfl) ((hH _ (by simp)).trans rfl) En.str hv2) (AD.s (ws := []) rfl rfl (fun H' _ hH => op_field_ptr .r fd25_4) (AD.s (ws := []) rfl rfl (fun H' _ hH => op_load_ptr1 .r ((hH _ (by simp)).trans rfl) rfl sc22) ?_))
 obtain ⟨v3, hv3, hm⟩ := bindE hm
 refine AD.s (ws := [(1, _)]) rfl rfl (fun H' _ hH => op_appendM (f := D.str) (l' := a1.fIsbns) sl22 .r (.r rfl) ((hH _ (by simp)).trans rfl) rfl En.str hv3) (AD.s (ws := []) rfl rfl (fun H' _ hH => op_field_ptr .r fd25_5) (AD.s (ws := []) rfl rfl (fun H' _ hH => op_load_ptr1 .r ((hH _ (by simp)).trans rfl) rfl sc22) ?_))
 obtain ⟨v4, hv4, hm⟩ := bindE hm
 refine AD.s (ws := [(1, _)]) rfl rfl (fun H' _ hH => op_appendM (f := D.str) (l' := a1.fLangs) sl22 .r (.r rfl) ((hH _ (by simp)).trans rfl) rfl En.str hv4) (AD.s (ws := []) rfl rfl (fun H' _ hH => op_field_ptr .r fd25_6) (AD.s (ws := []) rfl rfl (fun H' _ hH => op_load_ptr1 .r ((hH _ (by simp)).trans rfl) rfl sc22) ?_))
 obtain ⟨v5, hv5, hm⟩ := bindE hm
 refine AD.s (ws := [(1, _)]) rfl rfl (fun H' _ hH => op_appendM (f := D.str) (l' := a1.fPublisher) sl22 .r (.r rfl) ((hH _ (by simp)).trans rfl) rfl En.str hv5) (AD.s (ws := []) rfl rfl (fun H' _ hH => op_field_ptr .r fd25_7) (AD.s (ws := []) rfl rfl (fun H' _ hH => op_load_ptr1 .r ((hH _ (by simp)).trans rfl) rfl sc22) ?_))
 obtain ⟨v6, hv6, hm⟩ := bindE hm
 refine AD.s (ws := [(1, _)]) rfl rfl (fun H' _ hH => op_appendM (f := D.str) (l' := a1.fEdition) sl22 .r (.r rfl) ((hH _ (by simp)).trans rfl) rfl En.str hv6) (AD.s (ws := []) rfl rfl (fun H' _ hH => op_assignT .r) (AD.nil (zr (za rfl (zn (AW.seq (zr (za rfl (zn (AW.block ?_))))))))))
 obtain ⟨t_1, hI1, hk1⟩ := bindE hm
 refine AW.loopS (σ := (Int × Int)) (τ := (Bool ⊕ Int)) 0 (fun x => [(1, .ptr 0 0), (3, .tk 1 (v6.map D.str)), (4, .d (.int .i64 x.1)), (5, .d (.int .i64 x.2))]) (fun x => [.row ((SFeatures.e a1).cells.map .d), .tok v6.length 9 1, .dead, .dead, .dead, .dead]) hI1 (WOK.g0 hw0 (by simp)) ⟨[0, 1, 2, 3, 4, 5], rfl, rfl, rfl, ⟨(.ptr rfl), (.tk rfl), (.d rfl), (.d rfl), trivial⟩, trivial, (.row rfl (cd (SFeatures.e a1).cells) (.tok rfl (.dead (.dead (.dead (.dead .nil))))))⟩ ?_
 rintro n1 ⟨s7, s8⟩ hI1
 obtain ⟨y_1, hm, hI1⟩ := iterS hI1
 replace hm : m_ref29_Few_L1 n _ s7 s8 = some y_1 := hm
 unfold m_ref29_Few_L1 at hm
 try dsimp only at hm
 refine AW.seq (zr (zm rfl (zs (op_moveT .r) (zs (op_lenM (f := D.str) (.r rfl) sl22) (zs (op_lss (.r rfl) (.r rfl)) (zm rfl (AL.sT rfl rfl rfl rfl (fun g => op_moveD .r) (AL.sT rfl rfl rfl rfl (fun g => op_lss (.we g rfl rfl) (.r rfl)) (zs (op_and (.r rfl) (fun h => (.we h rfl rfl)) rfl) (zn ?_))))))))))
 refine AW.cond (b := _) rfl (fun hc1 => ?_) (fun hc1 => ?_)
 ·replace hm := iteT hc1 hm
  refine AW.skip (nq (AW.seq (AW.block (AW.seq (zr (zs (op_moveT .r) (zm rfl ?_)))))))
  obtain ⟨v9, hv9, hm⟩ := bindE hm
  refine zs (op_indexAddrM (f := D.str) (.r rfl) (.r rfl) hv9 En.str sl22) (zs (op_load_vp1 .r rfl sc9) (zs (op_lenS (.r rfl) Tryz.underlying9) (zs (op_gtr (.r rfl) (.r rfl)) (zn ?_))))
  refine AW.cond (b := _) rfl (fun hc2 => ?_) (fun hc2 => ?_)
  ·replace hm := iteT hc2 hm
   refine zr (za rfl (zn (AW.ret (tq_ret (bq_ret (tq_ret (tq_ret ?_)))))))
   obtain rfl := Option.some.inj hm
   obtain rfl := Option.some.inj hI1
   replace hm := hk1
   try dsimp only at hm
   refine bq_ret (tq_ret ?_)
   obtain rfl := Option.some.inj hm
   exact EndQ.d (.tmp .r .nil) rfl rfl
  ·replace hm := iteF hc2 hm
   refine AW.skip (nq (AW.region (zm rfl (zs (op_moveT .r) (zm rfl ?_)))))
   obtain ⟨v10, hv10, hm⟩ := bindE hm
   refine zs (op_indexAddrM (f := D.str) (.r rfl) (.r rfl) hv10 En.str sl22) (zs (op_load_vp1 .r rfl sc9) (zs (op_lenS (.r rfl) Tryz.underlying9) (zs (op_addw (.r rfl) (.r rfl)) (za rfl (zn (bq_n (nq (AW.region (zm rfl (zs (op_addw (.r rfl) (.r rfl)) (za rfl (zn ?_))))))))))))
   obtain rfl := Option.some.inj hm
   exact nq ⟨_, hI1, ⟨[0, 1, 2, 3, 4, 5], rfl, rfl, rfl, ⟨(.ptr rfl), (.tk rfl), (.d rfl), (.d rfl), trivial⟩, trivial, (.row rfl (cd (SFeatures.e a1).cells) (.tok rfl (.dead (.dead (.dead (.dead .nil))))))⟩⟩
 ·replace hm := iteF hc1 hm
  refine AW.exit (tq_exit (tq_exit ?_))
  obtain rfl := Option.some.inj hm
  obtain rfl := Option.some.inj hI1
  replace hm := hk1
  try dsimp only at hm
  refine bq_hit (nq (zr (zs (op_moveT .r) (zs (op_lenM (f := D.str) (.r rfl) sl22) (zs (op_leq (.r rfl) (.r rfl)) (zm rfl (AL.sF rfl rfl rfl rfl (fun g => op_moveT .r) (AL.sF rfl rfl rfl rfl (fun g => op_lenM (f := D.str) (.we (nt g) rfl rfl) sl22) (AL.sF rfl rfl rfl rfl (fun g => op_geq (.we (nt g) rfl rfl) (.r rfl)) (AL.sF rfl rfl rfl rfl (fun g => op_moveD (.we (nt g) rfl)) (AL.sTT rfl rfl rfl rfl (fun gp g => op_moveT .r) (AL.sTT rfl rfl rfl rfl (fun gp g => op_lenM (f := D.str) (.we (an gp g) rfl rfl) sl22) (AL.sTT rfl rfl rfl rfl (fun gp g => op_leq (.we (an gp g) rfl rfl) (.r rfl)) (AL.sF rfl rfl rfl rfl (fun g => op_and (.we (nt g) rfl rfl) (fun h => (.we (an (nt g) h) rfl rfl)) rfl) (zs (op_or (.r rfl) rfl (fun h => (.we (nt h) rfl rfl))) (zm rfl (AL.sT rfl rfl rfl rfl (fun g => op_moveD .r) (AL.sT rfl rfl rfl rfl (fun g => op_leq (.we g rfl rfl) (.r rfl)) (zs (op_and (.r rfl) (fun h => (.we h rfl rfl)) rfl) (zm rfl (AL.sT rfl rfl rfl rfl (fun g => op_field_ptr .r fd25_3) (AL.sT rfl rfl rfl rfl (fun g => op_load_ptr1 (.we g rfl) rfl rfl sc23) (AL.sT rfl rfl rfl rfl (fun g => op_lenM (f := D.i) (.we g rfl rfl) sl23) (AL.sT rfl rfl rfl rfl (fun g => op_leq (.we g rfl rfl) (.r rfl)) (zs (op_and (.r rfl) (fun h => (.we h rfl rfl)) rfl) (za rfl (zn (AW.ret ?_))))))))))))))))))))))))))))
  obtain rfl := Option.some.inj hm
  exact EndQ.d (.tmp .r .nil) rfl rfl

theorem m_law29_Own_ok {n : Nat} {a1 : SFeatures} {r : SFeatures} (hm : m_law29_Own n a1 = some r) : Fn Tryz.prog 8 [(SFeatures.e a1)] (SFeatures.e r) := by
 unfold m_law29_Own at hm
 refine Fn.of_AW (fnn := Tryz.f8) Tryz.func8 rfl (Nat.le_of_ble_eq_true rfl) (fun g0 w0 hw0 => ?_)
 refine zr (zs (op_box (n := 0) .r rfl rfl rfl) (zs (op_alloc (n := 1) zr33 rfl) (zn (zr (zs (op_load_ptrA .r rfl rfl rfl ag25) (zs (op_storeA .r .r rfl rfl ⟨_, rfl, rfl⟩ rfl (Nat.le_of_ble_eq_true rfl)) (zn (AW.ret ?_))))))))
 obtain rfl := Option.some.inj hm
 exact EndQ.d (.cellA .r rfl rfl rfl ag33 .nil) rfl rfl

theorem m_ref29_made_ok {n : Nat} {a1 : (List UInt8)} {a2 : Int} {a3 : Int} {a4 : Int} {r : Bool} (hm : m_ref29_made n a1 a2 a3 a4 = some r) : Fn Tryz.prog 58 [(.str a1), (.int .i64 a2), (.int .u8 a3), (.int .u8 a4)] (.bool r) := by
 unfold m_ref29_made at hm
 refine Fn.of_AW (fnn := Tryz.f58) Tryz.func58 rfl (Nat.le_of_ble_eq_true rfl) (fun g0 w0 hw0 => ?_)
 refine AW.reset 0 [(0, .d (.str a1)), (1, .d (.int .i64 a2)), (2, .d (.int .u8 a3)), (3, .d (.int .u8 a4))] [] (WOK.g0 hw0 (by simp)) ⟨[], rfl, rfl, rfl, ⟨(.d rfl), (.d rfl), (.d rfl), (.d rfl), trivial⟩, trivial, .nil⟩ (zr (za rfl (zn (AW.seq (zr (za rfl (zn (AW.block ?_))))))))
 obtain ⟨t_1, hI1, hk1⟩ := bindE hm
 refine AW.loopS (σ := Int) (τ := (Bool ⊕ Unit)) 0 (fun x => [(0, .d (.str a1)), (1, .d (.int .i64 a2)), (2, .d (.int .u8 a3)), (3, .d (.int .u8 a4)), (9, .d (.int .i64 x))]) (fun x => []) hI1 (WOK.g0 hw0 (by simp)) ⟨[], rfl, rfl, rfl, ⟨(.d rfl), (.d rfl), (.d rfl), (.d rfl), (.d rfl), trivial⟩, trivial, .nil⟩ ?_
 rintro n1 s5 hI1
 obtain ⟨y_1, hm, hI1⟩ := iterS hI1
 replace hm : m_ref29_made_L1 n _ _ _ s5 = some y_1 := hm
 unfold m_ref29_made_L1 at hm
 try dsimp only at hm
 refine AW.seq (zr (zm rfl (zm rfl (zs (op_lenS (.r rfl) Tryz.underlying9) (zs (op_lss (.r rfl) (.r rfl)) (zn ?_))))))
 refine AW.cond (b := _) rfl (fun hc1 => ?_) (fun hc1 => ?_)
 ·replace hm := iteT hc1 hm
  refine AW.skip (nq (AW.seq (AW.block (zr (zm rfl (zm rfl ?_))))))
  obtain ⟨v6, hv6, hm⟩ := bindE hm
  refine zs (op_indexSM (.r rfl) (.r rfl) hv6 Tryz.underlying9) (zm rfl (zs (op_lss (.r rfl) (.r rfl)) (zm rfl (AL.sF rfl rfl rfl rfl (fun g => op_moveD .r) (AL.sF rfl rfl rfl rfl (fun g => op_moveD .r) ?_)))))
  obtain ⟨v7, hv7, hm⟩ := bindE hm
  refine AL.sF rfl rfl rfl rfl (fun g => op_indexSM (.we (nt g) rfl rfl) (.we (nt g) rfl rfl) (iteT (nt g) hv7) Tryz.underlying9) (AL.sF rfl rfl rfl rfl (fun g => op_moveD .r) (AL.sF rfl rfl rfl rfl (fun g => op_gtr (.we (nt g) rfl rfl) (.we (nt g) rfl rfl)) (zs (op_or (.r rfl) rfl (fun h => (.we (nt h) rfl rfl))) (zn ?_))))
  refine AW.cond (b := _) rfl (fun hc2 => ?_) (fun hc2 => ?_)
  ·replace hm := iteT hc2 hm
   refine zr (za rfl (zn (AW.ret (bq_ret (tq_ret (tq_ret ?_))))))
   obtain rfl := Option.some.inj hm
   obtain rfl := Option.some.inj hI1
   replace hm := hk1
   try dsimp only at hm
   refine bq_ret (tq_ret ?_)
   obtain rfl := Option.some.inj hm
   exact EndQ.d (.tmp .r .nil) rfl rfl
  ·replace hm := iteF hc2 hm
   refine AW.skip (bq_n (nq (AW.region (zm rfl (zs (op_addw (.r rfl) (.r rfl)) (za rfl (zn ?_)))))))
   obtain rfl := Option.some.inj hm
   exact nq ⟨_, hI1, ⟨[], rfl, rfl, rfl, ⟨(.d rfl), (.d rfl), (.d rfl), (.d rfl), (.d rfl), trivial⟩, trivial, .nil⟩⟩
 ·replace hm := iteF hc1 hm
  refine AW.exit (tq_exit (tq_exit ?_))
  obtain rfl := Option.some.inj hm
  obtain rfl := Option.some.inj hI1
  replace hm := hk1
  try dsimp only at hm
  refine bq_hit (nq (zr (zm rfl (zs (op_lenS (.r rfl) Tryz.underlying9) (zm rfl (zs (op_eql (.r rfl) (.r rfl)) (za rfl (zn (AW.ret ?_)))))))))
  obtain rfl := Option.some.inj hm
  exact EndQ.d (.tmp .r .nil) rfl rfl

theorem m_ref29_word_ok {n : Nat} {a1 : (List UInt8)} {r : Bool} (hm : m_ref29_word n a1 = some r) : Fn Tryz.prog 87 [(.str a1)] (.bool r) := by
 unfold m_ref29_word at hm
 refine Fn.of_AW (fnn := Tryz.f87) Tryz.func87 rfl (Nat.le_of_ble_eq_true rfl) (fun g0 w0 hw0 => ?_)
 refine AW.reset 0 [(0, .d (.str a1))] [] (WOK.g0 hw0 (by simp)) ⟨[], rfl, rfl, rfl, ⟨(.d rfl), trivial⟩, trivial, .nil⟩ (zr (za rfl (zn (AW.seq (zr (za rfl (zn (AW.block ?_))))))))
 obtain ⟨t_1, hI1, hk1⟩ := bindE hm
 refine AW.loopS (σ := Int) (τ := (Bool ⊕ Unit)) 0 (fun x => [(0, .d (.str a1)), (3, .d (.int .i64 x))]) (fun x => []) hI1 (WOK.g0 hw0 (by simp)) ⟨[], rfl, rfl, rfl, ⟨(.d rfl), (.d rfl), trivial⟩, trivial, .nil⟩ ?_
 rintro n1 s2 hI1
 obtain ⟨y_1, hm, hI1⟩ := iterS hI1
 replace hm : m_ref29_word_L1 n _ s2 = some y_1 := hm
 unfold m_ref29_word_L1 at hm
 try dsimp only at hm
 refine AW.seq (zr (zm rfl (zm rfl (zs (op_lenS (.r rfl) Tryz.underlying9) (zs (op_lss (.r rfl) (.r rfl)) (zn ?_))))))
 refine AW.cond (b := _) rfl (fun hc1 => ?_) (fun hc1 => ?_)
 ·replace hm := iteT hc1 hm
  refine AW.skip (nq (AW.seq (AW.block (zr (zm rfl (zm rfl ?_))))))
  obtain ⟨v3, hv3, hm⟩ := bindE hm
  refine zs (op_indexSM (.r rfl) (.r rfl) hv3 Tryz.underlying9) (zs (op_leq (.r rfl) (.r rfl)) (zn ?_))
  refine AW.cond (b := _) rfl (fun hc2 => ?_) (fun hc2 => ?_)
  ·replace hm := iteT hc2 hm
   refine zr (za rfl (zn (AW.ret (bq_ret (tq_ret (tq_ret ?_))))))
   obtain rfl := Option.some.inj hm
   obtain rfl := Option.some.inj hI1
   replace hm := hk1
   try dsimp only at hm
   refine bq_ret (tq_ret ?_)
   obtain rfl := Option.some.inj hm
   exact EndQ.d (.tmp .r .nil) rfl rfl
  ·replace hm := iteF hc2 hm
   refine AW.skip (bq_n (nq (AW.region (zm rfl (zs (op_addw (.r rfl) (.r rfl)) (za rfl (zn ?_)))))))
   obtain rfl := Option.some.inj hm
   exact nq ⟨_, hI1, ⟨[], rfl, rfl, rfl, ⟨(.d rfl), (.d rfl), trivial⟩, trivial, .nil⟩⟩
 ·replace hm := iteF hc1 hm
  refine AW.exit (tq_exit (tq_exit ?_))
  obtain rfl := Option.some.inj hm
  obtain rfl := Option.some.inj hI1
  replace hm := hk1
  try dsimp only at hm
  refine bq_hit (nq (zr (zm rfl (zs (op_lenS (.r rfl) Tryz.underlying9) (zs (op_geq (.r rfl) (.r rfl)) (zm rfl (AL.sT rfl rfl rfl rfl (fun g => op_moveD .r) (AL.sT rfl rfl rfl rfl (fun g => op_lenS (.we g rfl rfl) Tryz.underlying9) (AL.sT rfl rfl rfl rfl (fun g => op_leq (.we g rfl rfl) (.r rfl)) (zs (op_and (.r rfl) (fun h => (.we h rfl rfl)) rfl) (za rfl (zn (AW.ret ?_)))))))))))))
  obtain rfl := Option.some.inj hm
  exact EndQ.d (.tmp .r .nil) rfl rfl

theorem m_ref29_Words_ok {n : Nat} {a1 : (List (List UInt8))} {r : Bool} (hm : m_ref29_Words n a1 = some r) : Fn Tryz.prog 59 [(.sl (a1.map D.str))] (.bool r) := by
 unfold m_ref29_Words at hm
 refine Fn.of_AW (fnn := Tryz.f59) Tryz.func59 rfl (Nat.le_of_ble_eq_true rfl) (fun g0 w0 hw0 => ?_)
 refine AW.reset 0 [(0, .d (.sl (a1.map D.str)))] [] (WOK.g0 hw0 (by simp)) ⟨[], rfl, rfl, rfl, ⟨(.d rfl), trivial⟩, trivial, .nil⟩ (zr (za rfl (zn (AW.seq (zr (za rfl (zn (AW.block ?_))))))))
 obtain ⟨t_1, hI1, hk1⟩ := bindE hm
 refine AW.loopS (σ := Int) (τ := (Bool ⊕ Unit)) 0 (fun x => [(0, .d (.sl (a1.map D.str))), (3, .d (.int .i64 x))]) (fun x => []) hI1 (WOK.g0 hw0 (by simp)) ⟨[], rfl, rfl, rfl, ⟨(.d rfl), (.d rfl), trivial⟩, trivial, .nil⟩ ?_
 rintro n1 s2 hI1
 obtain ⟨y_1, hm, hI1⟩ := iterS hI1
 replace hm : m_ref29_Words_L1 n _ s2 = some y_1 := hm
 unfold m_ref29_Words_L1 at hm
 try dsimp only at hm
 refine AW.seq (zr (zm rfl (zm rfl (zs (op_lenM (f := D.str) (.r rfl) sl22) (zs (op_lss (.r rfl) (.r rfl)) (zn ?_))))))
 refine AW.cond (b := _) rfl (fun hc1 => ?_) (fun hc1 => ?_)
 ·replace hm := iteT hc1 hm
  refine AW.skip (nq (AW.seq (AW.block (zr (zm rfl (zm rfl ?_))))))
  obtain ⟨v3, hv3, hm⟩ := bindE hm
  refine zs (op_indexAddrM (f := D.str) (.r rfl) (.r rfl) hv3 En.str sl22) (zs (op_load_vp1 .r rfl sc9) ?_)
  obtain ⟨v4, hv4, hm⟩ := bindE hm
  refine zs (op_fn Tryz.call87 .r (.cons (.r rfl) .nil) (m_ref29_word_ok hv4)) (zs (op_not (.r rfl)) (zn ?_))
  refine AW.cond (b := _) rfl (fun hc2 => ?_) (fun hc2 => ?_)
  ·replace hm := iteT hc2 hm
   refine zr (za rfl (zn (AW.ret (bq_ret (tq_ret (tq_ret ?_))))))
   obtain rfl := Option.some.inj hm
   obtain rfl := Option.some.inj hI1
   replace hm := hk1
   try dsimp only at hm
   refine bq_ret (tq_ret ?_)
   obtain rfl := Option.some.inj hm
   exact EndQ.d (.tmp .r .nil) rfl rfl
  ·replace hm := iteF hc2 hm
   refine AW.skip (bq_n (nq (AW.region (zm rfl (zs (op_addw (.r rfl) (.r rfl)) (za rfl (zn ?_)))))))
   obtain rfl := Option.some.inj hm
   exact nq ⟨_, hI1, ⟨[], rfl, rfl, rfl, ⟨(.d rfl), (.d rfl), trivial⟩, trivial, .nil⟩⟩
 ·replace hm := iteF hc1 hm
  refine AW.exit (tq_exit (tq_exit ?_))
  obtain rfl := Option.some.inj hm
  obtain rfl := Option.some.inj hI1
  replace hm := hk1
  try dsimp only at hm
  refine bq_hit (nq (zr (zm rfl (zs (op_lenM (f := D.str) (.r rfl) sl22) (zs (op_leq (.r rfl) (.r rfl)) (za rfl (zn (AW.ret ?_))))))))
  obtain rfl := Option.some.inj hm
  exact EndQ.d (.tmp .r .nil) rfl rfl

theorem m_ref29_key_ok {n : Nat} {a1 : (List UInt8)} {r : Bool} (hm : m_ref29_key n a1 = some r) : Fn Tryz.prog 60 [(.str a1)] (.bool r) := by
 unfold m_ref29_key at hm
 refine Fn.of_AW (fnn := Tryz.f60) Tryz.func60 rfl (Nat.le_of_ble_eq_true rfl) (fun g0 w0 hw0 => ?_)
 refine AW.reset 0 [(0, .d (.str a1))] [] (WOK.g0 hw0 (by simp)) ⟨[], rfl, rfl, rfl, ⟨(.d rfl), trivial⟩, trivial, .nil⟩ (zr (za rfl (zn (AW.seq (zr (za rfl (zn (AW.block ?_))))))))
 obtain ⟨t_1, hI1, hk1⟩ := bindE hm
 refine AW.loopS (σ := Int) (τ := (Bool ⊕ Unit)) 0 (fun x => [(0, .d (.str a1)), (3, .d (.int .i64 x))]) (fun x => []) hI1 (WOK.g0 hw0 (by simp)) ⟨[], rfl, rfl, rfl, ⟨(.d rfl), (.d rfl), trivial⟩, trivial, .nil⟩ ?_
 rintro n1 s2 hI1
 obtain ⟨y_1, hm, hI1⟩ := iterS hI1
 replace hm : m_ref29_key_L1 n _ s2 = some y_1 := hm
 unfold m_ref29_key_L1 at hm
 try dsimp only at hm
 refine AW.seq (zr (zm rfl (zm rfl (zs (op_lenS (.r rfl) Tryz.underlying9) (zs (op_lss (.r rfl) (.r rfl)) (zn ?_))))))
 refine AW.cond (b := _) rfl (fun hc1 => ?_) (fun hc1 => ?_)
 ·replace hm := iteT hc1 hm
  refine AW.skip (nq (AW.seq (AW.block (zr (zm rfl (zm rfl ?_))))))
  obtain ⟨v3, hv3, hm⟩ := bindE hm
  refine zs (op_indexSM (.r rfl) (.r rfl) hv3 Tryz.underlying9) (zs (op_lss (.r rfl) (.r rfl)) (zn ?_))
  refine AW.cond (b := _) rfl (fun hc2 => ?_) (fun hc2 => ?_)
  ·replace hm := iteT hc2 hm
   refine zr (za rfl (zn (AW.ret (bq_ret (tq_ret (tq_ret ?_))))))
   obtain rfl := Option.some.inj hm
   obtain rfl := Option.some.inj hI1
   replace hm := hk1
   try dsimp only at hm
   refine bq_ret (tq_ret ?_)
   obtain rfl := Option.some.inj hm
   exact EndQ.d (.tmp .r .nil) rfl rfl
  ·replace hm := iteF hc2 hm
   refine AW.skip (bq_n (nq (AW.region (zm rfl (zs (op_addw (.r rfl) (.r rfl)) (za rfl (zn ?_)))))))
   obtain rfl := Option.some.inj hm
   exact nq ⟨_, hI1, ⟨[], rfl, rfl, rfl, ⟨(.d rfl), (.d rfl), trivial⟩, trivial, .nil⟩⟩
 ·replace hm := iteF hc1 hm
  refine AW.exit (tq_exit (tq_exit ?_))
  obtain rfl := Option.some.inj hm
  obtain rfl := Option.some.inj hI1
  replace hm := hk1
  try dsimp only at hm
  refine bq_hit (nq (zr (zm rfl (zs (op_lenS (.r rfl) Tryz.underlying9) (zs (op_leq (.r rfl) (.r rfl)) (zm rfl (AL.sT rfl rfl rfl rfl (fun g => op_moveD .r) (AL.sT rfl rfl rfl rfl (fun g => op_eqlS (.we g rfl rfl) (.r rfl)) (AL.sT rfl rfl rfl rfl (fun g => op_moveD (.we g rfl)) (AL.sFF rfl rfl rfl rfl (fun gp g => op_moveD .r) ?_))))))))))
  obtain ⟨v4, hv4, hm⟩ := bindE hm
  refine AL.sFF rfl rfl rfl rfl (fun gp g => op_indexSM (.we (an gp (nt g)) rfl rfl) (.r rfl) (iteT (an gp (nt g)) hv4) Tryz.underlying9) (AL.sFF rfl rfl rfl rfl (fun gp g => op_neq (.we (an gp (nt g)) rfl rfl) (.r rfl)) (AL.sFF rfl rfl rfl rfl (fun gp g => op_moveD (.we (an gp (nt g)) rfl)) (AL.sTT rfl rfl rfl rfl (fun gp g => op_moveD .r) (AL.sTT rfl rfl rfl rfl (fun gp g => op_moveD .r) (AL.sTT rfl rfl rfl rfl (fun gp g => op_lenS (.we (an gp g) rfl rfl) Tryz.underlying9) (AL.sTT rfl rfl rfl rfl (fun gp g => op_subw (.we (an gp g) rfl rfl) (.r rfl)) ?_))))))
  obtain ⟨v5, hv5, hm⟩ := bindE hm
  refine AL.sTT rfl rfl rfl rfl (fun gp g => op_indexSM (.we (an gp g) rfl rfl) (.we (an gp g) rfl rfl) (iteT (an gp g) hv5) Tryz.underlying9) (AL.sTT rfl rfl rfl rfl (fun gp g => op_neq (.we (an gp g) rfl rfl) (.r rfl)) (AL.sFF rfl rfl rfl rfl (fun gp g => op_and (.we (an gp (nt g)) rfl rfl) (fun h => (.we (an (an gp (nt g)) h) rfl rfl)) rfl) (AL.sT rfl rfl rfl rfl (fun g => op_or (.we g rfl rfl) rfl (fun h => (.we (an g (nt h)) rfl rfl))) (zs (op_and (.r rfl) (fun h => (.we h rfl rfl)) rfl) (za rfl (zn (AW.ret ?_)))))))
  obtain rfl := Option.some.inj hm
  exact EndQ.d (.tmp .r .nil) rfl rfl

end Go.Proofs.YtgcmhhcopeiomaaGreat.Ab
