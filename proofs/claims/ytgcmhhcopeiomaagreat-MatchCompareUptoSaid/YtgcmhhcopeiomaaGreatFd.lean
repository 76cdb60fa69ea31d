/- The functions do what they are in plain Lean. Conditions: none. -/
import Derived.Test.YtgcmhhcopeiomaaGreatTy
import Derived.Test.YtgcmhhcopeiomaaGreatMi
import Derived.Test.YtgcmhhcopeiomaaGreatFc
set_option maxRecDepth 100000
namespace Go.Proofs.YtgcmhhcopeiomaaGreat.Ab
open Go
attribute [local irreducible] AL AD AW

set_option maxHeartbeats 20000000 in
theorem m_odds_eighth_ok {n : Nat} {a1 : (List Int)} {r : (List Int)} (hm : m_odds_eighth n a1 = some r) : Fn Tryz.prog 73 [(.sl (a1.map D.i))] (.sl (r.map D.i)) := by
  unfold m_odds_eighth at hm
  refine Fn.of_AW (fnn := Tryz.f73) Tryz.func73 rfl (Nat.le_of_ble_eq_true rfl) (fun g0 w0 hw0 => ?_)
  refine AW.seqR ?_
  refine AL.s rfl (op_assignN (.e rfl)) ?_
  refine AL.nil ?_
  refine AW.seqR ?_
  refine AL.s rfl (op_moveD (.e rfl)) ?_
  obtain ⟨v2, hv2, hm⟩ := bindE hm
  refine AL.s rfl (op_fn Tryz.call102 (.e rfl) (.cons (.r rfl) (.cons (.r rfl) .nil)) (m_nat_Power_ok hv2)) ?_
  refine AL.s rfl (op_moveD (.e rfl)) ?_
  refine AL.s rfl (op_extractD (.e rfl) rfl) ?_
  refine AL.s rfl (op_extractD (.e rfl) rfl) ?_
  refine AL.s rfl (op_assignD (.e rfl)) ?_
  refine AL.s rfl (op_assignD (.e rfl)) ?_
  refine AL.nil ?_
  refine AW.seqR ?_
  refine AL.s rfl (op_moveD (.e rfl)) ?_
  refine AL.s rfl (op_assignD (.e rfl)) ?_
  refine AL.nil ?_
  refine AW.ret ?_
  obtain rfl := Option.some.inj hm
  exact EndQ.d (.tmp (.e rfl) .nil) rfl rfl

set_option maxHeartbeats 20000000 in
theorem m_math_bits_Len64_ok {n : Nat} {a1 : Int} {r : Int} (hm : m_math_bits_Len64 n a1 = some r) : Fn Tryz.prog 131 [(.int .u64 a1)] (.int .i64 r) := by
  unfold m_math_bits_Len64 at hm
  refine Fn.of_AW (fnn := Tryz.f131) Tryz.func131 rfl (Nat.le_of_ble_eq_true rfl) (fun g0 w0 hw0 => ?_)
  refine AW.reset 0 [(0, .d (.int .u64 a1))] [] (WOK.g0 hw0 (by simp)) ⟨[], rfl, rfl, rfl, ⟨(.d rfl), trivial⟩, trivial, .nil⟩ ?_
  refine AW.seqR ?_
  refine AL.s rfl (op_assignD (.e rfl)) ?_
  refine AL.nil ?_
  obtain ⟨t_j1, hm, hkj1⟩ := bindE hm
  refine AW.cutS (α := (Int × Int)) 0 (fun x => x = t_j1) (fun x => [(0, .d (.int .u64 x.1)), (2, .d (.int .i64 x.2))]) (fun x => []) (WOK.g0 hw0 (by simp)) ?_ ?_
  · skip
    refine AW.seqR ?_
    refine AL.s rfl (op_moveD (.e rfl)) ?_
    refine AL.s rfl (op_geq (.r rfl) (.r rfl)) ?_
    refine AL.nil ?_
    refine AW.cond (b := _) rfl (fun hc1 => ?_) (fun hc1 => ?_)
    · replace hm := iteT hc1 hm
      refine AW.seqR ?_
      refine AL.s rfl (op_moveD (.e rfl)) ?_
      obtain ⟨v2, hv2, hm⟩ := bindE hm
      refine AL.s rfl (op_shrM (.r rfl) (.r rfl) hv2) ?_
      refine AL.s rfl (op_assignD (.e rfl)) ?_
      refine AL.nil ?_
      refine AW.region ?_
      refine AL.s rfl (op_assignD (.e rfl)) ?_
      refine AL.nil ?_
      obtain rfl := Option.some.inj hm
      exact nq ⟨_, rfl, ⟨[], rfl, rfl, rfl, ⟨(.d rfl), (.d rfl), trivial⟩, trivial, .nil⟩⟩
    · replace hm := iteF hc1 hm
      refine AW.skip ?_
      obtain rfl := Option.some.inj hm
      exact nq ⟨_, rfl, ⟨[], rfl, rfl, rfl, ⟨(.d rfl), (.d rfl), trivial⟩, trivial, .nil⟩⟩
  · rintro ⟨s3, s4⟩ rfl
    replace hm := hkj1
    try dsimp only at hm
    obtain ⟨t_j2, hm, hkj2⟩ := bindE hm
    refine AW.cutS (α := (Int × Int)) 0 (fun x => x = t_j2) (fun x => [(0, .d (.int .u64 x.1)), (2, .d (.int .i64 x.2))]) (fun x => []) (WOK.g0 hw0 (by simp)) ?_ ?_
    · skip
      refine AW.seqR ?_
      refine AL.s rfl (op_moveD (.e rfl)) ?_
      refine AL.s rfl (op_geq (.r rfl) (.r rfl)) ?_
      refine AL.nil ?_
      refine AW.cond (b := _) rfl (fun hc2 => ?_) (fun hc2 => ?_)
      · replace hm := iteT hc2 hm
        refine AW.seqR ?_
        refine AL.s rfl (op_moveD (.e rfl)) ?_
        obtain ⟨v5, hv5, hm⟩ := bindE hm
        refine AL.s rfl (op_shrM (.r rfl) (.r rfl) hv5) ?_
        refine AL.s rfl (op_assignD (.e rfl)) ?_
        refine AL.nil ?_
        refine AW.region ?_
        refine AL.s rfl (op_moveD (.e rfl)) ?_
        refine AL.s rfl (op_addw (.r rfl) (.r rfl)) ?_
        refine AL.s rfl (op_assignD (.e rfl)) ?_
        refine AL.nil ?_
        obtain rfl := Option.some.inj hm
        exact nq ⟨_, rfl, ⟨[], rfl, rfl, rfl, ⟨(.d rfl), (.d rfl), trivial⟩, trivial, .nil⟩⟩
      · replace hm := iteF hc2 hm
        refine AW.skip ?_
        obtain rfl := Option.some.inj hm
        exact nq ⟨_, rfl, ⟨[], rfl, rfl, rfl, ⟨(.d rfl), (.d rfl), trivial⟩, trivial, .nil⟩⟩
    · rintro ⟨s6, s7⟩ rfl
      replace hm := hkj2
      try dsimp only at hm
      obtain ⟨t_j3, hm, hkj3⟩ := bindE hm
      refine AW.cutS (α := (Int × Int)) 0 (fun x => x = t_j3) (fun x => [(0, .d (.int .u64 x.1)), (2, .d (.int .i64 x.2))]) (fun x => []) (WOK.g0 hw0 (by simp)) ?_ ?_
      · skip
        refine AW.seqR ?_
        refine AL.s rfl (op_moveD (.e rfl)) ?_
        refine AL.s rfl (op_geq (.r rfl) (.r rfl)) ?_
        refine AL.nil ?_
        refine AW.cond (b := _) rfl (fun hc3 => ?_) (fun hc3 => ?_)
        · replace hm := iteT hc3 hm
          refine AW.seqR ?_
          refine AL.s rfl (op_moveD (.e rfl)) ?_
          obtain ⟨v8, hv8, hm⟩ := bindE hm
          refine AL.s rfl (op_shrM (.r rfl) (.r rfl) hv8) ?_
          refine AL.s rfl (op_assignD (.e rfl)) ?_
          refine AL.nil ?_
          refine AW.region ?_
          refine AL.s rfl (op_moveD (.e rfl)) ?_
          refine AL.s rfl (op_addw (.r rfl) (.r rfl)) ?_
          refine AL.s rfl (op_assignD (.e rfl)) ?_
          refine AL.nil ?_
          obtain rfl := Option.some.inj hm
          exact nq ⟨_, rfl, ⟨[], rfl, rfl, rfl, ⟨(.d rfl), (.d rfl), trivial⟩, trivial, .nil⟩⟩
        · replace hm := iteF hc3 hm
          refine AW.skip ?_
          obtain rfl := Option.some.inj hm
          exact nq ⟨_, rfl, ⟨[], rfl, rfl, rfl, ⟨(.d rfl), (.d rfl), trivial⟩, trivial, .nil⟩⟩
      · rintro ⟨s9, s10⟩ rfl
        replace hm := hkj3
        try dsimp only at hm
        refine AW.seqR ?_
        refine AL.s rfl (op_moveD (.e rfl)) ?_
        refine AL.s rfl (op_moveD (.e rfl)) ?_
        refine AL.s rfl (op_conv_int (.r rfl) ⟨_, Tryz.underlying176⟩ Tryz.underlying5) ?_
        obtain ⟨v11, hv11, hm⟩ := bindE hm
        refine AL.s rfl (op_indexSM (.r rfl) (.r rfl) hv11 Tryz.underlying9) ?_
        refine AL.s rfl (op_conv_int (.r rfl) ⟨_, Tryz.underlying5⟩ Tryz.underlying3) ?_
        refine AL.s rfl (op_addw (.r rfl) (.r rfl)) ?_
        refine AL.s rfl (op_assignD (.e rfl)) ?_
        refine AL.nil ?_
        refine AW.ret ?_
        obtain rfl := Option.some.inj hm
        exact EndQ.d (.tmp (.e rfl) .nil) rfl rfl

set_option maxHeartbeats 20000000 in
theorem m_math_bits_Len_ok {n : Nat} {a1 : Int} {r : Int} (hm : m_math_bits_Len n a1 = some r) : Fn Tryz.prog 120 [(.int .u64 a1)] (.int .i64 r) := by
  unfold m_math_bits_Len at hm
  refine Fn.of_AW (fnn := Tryz.f120) Tryz.func120 rfl (Nat.le_of_ble_eq_true rfl) (fun g0 w0 hw0 => ?_)
  refine AW.seqR ?_
  refine AL.s rfl (op_assignD (.e rfl)) ?_
  refine AL.nil ?_
  refine AW.seq ?_
  refine AW.cond (b := false) rfl (fun hc => by cases hc) (fun hc => ?_)
  refine AW.skip ?_
  refine nq ?_
  refine AW.seqR ?_
  refine AL.s rfl (op_moveD (.e rfl)) ?_
  obtain ⟨v2, hv2, hm⟩ := bindE hm
  refine AL.s rfl (op_fn Tryz.call131 (.e rfl) (.cons (.r rfl) .nil) (m_math_bits_Len64_ok hv2)) ?_
  refine AL.s rfl (op_assignD (.e rfl)) ?_
  refine AL.nil ?_
  refine AW.ret ?_
  obtain rfl := Option.some.inj hm
  exact EndQ.d (.tmp (.e rfl) .nil) rfl rfl

set_option maxHeartbeats 20000000 in
theorem m_nat_Bits_ok {n : Nat} {a1 : (List Int)} {r : Int} (hm : m_nat_Bits n a1 = some r) : Fn Tryz.prog 99 [(.sl (a1.map D.i))] (.int .i64 r) := by
  unfold m_nat_Bits at hm
  refine Fn.of_AW (fnn := Tryz.f99) Tryz.func99 rfl (Nat.le_of_ble_eq_true rfl) (fun g0 w0 hw0 => ?_)
  refine AW.seqR ?_
  refine AL.s rfl (op_assignD (.e rfl)) ?_
  refine AL.nil ?_
  refine AW.seq ?_
  refine AW.seqR ?_
  refine AL.s rfl (op_moveD (.e rfl)) ?_
  obtain ⟨v2, hv2, hm⟩ := bindE hm
  refine AL.s rfl (op_fn Tryz.call119 (.e rfl) (.cons (.r rfl) .nil) (m_nat_Valid_ok hv2)) ?_
  refine AL.s rfl (op_not (.r rfl)) ?_
  refine AL.s rfl (op_moveD (.e rfl)) ?_
  refine AL.sF rfl rfl rfl rfl (fun g => op_moveD (.e rfl)) ?_
  refine AL.sF rfl rfl rfl rfl (fun g => op_lenM (f := D.i) (.we (nt g) rfl rfl) sl125) ?_
  refine AL.sF rfl rfl rfl rfl (fun g => op_eql (.we (nt g) rfl rfl) (.r rfl)) ?_
  refine AL.s rfl (op_or (.r rfl) rfl (fun h => (.we (nt h) rfl rfl))) ?_
  refine AL.nil ?_
  refine AW.cond (b := _) rfl (fun hc1 => ?_) (fun hc1 => ?_)
  · replace hm := iteT hc1 hm
    refine AW.seqR ?_
    refine AL.s rfl (op_assignD (.e rfl)) ?_
    refine AL.nil ?_
    refine AW.ret ?_
    refine tq_ret ?_
    obtain rfl := Option.some.inj hm
    exact EndQ.d (.tmp (.e rfl) .nil) rfl rfl
  · replace hm := iteF hc1 hm
    refine AW.skip ?_
    refine nq ?_
    refine AW.seqR ?_
    refine AL.s rfl (op_moveD (.e rfl)) ?_
    refine AL.s rfl (op_lenM (f := D.i) (.r rfl) sl125) ?_
    refine AL.s rfl (op_subw (.r rfl) (.r rfl)) ?_
    refine AL.s rfl (op_mulw (.r rfl) (.r rfl)) ?_
    refine AL.s rfl (op_moveD (.e rfl)) ?_
    refine AL.s rfl (op_moveD (.e rfl)) ?_
    refine AL.s rfl (op_lenM (f := D.i) (.r rfl) sl125) ?_
    refine AL.s rfl (op_subw (.r rfl) (.r rfl)) ?_
    obtain ⟨v3, hv3, hm⟩ := bindE hm
    refine AL.s rfl (op_indexAddrM (f := D.i) (.r rfl) (.r rfl) hv3 En.i sl125) ?_
    refine AL.s rfl (op_load_vp1 (.e rfl) rfl sc3) ?_
    refine AL.s rfl (op_conv_int (.r rfl) ⟨_, Tryz.underlying3⟩ Tryz.underlying165) ?_
    obtain ⟨v4, hv4, hm⟩ := bindE hm
    refine AL.s rfl (op_fn Tryz.call120 (.e rfl) (.cons (.r rfl) .nil) (m_math_bits_Len_ok hv4)) ?_
    refine AL.s rfl (op_addw (.r rfl) (.r rfl)) ?_
    refine AL.s rfl (op_assignD (.e rfl)) ?_
    refine AL.nil ?_
    refine AW.ret ?_
    obtain rfl := Option.some.inj hm
    exact EndQ.d (.tmp (.e rfl) .nil) rfl rfl

set_option maxHeartbeats 20000000 in
theorem m_nat_Shift_ok {n : Nat} {a1 : (List Int)} {a2 : Int} {r : ((List Int) × Int)} (hm : m_nat_Shift n a1 a2 = some r) : Fn Tryz.prog 100 [(.sl (a1.map D.i)), (.int .i64 a2)] (.tup [(.sl (r.1.map D.i)), (.int .i64 r.2)]) := by
  unfold m_nat_Shift at hm
  refine Fn.of_AW (fnn := Tryz.f100) Tryz.func100 rfl (Nat.le_of_ble_eq_true rfl) (fun g0 w0 hw0 => ?_)
  refine AW.seqR ?_
  refine AL.s rfl (op_assignN (.e rfl)) ?_
  refine AL.s rfl (op_assignD (.e rfl)) ?_
  refine AL.nil ?_
  refine AW.seq ?_
  refine AW.block ?_
  refine AW.reset 0 [(0, .d (.sl (a1.map D.i))), (1, .d (.int .i64 a2))] [] (WOK.g0 hw0 (by simp)) ⟨[], rfl, rfl, rfl, ⟨(.d rfl), (.d rfl), trivial⟩, trivial, .nil⟩ ?_
  refine AW.seqR ?_
  refine AL.s rfl (op_moveD (.e rfl)) ?_
  obtain ⟨v3, hv3, hm⟩ := bindE hm
  refine AL.s rfl (op_fn Tryz.call119 (.e rfl) (.cons (.r rfl) .nil) (m_nat_Valid_ok hv3)) ?_
  refine AL.s rfl (op_not (.r rfl)) ?_
  refine AL.s rfl (op_assignD (.e rfl)) ?_
  refine AL.nil ?_
  refine AW.cond (b := _) rfl (fun hc1 => ?_) (fun hc1 => ?_)
  · replace hm := iteT hc1 hm
    refine AW.seqR ?_
    refine AL.s rfl (op_assignN (.e rfl)) ?_
    refine AL.s rfl (op_assignD (.e rfl)) ?_
    refine AL.nil ?_
    refine AW.ret ?_
    refine bq_ret ?_
    refine tq_ret ?_
    obtain rfl := Option.some.inj hm
    exact EndQ.d (.tmp (.e rfl) (.tmp (.e rfl) .nil)) rfl rfl
  · replace hm := iteF hc1 hm
    refine AW.seqR ?_
    refine AL.s rfl (op_moveD (.e rfl)) ?_
    refine AL.s rfl (op_lss (.r rfl) (.r rfl)) ?_
    refine AL.s rfl (op_moveD (.e rfl)) ?_
    refine AL.sF rfl rfl rfl rfl (fun g => op_moveD (.e rfl)) ?_
    refine AL.sF rfl rfl rfl rfl (fun g => op_gtr (.we (nt g) rfl rfl) (.r rfl)) ?_
    refine AL.s rfl (op_or (.r rfl) rfl (fun h => (.we (nt h) rfl rfl))) ?_
    refine AL.s rfl (op_assignD (.e rfl)) ?_
    refine AL.nil ?_
    refine AW.cond (b := _) rfl (fun hc2 => ?_) (fun hc2 => ?_)
    · replace hm := iteT hc2 hm
      refine AW.seqR ?_
      refine AL.s rfl (op_assignN (.e rfl)) ?_
      refine AL.s rfl (op_assignD (.e rfl)) ?_
      refine AL.nil ?_
      refine AW.ret ?_
      refine bq_ret ?_
      refine tq_ret ?_
      obtain rfl := Option.some.inj hm
      exact EndQ.d (.tmp (.e rfl) (.tmp (.e rfl) .nil)) rfl rfl
    · replace hm := iteF hc2 hm
      refine AW.seqR ?_
      refine AL.s rfl (op_moveD (.e rfl)) ?_
      refine AL.s rfl (op_lenM (f := D.i) (.r rfl) sl125) ?_
      refine AL.s rfl (op_eql (.r rfl) (.r rfl)) ?_
      refine AL.s rfl (op_assignD (.e rfl)) ?_
      refine AL.nil ?_
      refine AW.cond (b := _) rfl (fun hc3 => ?_) (fun hc3 => ?_)
      · replace hm := iteT hc3 hm
        refine AW.seqR ?_
        refine AL.s rfl (op_assignN (.e rfl)) ?_
        refine AL.s rfl (op_assignD (.e rfl)) ?_
        refine AL.nil ?_
        refine AW.ret ?_
        refine bq_ret ?_
        refine tq_ret ?_
        obtain rfl := Option.some.inj hm
        exact EndQ.d (.tmp (.e rfl) (.tmp (.e rfl) .nil)) rfl rfl
      · replace hm := iteF hc3 hm
        refine AW.skip ?_
        refine bq_n ?_
        refine nq ?_
        refine AW.free ?_
        refine AW.free ?_
        refine AW.seqD [([], []), ([], []), ([], [0]), ([], []), ([], []), ([], []), ([], []), ([], []), ([], []), ([0], [0, 1]), ([], [])] mo (by decide +kernel) ?_
        refine AD.s (ws := []) rfl rfl (fun H' _ hH => op_moveD (.e rfl)) ?_
        obtain ⟨v4, hv4, hm⟩ := bindE hm
        refine AD.s (ws := []) rfl rfl (fun H' _ hH => op_quoM (.r rfl) (.r rfl) hv4) ?_
        obtain ⟨v5, hv5, hm⟩ := bindE hm
        refine AD.s (ws := [(0, _)]) rfl rfl (fun H' _ hH => op_makeR (res := 0) (f := D.i) (.r rfl) sl125 zr3 rfl ((hH _ (by simp)).trans rfl) hv5) ?_
        refine AD.s (ws := []) rfl rfl (fun H' _ hH => op_moveD (.e rfl)) ?_
        refine AD.s (ws := []) rfl rfl (fun H' _ hH => op_moveD (.e rfl)) ?_
        obtain ⟨v6, hv6, hm⟩ := bindE hm
        refine AD.s (ws := []) rfl rfl (fun H' _ hH => op_remM (.r rfl) (.r rfl) hv6) ?_
        obtain ⟨v7, hv7, hm⟩ := bindE hm
        refine AD.s (ws := []) rfl rfl (fun H' _ hH => op_shlM (.r rfl) (.r rfl) hv7) ?_
        refine AD.s (ws := []) rfl rfl (fun H' _ hH => op_buildSlice (ds := ([v7] : List Int).map D.i) sl125 (.cons (.r rfl) rfl (En.i.one _) .nil) rfl (by decide)) ?_
        obtain ⟨v8, hv8, hm⟩ := bindE hm
        refine AD.s (ws := []) rfl rfl (fun H' _ hH => op_fn Tryz.call121 (.e rfl) (.cons (.r rfl) (.cons (.r rfl) .nil)) (m_nat_times_ok hv8)) ?_
        obtain ⟨v9, hv9, hm⟩ := bindE hm
        refine AD.s (ws := [(0, _), (1, _)]) rfl rfl (fun H' _ hH => op_appendHRM (res := 1) (f := D.i) (l := v5) (l' := v8) sl125 (.e rfl) (.r rfl) ((hH _ (by simp)).trans rfl) rfl ((hH _ (by simp)).trans rfl) En.i hv9) ?_
        refine AD.s (ws := []) rfl rfl (fun H' _ hH => op_assignH (.e rfl)) ?_
        refine AD.nil ?_
        refine AW.freeze (f := D.i) (l := v9) 1 [6, 31] rfl rfl En.i ⟨rfl, rfl, trivial⟩ ?_
        refine AW.seqR ?_
        refine AL.s rfl (op_moveD (.e rfl)) ?_
        obtain ⟨v10, hv10, hm⟩ := bindE hm
        refine AL.s rfl (op_fn Tryz.call122 (.e rfl) (.cons (.r rfl) .nil) (m_nat_limited_ok hv10)) ?_
        refine AL.s rfl (op_extractD (.e rfl) rfl) ?_
        refine AL.s rfl (op_extractD (.e rfl) rfl) ?_
        refine AL.s rfl (op_assignD (.e rfl)) ?_
        refine AL.s rfl (op_assignD (.e rfl)) ?_
        refine AL.nil ?_
        refine AW.ret ?_
        obtain rfl := Option.some.inj hm
        exact EndQ.d (.tmp (.e rfl) (.tmp (.e rfl) .nil)) rfl rfl

set_option maxHeartbeats 20000000 in
theorem m_cmp_isNaN_int_ok {n : Nat} {a1 : Int} {r : Bool} (hm : m_cmp_isNaN_int n a1 = some r) : Fn Tryz.prog 138 [(.int .i64 a1)] (.bool r) := by
  unfold m_cmp_isNaN_int at hm
  refine Fn.of_AW (fnn := Tryz.f138) Tryz.func138 rfl (Nat.le_of_ble_eq_true rfl) (fun g0 w0 hw0 => ?_)
  refine AW.seqR ?_
  refine AL.s rfl (op_assignD (.e rfl)) ?_
  refine AL.nil ?_
  refine AW.seqR ?_
  refine AL.s rfl (op_moveD (.e rfl)) ?_
  refine AL.s rfl (op_moveD (.e rfl)) ?_
  refine AL.s rfl (op_neq (.r rfl) (.r rfl)) ?_
  refine AL.s rfl (op_assignD (.e rfl)) ?_
  refine AL.nil ?_
  refine AW.ret ?_
  obtain rfl := Option.some.inj hm
  exact EndQ.d (.tmp (.e rfl) .nil) rfl rfl

set_option maxHeartbeats 20000000 in
theorem m_cmp_Compare_int_ok {n : Nat} {a1 : Int} {a2 : Int} {r : Int} (hm : m_cmp_Compare_int n a1 a2 = some r) : Fn Tryz.prog 133 [(.int .i64 a1), (.int .i64 a2)] (.int .i64 r) := by
  unfold m_cmp_Compare_int at hm
  refine Fn.of_AW (fnn := Tryz.f133) Tryz.func133 rfl (Nat.le_of_ble_eq_true rfl) (fun g0 w0 hw0 => ?_)
  refine AW.seqR ?_
  refine AL.s rfl (op_assignD (.e rfl)) ?_
  refine AL.nil ?_
  refine AW.seqR ?_
  refine AL.s rfl (op_moveD (.e rfl)) ?_
  obtain ⟨v3, hv3, hm⟩ := bindE hm
  refine AL.s rfl (op_fn Tryz.call138 (.e rfl) (.cons (.r rfl) .nil) (m_cmp_isNaN_int_ok hv3)) ?_
  refine AL.s rfl (op_assignD (.e rfl)) ?_
  refine AL.nil ?_
  refine AW.seqR ?_
  refine AL.s rfl (op_moveD (.e rfl)) ?_
  obtain ⟨v4, hv4, hm⟩ := bindE hm
  refine AL.s rfl (op_fn Tryz.call138 (.e rfl) (.cons (.r rfl) .nil) (m_cmp_isNaN_int_ok hv4)) ?_
  refine AL.s rfl (op_assignD (.e rfl)) ?_
  refine AL.nil ?_
  refine AW.seq ?_
  refine AW.seqR ?_
  refine AL.s rfl (op_moveD (.e rfl)) ?_
  refine AL.nil ?_
  refine AW.cond (b := _) rfl (fun hc1 => ?_) (fun hc1 => ?_)
  · replace hm := iteT hc1 hm
    refine AW.seq ?_
    refine AW.seqR ?_
    refine AL.s rfl (op_moveD (.e rfl)) ?_
    refine AL.nil ?_
    refine AW.cond (b := _) rfl (fun hc2 => ?_) (fun hc2 => ?_)
    · replace hm := iteT hc2 hm
      refine AW.seqR ?_
      refine AL.s rfl (op_assignD (.e rfl)) ?_
      refine AL.nil ?_
      refine AW.ret ?_
      refine tq_ret ?_
      refine tq_ret ?_
      obtain rfl := Option.some.inj hm
      exact EndQ.d (.tmp (.e rfl) .nil) rfl rfl
    · replace hm := iteF hc2 hm
      refine AW.skip ?_
      refine nq ?_
      refine AW.seqR ?_
      refine AL.s rfl (op_assignD (.e rfl)) ?_
      refine AL.nil ?_
      refine AW.ret ?_
      refine tq_ret ?_
      obtain rfl := Option.some.inj hm
      exact EndQ.d (.tmp (.e rfl) .nil) rfl rfl
  · replace hm := iteF hc1 hm
    refine AW.skip ?_
    refine nq ?_
    refine AW.seq ?_
    refine AW.seqR ?_
    refine AL.s rfl (op_moveD (.e rfl)) ?_
    refine AL.nil ?_
    refine AW.cond (b := _) rfl (fun hc3 => ?_) (fun hc3 => ?_)
    · replace hm := iteT hc3 hm
      refine AW.seqR ?_
      refine AL.s rfl (op_assignD (.e rfl)) ?_
      refine AL.nil ?_
      refine AW.ret ?_
      refine tq_ret ?_
      obtain rfl := Option.some.inj hm
      exact EndQ.d (.tmp (.e rfl) .nil) rfl rfl
    · replace hm := iteF hc3 hm
      refine AW.skip ?_
      refine nq ?_
      refine AW.seq ?_
      refine AW.seqR ?_
      refine AL.s rfl (op_moveD (.e rfl)) ?_
      refine AL.s rfl (op_moveD (.e rfl)) ?_
      refine AL.s rfl (op_lss (.r rfl) (.r rfl)) ?_
      refine AL.nil ?_
      refine AW.cond (b := _) rfl (fun hc4 => ?_) (fun hc4 => ?_)
      · replace hm := iteT hc4 hm
        refine AW.seqR ?_
        refine AL.s rfl (op_assignD (.e rfl)) ?_
        refine AL.nil ?_
        refine AW.ret ?_
        refine tq_ret ?_
        obtain rfl := Option.some.inj hm
        exact EndQ.d (.tmp (.e rfl) .nil) rfl rfl
      · replace hm := iteF hc4 hm
        refine AW.skip ?_
        refine nq ?_
        refine AW.seq ?_
        refine AW.seqR ?_
        refine AL.s rfl (op_moveD (.e rfl)) ?_
        refine AL.s rfl (op_moveD (.e rfl)) ?_
        refine AL.s rfl (op_gtr (.r rfl) (.r rfl)) ?_
        refine AL.nil ?_
        refine AW.cond (b := _) rfl (fun hc5 => ?_) (fun hc5 => ?_)
        · replace hm := iteT hc5 hm
          refine AW.reset 0 [] [] (WOK.g0 hw0 (by simp)) ⟨[], rfl, rfl, rfl, trivial, trivial, .nil⟩ ?_
          refine AW.seqR ?_
          refine AL.s rfl (op_assignD (.e rfl)) ?_
          refine AL.nil ?_
          refine AW.ret ?_
          refine tq_ret ?_
          obtain rfl := Option.some.inj hm
          exact EndQ.d (.tmp (.e rfl) .nil) rfl rfl
        · replace hm := iteF hc5 hm
          refine AW.skip ?_
          refine nq ?_
          refine AW.seqR ?_
          refine AL.s rfl (op_assignD (.e rfl)) ?_
          refine AL.nil ?_
          refine AW.ret ?_
          obtain rfl := Option.some.inj hm
          exact EndQ.d (.tmp (.e rfl) .nil) rfl rfl

set_option maxHeartbeats 20000000 in
theorem m_nat_compare_ok {n : Nat} {a1 : (List Int)} {a2 : (List Int)} {r : Int} (hm : m_nat_compare n a1 a2 = some r) : Fn Tryz.prog 123 [(.sl (a1.map D.i)), (.sl (a2.map D.i))] (.int .i64 r) := by
  unfold m_nat_compare at hm
  refine Fn.of_AW (fnn := Tryz.f123) Tryz.func123 rfl (Nat.le_of_ble_eq_true rfl) (fun g0 w0 hw0 => ?_)
  refine AW.reset 0 [(0, .d (.sl (a1.map D.i))), (1, .d (.sl (a2.map D.i)))] [] (WOK.g0 hw0 (by simp)) ⟨[], rfl, rfl, rfl, ⟨(.d rfl), (.d rfl), trivial⟩, trivial, .nil⟩ ?_
  refine AW.seqR ?_
  refine AL.s rfl (op_assignD (.e rfl)) ?_
  refine AL.nil ?_
  refine AW.seq ?_
  refine AW.seqR ?_
  refine AL.s rfl (op_moveD (.e rfl)) ?_
  refine AL.s rfl (op_lenM (f := D.i) (.r rfl) sl125) ?_
  refine AL.s rfl (op_moveD (.e rfl)) ?_
  refine AL.s rfl (op_lenM (f := D.i) (.r rfl) sl125) ?_
  refine AL.s rfl (op_neq (.r rfl) (.r rfl)) ?_
  refine AL.nil ?_
  refine AW.cond (b := _) rfl (fun hc1 => ?_) (fun hc1 => ?_)
  · replace hm := iteT hc1 hm
    refine AW.seqR ?_
    refine AL.s rfl (op_moveD (.e rfl)) ?_
    refine AL.s rfl (op_lenM (f := D.i) (.r rfl) sl125) ?_
    refine AL.s rfl (op_moveD (.e rfl)) ?_
    refine AL.s rfl (op_lenM (f := D.i) (.r rfl) sl125) ?_
    obtain ⟨v3, hv3, hm⟩ := bindE hm
    refine AL.s rfl (op_fn Tryz.call133 (.e rfl) (.cons (.r rfl) (.cons (.r rfl) .nil)) (m_cmp_Compare_int_ok hv3)) ?_
    refine AL.s rfl (op_assignD (.e rfl)) ?_
    refine AL.nil ?_
    refine AW.ret ?_
    refine tq_ret ?_
    obtain rfl := Option.some.inj hm
    exact EndQ.d (.tmp (.e rfl) .nil) rfl rfl
  · replace hm := iteF hc1 hm
    refine AW.skip ?_
    refine nq ?_
    refine AW.seq ?_
    refine AW.seqR ?_
    refine AL.s rfl (op_moveD (.e rfl)) ?_
    refine AL.s rfl (op_lenM (f := D.i) (.r rfl) sl125) ?_
    refine AL.s rfl (op_moveD (.e rfl)) ?_
    refine AL.nil ?_
    refine AW.block ?_
    obtain ⟨t_1, hI1, hk1⟩ := bindE hm
    refine AW.loopS (σ := Int) (τ := (Int ⊕ Unit)) 0 (fun x => [(0, .d (.sl (a1.map D.i))), (1, .d (.sl (a2.map D.i))), (18, .d (.int .i64 (a1.length : Int))), (19, .d (.int .i64 x))]) (fun x => []) hI1 (WOK.g0 hw0 (by simp)) ⟨[], rfl, rfl, rfl, ⟨(.d rfl), (.d rfl), (.d rfl), (.d rfl), trivial⟩, trivial, .nil⟩ ?_
    rintro n1 s4 hI1
    obtain ⟨y_1, hm, hI1⟩ := iterS hI1
    replace hm : m_nat_compare_L1 n _ _ s4 = some y_1 := hm
    unfold m_nat_compare_L1 at hm
    try dsimp only at hm
    refine AW.seqR ?_
    refine AL.s rfl (op_lss (.r rfl) (.r rfl)) ?_
    refine AL.nil ?_
    refine AW.seq ?_
    refine AW.cond (b := _) rfl (fun hc2 => ?_) (fun hc2 => ?_)
    · replace hm := iteT hc2 hm
      refine AW.skip ?_
      refine nq ?_
      refine AW.seq ?_
      refine AW.block ?_
      refine AW.seqR ?_
      refine AL.s rfl (op_moveD (.e rfl)) ?_
      refine AL.s rfl (op_assignD (.e rfl)) ?_
      refine AL.nil ?_
      refine AW.seqR ?_
      refine AL.s rfl (op_moveD (.e rfl)) ?_
      refine AL.s rfl (op_lenM (f := D.i) (.r rfl) sl125) ?_
      refine AL.s rfl (op_subw (.r rfl) (.r rfl)) ?_
      refine AL.s rfl (op_moveD (.e rfl)) ?_
      refine AL.s rfl (op_subw (.r rfl) (.r rfl)) ?_
      refine AL.s rfl (op_assignD (.e rfl)) ?_
      refine AL.nil ?_
      refine AW.seqD [([], []), ([], []), ([], []), ([], []), ([], []), ([], []), ([], []), ([], []), ([], [])] mo (by decide +kernel) ?_
      refine AD.s (ws := []) rfl rfl (fun H' _ hH => op_moveD (.e rfl)) ?_
      refine AD.s (ws := []) rfl rfl (fun H' _ hH => op_moveD (.e rfl)) ?_
      obtain ⟨v5, hv5, hm⟩ := bindE hm
      refine AD.s (ws := []) rfl rfl (fun H' _ hH => op_indexAddrM (f := D.i) (.r rfl) (.r rfl) hv5 En.i sl125) ?_
      refine AD.s (ws := []) rfl rfl (fun H' _ hH => op_load_vp1 (.e rfl) rfl sc3) ?_
      refine AD.s (ws := []) rfl rfl (fun H' _ hH => op_moveD (.e rfl)) ?_
      refine AD.s (ws := []) rfl rfl (fun H' _ hH => op_moveD (.e rfl)) ?_
      obtain ⟨v6, hv6, hm⟩ := bindE hm
      refine AD.s (ws := []) rfl rfl (fun H' _ hH => op_indexAddrM (f := D.i) (.r rfl) (.r rfl) hv6 En.i sl125) ?_
      refine AD.s (ws := []) rfl rfl (fun H' _ hH => op_load_vp1 (.e rfl) rfl sc3) ?_
      refine AD.s (ws := []) rfl rfl (fun H' _ hH => op_neq (.r rfl) (.r rfl)) ?_
      refine AD.nil ?_
      refine AW.cond (b := _) rfl (fun hc3 => ?_) (fun hc3 => ?_)
      · replace hm := iteT hc3 hm
        refine AW.seqD [([], []), ([], []), ([], []), ([], []), ([], []), ([], []), ([], []), ([], []), ([], []), ([], [])] mo (by decide +kernel) ?_
        refine AD.s (ws := []) rfl rfl (fun H' _ hH => op_moveD (.e rfl)) ?_
        refine AD.s (ws := []) rfl rfl (fun H' _ hH => op_moveD (.e rfl)) ?_
        obtain ⟨v7, hv7, hm⟩ := bindE hm
        refine AD.s (ws := []) rfl rfl (fun H' _ hH => op_indexAddrM (f := D.i) (.r rfl) (.r rfl) hv7 En.i sl125) ?_
        refine AD.s (ws := []) rfl rfl (fun H' _ hH => op_load_vp1 (.e rfl) rfl sc3) ?_
        refine AD.s (ws := []) rfl rfl (fun H' _ hH => op_moveD (.e rfl)) ?_
        refine AD.s (ws := []) rfl rfl (fun H' _ hH => op_moveD (.e rfl)) ?_
        obtain ⟨v8, hv8, hm⟩ := bindE hm
        refine AD.s (ws := []) rfl rfl (fun H' _ hH => op_indexAddrM (f := D.i) (.r rfl) (.r rfl) hv8 En.i sl125) ?_
        refine AD.s (ws := []) rfl rfl (fun H' _ hH => op_load_vp1 (.e rfl) rfl sc3) ?_
        obtain ⟨v9, hv9, hm⟩ := bindE hm
        refine AD.s (ws := []) rfl rfl (fun H' _ hH => op_fn Tryz.call133 (.e rfl) (.cons (.r rfl) (.cons (.r rfl) .nil)) (m_cmp_Compare_int_ok hv9)) ?_
        refine AD.s (ws := []) rfl rfl (fun H' _ hH => op_assignD (.e rfl)) ?_
        refine AD.nil ?_
        refine AW.ret ?_
        refine bq_ret ?_
        refine tq_ret ?_
        refine tq_ret ?_
        obtain rfl := Option.some.inj hm
        obtain rfl := Option.some.inj hI1
        replace hm := hk1
        try dsimp only at hm
        refine bq_ret ?_
        refine tq_ret ?_
        obtain rfl := Option.some.inj hm
        exact EndQ.d (.tmp (.e rfl) .nil) rfl rfl
      · replace hm := iteF hc3 hm
        refine AW.skip ?_
        refine bq_n ?_
        refine nq ?_
        refine AW.region ?_
        refine AL.s rfl (op_addw (.r rfl) (.r rfl)) ?_
        refine AL.s rfl (op_moveD (.e rfl)) ?_
        refine AL.nil ?_
        obtain rfl := Option.some.inj hm
        exact nq ⟨_, hI1, ⟨[], rfl, rfl, rfl, ⟨(.d rfl), (.d rfl), (.d rfl), (.d rfl), trivial⟩, trivial, .nil⟩⟩
    · replace hm := iteF hc2 hm
      refine AW.exit ?_
      refine tq_exit ?_
      refine tq_exit ?_
      obtain rfl := Option.some.inj hm
      obtain rfl := Option.some.inj hI1
      replace hm := hk1
      try dsimp only at hm
      refine bq_hit ?_
      refine nq ?_
      refine AW.seqR ?_
      refine AL.s rfl (op_assignD (.e rfl)) ?_
      refine AL.nil ?_
      refine AW.ret ?_
      obtain rfl := Option.some.inj hm
      exact EndQ.d (.tmp (.e rfl) .nil) rfl rfl

set_option maxHeartbeats 20000000 in
theorem m_nat_Compare_ok {n : Nat} {a1 : (List Int)} {a2 : (List Int)} {r : Int} (hm : m_nat_Compare n a1 a2 = some r) : Fn Tryz.prog 101 [(.sl (a1.map D.i)), (.sl (a2.map D.i))] (.int .i64 r) := by
  unfold m_nat_Compare at hm
  refine Fn.of_AW (fnn := Tryz.f101) Tryz.func101 rfl (Nat.le_of_ble_eq_true rfl) (fun g0 w0 hw0 => ?_)
  refine AW.seqR ?_
  refine AL.s rfl (op_assignD (.e rfl)) ?_
  refine AL.nil ?_
  refine AW.seq ?_
  refine AW.seqR ?_
  refine AL.s rfl (op_moveD (.e rfl)) ?_
  obtain ⟨v3, hv3, hm⟩ := bindE hm
  refine AL.s rfl (op_fn Tryz.call119 (.e rfl) (.cons (.r rfl) .nil) (m_nat_Valid_ok hv3)) ?_
  refine AL.s rfl (op_not (.r rfl)) ?_
  refine AL.s rfl (op_moveD (.e rfl)) ?_
  refine AL.sF rfl rfl rfl rfl (fun g => op_moveD (.e rfl)) ?_
  obtain ⟨v4, hv4, hm⟩ := bindE hm
  refine AL.sF rfl rfl rfl rfl (fun g => op_fn Tryz.call119 (.e rfl) (.cons (.we (nt g) rfl rfl) .nil) (m_nat_Valid_ok (iteT (nt g) hv4))) ?_
  refine AL.sF rfl rfl rfl rfl (fun g => op_not (.we (nt g) rfl rfl)) ?_
  refine AL.s rfl (op_or (.r rfl) rfl (fun h => (.we (nt h) rfl rfl))) ?_
  refine AL.nil ?_
  refine AW.cond (b := _) rfl (fun hc1 => ?_) (fun hc1 => ?_)
  · replace hm := iteT hc1 hm
    refine AW.seqR ?_
    refine AL.s rfl (op_assignD (.e rfl)) ?_
    refine AL.nil ?_
    refine AW.ret ?_
    refine tq_ret ?_
    obtain rfl := Option.some.inj hm
    exact EndQ.d (.tmp (.e rfl) .nil) rfl rfl
  · replace hm := iteF hc1 hm
    refine AW.skip ?_
    refine nq ?_
    refine AW.seqR ?_
    refine AL.s rfl (op_moveD (.e rfl)) ?_
    refine AL.s rfl (op_moveD (.e rfl)) ?_
    obtain ⟨v5, hv5, hm⟩ := bindE hm
    refine AL.s rfl (op_fn Tryz.call123 (.e rfl) (.cons (.r rfl) (.cons (.r rfl) .nil)) (m_nat_compare_ok hv5)) ?_
    refine AL.s rfl (op_assignD (.e rfl)) ?_
    refine AL.nil ?_
    refine AW.ret ?_
    obtain rfl := Option.some.inj hm
    exact EndQ.d (.tmp (.e rfl) .nil) rfl rfl

set_option maxHeartbeats 20000000 in
theorem m_odds_floor_ok {n : Nat} {a1 : (List Int)} {a2 : (List Int)} {r : Int} (hm : m_odds_floor n a1 a2 = some r) : Fn Tryz.prog 72 [(.sl (a1.map D.i)), (.sl (a2.map D.i))] (.int .i64 r) := by
  unfold m_odds_floor at hm
  refine Fn.of_AW (fnn := Tryz.f72) Tryz.func72 rfl (Nat.le_of_ble_eq_true rfl) (fun g0 w0 hw0 => ?_)
  refine AW.reset 0 [(0, .d (.sl (a1.map D.i))), (1, .d (.sl (a2.map D.i)))] [] (WOK.g0 hw0 (by simp)) ⟨[], rfl, rfl, rfl, ⟨(.d rfl), (.d rfl), trivial⟩, trivial, .nil⟩ ?_
  refine AW.seqR ?_
  refine AL.s rfl (op_assignD (.e rfl)) ?_
  refine AL.nil ?_
  refine AW.seqR ?_
  refine AL.s rfl (op_moveD (.e rfl)) ?_
  obtain ⟨v3, hv3, hm⟩ := bindE hm
  refine AL.s rfl (op_fn Tryz.call99 (.e rfl) (.cons (.r rfl) .nil) (m_nat_Bits_ok hv3)) ?_
  refine AL.s rfl (op_moveD (.e rfl)) ?_
  obtain ⟨v4, hv4, hm⟩ := bindE hm
  refine AL.s rfl (op_fn Tryz.call99 (.e rfl) (.cons (.r rfl) .nil) (m_nat_Bits_ok hv4)) ?_
  refine AL.s rfl (op_subw (.r rfl) (.r rfl)) ?_
  refine AL.s rfl (op_assignD (.e rfl)) ?_
  refine AL.nil ?_
  refine AW.seqR ?_
  refine AL.s rfl (op_moveD (.e rfl)) ?_
  refine AL.s rfl (op_moveD (.e rfl)) ?_
  refine AL.s rfl (op_max (.r rfl) (.r rfl)) ?_
  obtain ⟨v5, hv5, hm⟩ := bindE hm
  refine AL.s rfl (op_fn Tryz.call100 (.e rfl) (.cons (.r rfl) (.cons (.r rfl) .nil)) (m_nat_Shift_ok hv5)) ?_
  refine AL.s rfl (op_moveD (.e rfl)) ?_
  refine AL.s rfl (op_extractD (.e rfl) rfl) ?_
  refine AL.s rfl (op_extractD (.e rfl) rfl) ?_
  refine AL.s rfl (op_assignD (.e rfl)) ?_
  refine AL.s rfl (op_assignD (.e rfl)) ?_
  refine AL.nil ?_
  refine AW.seqR ?_
  refine AL.s rfl (op_moveD (.e rfl)) ?_
  refine AL.s rfl (op_moveD (.e rfl)) ?_
  refine AL.s rfl (op_negw (.r rfl)) ?_
  refine AL.s rfl (op_max (.r rfl) (.r rfl)) ?_
  obtain ⟨v6, hv6, hm⟩ := bindE hm
  refine AL.s rfl (op_fn Tryz.call100 (.e rfl) (.cons (.r rfl) (.cons (.r rfl) .nil)) (m_nat_Shift_ok hv6)) ?_
  refine AL.s rfl (op_moveD (.e rfl)) ?_
  refine AL.s rfl (op_extractD (.e rfl) rfl) ?_
  refine AL.s rfl (op_extractD (.e rfl) rfl) ?_
  refine AL.s rfl (op_assignD (.e rfl)) ?_
  refine AL.s rfl (op_assignD (.e rfl)) ?_
  refine AL.nil ?_
  obtain ⟨t_j1, hm, hkj1⟩ := bindE hm
  refine AW.cutS (α := Int) 0 (fun x => x = t_j1) (fun x => [(5, .d (.int .i64 x))]) (fun x => []) (WOK.g0 hw0 (by simp)) ?_ ?_
  · skip
    refine AW.seqR ?_
    refine AL.s rfl (op_moveD (.e rfl)) ?_
    refine AL.s rfl (op_moveD (.e rfl)) ?_
    obtain ⟨v7, hv7, hm⟩ := bindE hm
    refine AL.s rfl (op_fn Tryz.call101 (.e rfl) (.cons (.r rfl) (.cons (.r rfl) .nil)) (m_nat_Compare_ok hv7)) ?_
    refine AL.s rfl (op_gtr (.r rfl) (.r rfl)) ?_
    refine AL.nil ?_
    refine AW.cond (b := _) rfl (fun hc1 => ?_) (fun hc1 => ?_)
    · replace hm := iteT hc1 hm
      refine AW.region ?_
      refine AL.s rfl (op_moveD (.e rfl)) ?_
      refine AL.s rfl (op_subw (.r rfl) (.r rfl)) ?_
      refine AL.s rfl (op_assignD (.e rfl)) ?_
      refine AL.nil ?_
      obtain rfl := Option.some.inj hm
      exact nq ⟨_, rfl, ⟨[], rfl, rfl, rfl, ⟨(.d rfl), trivial⟩, trivial, .nil⟩⟩
    · replace hm := iteF hc1 hm
      refine AW.skip ?_
      obtain rfl := Option.some.inj hm
      exact nq ⟨_, rfl, ⟨[], rfl, rfl, rfl, ⟨(.d rfl), trivial⟩, trivial, .nil⟩⟩
  · rintro s8 rfl
    replace hm := hkj1
    try dsimp only at hm
    refine AW.seqR ?_
    refine AL.s rfl (op_moveD (.e rfl)) ?_
    refine AL.s rfl (op_assignD (.e rfl)) ?_
    refine AL.nil ?_
    refine AW.ret ?_
    obtain rfl := Option.some.inj hm
    exact EndQ.d (.tmp (.e rfl) .nil) rfl rfl

set_option maxHeartbeats 20000000 in
theorem m_odds_Weight_ok {n : Nat} {a1 : (List SRatio)} {r : (Int × Int)} (hm : m_odds_Weight n a1 = some r) : Fn Tryz.prog 35 [(.sl (a1.map SRatio.e))] (.tup [(.int .i64 r.1), (.int .i64 r.2)]) := by
  unfold m_odds_Weight at hm
  refine Fn.of_AW (fnn := Tryz.f35) Tryz.func35 rfl (Nat.le_of_ble_eq_true rfl) (fun g0 w0 hw0 => ?_)
  refine AW.seqR ?_
  refine AL.s rfl (op_assignD (.e rfl)) ?_
  refine AL.s rfl (op_assignD (.e rfl)) ?_
  refine AL.nil ?_
  refine AW.seq ?_
  refine AW.seqR ?_
  refine AL.s rfl (op_moveD (.e rfl)) ?_
  obtain ⟨v2, hv2, hm⟩ := bindE hm
  refine AL.s rfl (op_fn Tryz.call39 (.e rfl) (.cons (.r rfl) .nil) (m_odds_Valid_ok hv2)) ?_
  refine AL.s rfl (op_not (.r rfl)) ?_
  refine AL.nil ?_
  refine AW.cond (b := _) rfl (fun hc1 => ?_) (fun hc1 => ?_)
  · replace hm := iteT hc1 hm
    refine AW.seqR ?_
    refine AL.s rfl (op_assignD (.e rfl)) ?_
    refine AL.s rfl (op_assignD (.e rfl)) ?_
    refine AL.nil ?_
    refine AW.ret ?_
    refine tq_ret ?_
    obtain rfl := Option.some.inj hm
    exact EndQ.d (.tmp (.e rfl) (.tmp (.e rfl) .nil)) rfl rfl
  · replace hm := iteF hc1 hm
    refine AW.skip ?_
    refine nq ?_
    refine AW.seqR ?_
    refine AL.s rfl (op_moveD (.e rfl)) ?_
    obtain ⟨v3, hv3, hm⟩ := bindE hm
    refine AL.s rfl (op_fn Tryz.call71 (.e rfl) (.cons (.r rfl) .nil) (m_odds_parts_ok hv3)) ?_
    refine AL.s rfl (op_moveD (.e rfl)) ?_
    refine AL.s rfl (op_extractD (.e rfl) rfl) ?_
    refine AL.s rfl (op_extractD (.e rfl) rfl) ?_
    refine AL.s rfl (op_assignD (.e rfl)) ?_
    refine AL.s rfl (op_assignD (.e rfl)) ?_
    refine AL.nil ?_
    refine AW.seqR ?_
    refine AL.s rfl (op_moveD (.e rfl)) ?_
    obtain ⟨v4, hv4, hm⟩ := bindE hm
    refine AL.s rfl (op_fn Tryz.call73 (.e rfl) (.cons (.r rfl) .nil) (m_odds_eighth_ok hv4)) ?_
    refine AL.s rfl (op_moveD (.e rfl)) ?_
    obtain ⟨v5, hv5, hm⟩ := bindE hm
    refine AL.s rfl (op_fn Tryz.call73 (.e rfl) (.cons (.r rfl) .nil) (m_odds_eighth_ok hv5)) ?_
    obtain ⟨v6, hv6, hm⟩ := bindE hm
    refine AL.s rfl (op_fn Tryz.call72 (.e rfl) (.cons (.r rfl) (.cons (.r rfl) .nil)) (m_odds_floor_ok hv6)) ?_
    refine AL.s rfl (op_assignD (.e rfl)) ?_
    refine AL.s rfl (op_assignD (.e rfl)) ?_
    refine AL.nil ?_
    refine AW.ret ?_
    obtain rfl := Option.some.inj hm
    exact EndQ.d (.tmp (.e rfl) (.tmp (.e rfl) .nil)) rfl rfl

set_option maxHeartbeats 20000000 in
theorem m_match_Weight_ok {n : Nat} {a1 : A72} {a2 : A7} {r : (Int × Int)} (hm : m_match_Weight n a1 a2 = some r) : Fn Tryz.prog 14 [(A72.e a1), (A7.e a2)] (.tup [(.int .i64 r.1), (.int .i64 r.2)]) := by
  unfold m_match_Weight at hm
  refine Fn.of_AW (fnn := Tryz.f14) Tryz.func14 rfl (Nat.le_of_ble_eq_true rfl) (fun g0 w0 hw0 => ?_)
  refine AW.seqR ?_
  refine AL.s rfl (op_box (n := 0) (.e rfl) rfl rfl rfl) ?_
  refine AL.s rfl (op_box (n := 1) (.e rfl) rfl rfl rfl) ?_
  refine AL.s rfl (op_assignD (.e rfl)) ?_
  refine AL.s rfl (op_assignD (.e rfl)) ?_
  refine AL.nil ?_
  refine AW.seqR ?_
  refine AL.s rfl (op_load_ptrA (.e rfl) rfl rfl rfl ag52) ?_
  refine AL.s rfl (op_load_ptrA (.e rfl) rfl rfl rfl ag29) ?_
  obtain ⟨v3, hv3, hm⟩ := bindE hm
  refine AL.s rfl (op_fn Tryz.call34 (.e rfl) (.cons (.r rfl) (.cons (.r rfl) .nil)) (m_match_Factors_ok hv3)) ?_
  refine AL.s rfl (op_moveD (.e rfl)) ?_
  refine AL.s rfl (op_extractD (.e rfl) rfl) ?_
  refine AL.s rfl (op_extractD (.e rfl) rfl) ?_
  refine AL.s rfl (op_assignD (.e rfl)) ?_
  refine AL.s rfl (op_assignD (.e rfl)) ?_
  refine AL.nil ?_
  refine AW.seq ?_
  refine AW.seqR ?_
  refine AL.s rfl (op_moveD (.e rfl)) ?_
  refine AL.s rfl (op_neq (.r rfl) (.r rfl)) ?_
  refine AL.nil ?_
  refine AW.cond (b := _) rfl (fun hc1 => ?_) (fun hc1 => ?_)
  · replace hm := iteT hc1 hm
    refine AW.seqR ?_
    refine AL.s rfl (op_moveD (.e rfl)) ?_
    refine AL.s rfl (op_assignD (.e rfl)) ?_
    refine AL.s rfl (op_assignD (.e rfl)) ?_
    refine AL.nil ?_
    refine AW.ret ?_
    refine tq_ret ?_
    obtain rfl := Option.some.inj hm
    exact EndQ.d (.tmp (.e rfl) (.tmp (.e rfl) .nil)) rfl rfl
  · replace hm := iteF hc1 hm
    refine AW.skip ?_
    refine nq ?_
    refine AW.seqR ?_
    refine AL.s rfl (op_moveD (.e rfl)) ?_
    obtain ⟨v4, hv4, hm⟩ := bindE hm
    refine AL.s rfl (op_fn Tryz.call35 (.e rfl) (.cons (.r rfl) .nil) (m_odds_Weight_ok hv4)) ?_
    refine AL.s rfl (op_extractD (.e rfl) rfl) ?_
    refine AL.s rfl (op_extractD (.e rfl) rfl) ?_
    refine AL.s rfl (op_assignD (.e rfl)) ?_
    refine AL.s rfl (op_assignD (.e rfl)) ?_
    refine AL.nil ?_
    refine AW.ret ?_
    obtain rfl := Option.some.inj hm
    exact EndQ.d (.tmp (.e rfl) (.tmp (.e rfl) .nil)) rfl rfl

set_option maxHeartbeats 20000000 in
theorem m_match_Editions_ok {n : Nat} {r : A72} (hm : m_match_Editions n  = some r) : Fn Tryz.prog 17 [] (A72.e r) := by
  unfold m_match_Editions at hm
  refine Fn.of_AW (fnn := Tryz.f17) Tryz.func17 rfl (Nat.le_of_ble_eq_true rfl) (fun g0 w0 hw0 => ?_)
  refine AW.seqR ?_
  refine AL.s rfl (op_alloc (n := 0) zr52 rfl) ?_
  refine AL.nil ?_
  refine AW.seqR ?_
  refine AL.s rfl (op_buildArrF ba87 (.cons (.e rfl) rfl rfl rfl rfl (Nat.le_of_ble_eq_true rfl) (.cons (.e rfl) rfl rfl rfl rfl (Nat.le_of_ble_eq_true rfl) (.cons (.e rfl) rfl rfl rfl rfl (Nat.le_of_ble_eq_true rfl) (.cons (.e rfl) rfl rfl rfl rfl (Nat.le_of_ble_eq_true rfl) (.cons (.e rfl) rfl rfl rfl rfl (Nat.le_of_ble_eq_true rfl) (.cons (.e rfl) rfl rfl rfl rfl (Nat.le_of_ble_eq_true rfl) .nil)))))) rfl rfl) ?_
  refine AL.s rfl (op_buildArrF ba87 (.cons (.e rfl) rfl rfl rfl rfl (Nat.le_of_ble_eq_true rfl) (.cons (.e rfl) rfl rfl rfl rfl (Nat.le_of_ble_eq_true rfl) (.cons (.e rfl) rfl rfl rfl rfl (Nat.le_of_ble_eq_true rfl) (.cons (.e rfl) rfl rfl rfl rfl (Nat.le_of_ble_eq_true rfl) (.cons (.e rfl) rfl rfl rfl rfl (Nat.le_of_ble_eq_true rfl) (.cons (.e rfl) rfl rfl rfl rfl (Nat.le_of_ble_eq_true rfl) .nil)))))) rfl rfl) ?_
  refine AL.s rfl (op_buildArrF ba87 (.cons (.e rfl) rfl rfl rfl rfl (Nat.le_of_ble_eq_true rfl) (.cons (.e rfl) rfl rfl rfl rfl (Nat.le_of_ble_eq_true rfl) (.cons (.e rfl) rfl rfl rfl rfl (Nat.le_of_ble_eq_true rfl) (.cons (.e rfl) rfl rfl rfl rfl (Nat.le_of_ble_eq_true rfl) (.cons (.e rfl) rfl rfl rfl rfl (Nat.le_of_ble_eq_true rfl) (.cons (.e rfl) rfl rfl rfl rfl (Nat.le_of_ble_eq_true rfl) .nil)))))) rfl rfl) ?_
  refine AL.s rfl (op_buildArrF ba87 (.cons (.e rfl) rfl rfl rfl rfl (Nat.le_of_ble_eq_true rfl) (.cons (.e rfl) rfl rfl rfl rfl (Nat.le_of_ble_eq_true rfl) (.cons (.e rfl) rfl rfl rfl rfl (Nat.le_of_ble_eq_true rfl) (.cons (.e rfl) rfl rfl rfl rfl (Nat.le_of_ble_eq_true rfl) (.cons (.e rfl) rfl rfl rfl rfl (Nat.le_of_ble_eq_true rfl) (.cons (.e rfl) rfl rfl rfl rfl (Nat.le_of_ble_eq_true rfl) .nil)))))) rfl rfl) ?_
  refine AL.s rfl (op_buildArrF ba87 (.cons (.e rfl) rfl rfl rfl rfl (Nat.le_of_ble_eq_true rfl) (.cons (.e rfl) rfl rfl rfl rfl (Nat.le_of_ble_eq_true rfl) (.cons (.e rfl) rfl rfl rfl rfl (Nat.le_of_ble_eq_true rfl) (.cons (.e rfl) rfl rfl rfl rfl (Nat.le_of_ble_eq_true rfl) (.cons (.e rfl) rfl rfl rfl rfl (Nat.le_of_ble_eq_true rfl) (.cons (.e rfl) rfl rfl rfl rfl (Nat.le_of_ble_eq_true rfl) .nil)))))) rfl rfl) ?_
  refine AL.s rfl (op_buildArrF ba87 (.cons (.e rfl) rfl rfl rfl rfl (Nat.le_of_ble_eq_true rfl) (.cons (.e rfl) rfl rfl rfl rfl (Nat.le_of_ble_eq_true rfl) (.cons (.e rfl) rfl rfl rfl rfl (Nat.le_of_ble_eq_true rfl) (.cons (.e rfl) rfl rfl rfl rfl (Nat.le_of_ble_eq_true rfl) (.cons (.e rfl) rfl rfl rfl rfl (Nat.le_of_ble_eq_true rfl) (.cons (.e rfl) rfl rfl rfl rfl (Nat.le_of_ble_eq_true rfl) .nil)))))) rfl rfl) ?_
  refine AL.s rfl (op_buildArrF ba87 (.cons (.e rfl) rfl rfl rfl rfl (Nat.le_of_ble_eq_true rfl) (.cons (.e rfl) rfl rfl rfl rfl (Nat.le_of_ble_eq_true rfl) (.cons (.e rfl) rfl rfl rfl rfl (Nat.le_of_ble_eq_true rfl) (.cons (.e rfl) rfl rfl rfl rfl (Nat.le_of_ble_eq_true rfl) (.cons (.e rfl) rfl rfl rfl rfl (Nat.le_of_ble_eq_true rfl) (.cons (.e rfl) rfl rfl rfl rfl (Nat.le_of_ble_eq_true rfl) .nil)))))) rfl rfl) ?_
  refine AL.s rfl (op_buildArrF ba88 (.cons (.e rfl) rfl rfl rfl rfl (Nat.le_of_ble_eq_true rfl) (.cons (.e rfl) rfl rfl rfl rfl (Nat.le_of_ble_eq_true rfl) (.cons (.e rfl) rfl rfl rfl rfl (Nat.le_of_ble_eq_true rfl) (.cons (.e rfl) rfl rfl rfl rfl (Nat.le_of_ble_eq_true rfl) (.cons (.e rfl) rfl rfl rfl rfl (Nat.le_of_ble_eq_true rfl) (.cons (.e rfl) rfl rfl rfl rfl (Nat.le_of_ble_eq_true rfl) (.cons (.e rfl) rfl rfl rfl rfl (Nat.le_of_ble_eq_true rfl) .nil))))))) rfl rfl) ?_
  obtain ⟨v1, hv1, hm⟩ := bindE hm
  refine AL.s rfl (op_fn Tryz.call36 (.e rfl) (.cons (.r rfl) .nil) (m_match_model_ok hv1)) ?_
  refine AL.s rfl (op_store (.e rfl) (.e rfl) rfl rfl rfl ⟨_, rfl, rfl⟩ rfl (Nat.le_of_ble_eq_true rfl)) ?_
  refine AL.nil ?_
  refine AW.ret ?_
  obtain rfl := Option.some.inj hm
  exact EndQ.d (.cellA (.e rfl) rfl rfl rfl ag52 .nil) rfl rfl

set_option maxHeartbeats 20000000 in
theorem m_law31_awake_ok {n : Nat} {r : Bool} (hm : m_law31_awake n  = some r) : Fn Tryz.prog 5 [] (.bool r) := by
  unfold m_law31_awake at hm
  refine Fn.of_AW (fnn := Tryz.f5) Tryz.func5 rfl (Nat.le_of_ble_eq_true rfl) (fun g0 w0 hw0 => ?_)
  refine AW.reset 0 [] [] (WOK.g0 hw0 (by simp)) ⟨[], rfl, rfl, rfl, trivial, trivial, .nil⟩ ?_
  refine AW.seqR ?_
  refine AL.s rfl (op_assignD (.e rfl)) ?_
  refine AL.nil ?_
  refine AW.seqR ?_
  refine AL.s rfl (op_buildSlice (ds := ([([102, 97, 117, 115, 116] : List UInt8)] : List (List UInt8)).map D.str) sl22 (.cons (.r rfl) rfl (En.str.one _) .nil) rfl (by decide)) ?_
  refine AL.s rfl (op_build bd33 (.cons (.e rfl) rfl rfl rfl rfl (Nat.le_of_ble_eq_true rfl) (.cons (.e rfl) rfl rfl rfl rfl (Nat.le_of_ble_eq_true rfl) (.cons (.e rfl) rfl rfl rfl rfl (Nat.le_of_ble_eq_true rfl) .nil)))) ?_
  refine AL.s rfl (op_alloc (n := 0) zr33 rfl) ?_
  refine AL.s rfl (op_storeA (.e rfl) (.e rfl) rfl rfl ⟨_, rfl, rfl⟩ rfl (Nat.le_of_ble_eq_true rfl)) ?_
  refine AL.nil ?_
  refine AW.seqR ?_
  refine AL.s rfl (op_buildSlice (ds := ([([102, 97, 117, 115, 116] : List UInt8)] : List (List UInt8)).map D.str) sl22 (.cons (.r rfl) rfl (En.str.one _) .nil) rfl (by decide)) ?_
  refine AL.s rfl (op_build bd33 (.cons (.e rfl) rfl rfl rfl rfl (Nat.le_of_ble_eq_true rfl) (.cons (.e rfl) rfl rfl rfl rfl (Nat.le_of_ble_eq_true rfl) (.cons (.e rfl) rfl rfl rfl rfl (Nat.le_of_ble_eq_true rfl) .nil)))) ?_
  refine AL.s rfl (op_alloc (n := 1) zr33 rfl) ?_
  refine AL.s rfl (op_storeA (.e rfl) (.e rfl) rfl rfl ⟨_, rfl, rfl⟩ rfl (Nat.le_of_ble_eq_true rfl)) ?_
  refine AL.nil ?_
  refine AW.seqR ?_
  refine AL.s rfl (op_load_ptrA (.e rfl) rfl rfl rfl ag33) ?_
  refine AL.s rfl (op_load_ptrA (.e rfl) rfl rfl rfl ag33) ?_
  obtain ⟨v1, hv1, hm⟩ := bindE hm
  refine AL.s rfl (op_fn Tryz.call7 (.e rfl) (.cons (.r rfl) (.cons (.r rfl) .nil)) (m_match_Compare_ok hv1)) ?_
  refine AL.s rfl (op_moveD (.e rfl)) ?_
  refine AL.s rfl (op_extractD (.e rfl) rfl) ?_
  refine AL.s rfl (op_extractD (.e rfl) rfl) ?_
  refine AL.s rfl (op_alloc (n := 2) zr29 rfl) ?_
  refine AL.s rfl (op_store (.e rfl) (.e rfl) rfl rfl rfl ⟨_, rfl, rfl⟩ rfl (Nat.le_of_ble_eq_true rfl)) ?_
  refine AL.s rfl (op_assignD (.e rfl)) ?_
  refine AL.nil ?_
  refine AW.seqD [([], []), ([2], []), ([], []), ([], []), ([], []), ([], []), ([], []), ([], [])] mo (by decide +kernel) ?_
  obtain ⟨v2, hv2, hm⟩ := bindE hm
  refine AD.s (ws := []) rfl rfl (fun H' _ hH => op_fn Tryz.call15 (.e rfl) .nil (m_match_Works_ok hv2)) ?_
  refine AD.s (ws := []) rfl rfl (fun H' _ hH => op_load_ptrA (.e rfl) ((hH _ (by simp)).trans rfl) rfl rfl ag29) ?_
  obtain ⟨v3, hv3, hm⟩ := bindE hm
  refine AD.s (ws := []) rfl rfl (fun H' _ hH => op_fn Tryz.call14 (.e rfl) (.cons (.r rfl) (.cons (.r rfl) .nil)) (m_match_Weight_ok hv3)) ?_
  refine AD.s (ws := []) rfl rfl (fun H' _ hH => op_moveD (.e rfl)) ?_
  refine AD.s (ws := []) rfl rfl (fun H' _ hH => op_extractD (.e rfl) rfl) ?_
  refine AD.s (ws := []) rfl rfl (fun H' _ hH => op_extractD (.e rfl) rfl) ?_
  refine AD.s (ws := []) rfl rfl (fun H' _ hH => op_assignD (.e rfl)) ?_
  refine AD.s (ws := []) rfl rfl (fun H' _ hH => op_assignD (.e rfl)) ?_
  refine AD.nil ?_
  refine AW.seqR ?_
  refine AL.s rfl (op_moveD (.e rfl)) ?_
  refine AL.s rfl (op_eql (.r rfl) (.r rfl)) ?_
  refine AL.s rfl (op_moveD (.e rfl)) ?_
  refine AL.sT rfl rfl rfl rfl (fun g => op_moveD (.e rfl)) ?_
  refine AL.sT rfl rfl rfl rfl (fun g => op_eql (.we g rfl rfl) (.r rfl)) ?_
  refine AL.s rfl (op_and (.r rfl) (fun h => (.we h rfl rfl)) rfl) ?_
  refine AL.s rfl (op_moveD (.e rfl)) ?_
  refine AL.sT rfl rfl rfl rfl (fun g => op_moveD (.e rfl)) ?_
  refine AL.sT rfl rfl rfl rfl (fun g => op_eql (.we g rfl rfl) (.r rfl)) ?_
  refine AL.s rfl (op_and (.r rfl) (fun h => (.we h rfl rfl)) rfl) ?_
  refine AL.s rfl (op_moveD (.e rfl)) ?_
  refine AL.sT rfl rfl rfl rfl (fun g => op_load_ptrA (.e rfl) rfl rfl rfl ag29) ?_
  refine AL.sT rfl rfl rfl rfl (fun g => op_buildArr ba29 (.cons (.e rfl) rfl rfl rfl rfl (Nat.le_of_ble_eq_true rfl) (.cons (.e rfl) rfl rfl rfl rfl (Nat.le_of_ble_eq_true rfl) .nil))) ?_
  refine AL.sT rfl rfl rfl rfl (fun g => op_eqlSt (a := v1.1) (b := (⟨(1 : Int), (1 : Int), (0 : Int), (0 : Int), (0 : Int), (0 : Int), (0 : Int)⟩ : A7)) es29 (.we g rfl rfl) (.we g rfl rfl)) ?_
  refine AL.s rfl (op_and (.r rfl) (fun h => (.we h rfl rfl)) rfl) ?_
  refine AL.s rfl (op_moveD (.e rfl)) ?_
  obtain ⟨v4, hv4, hm⟩ := bindE hm
  refine AL.sT rfl rfl rfl rfl (fun g => op_fn Tryz.call17 (.e rfl) .nil (m_match_Editions_ok (iteT g hv4))) ?_
  obtain ⟨v5, hv5, hm⟩ := bindE hm
  refine AL.sT rfl rfl rfl rfl (fun g => op_fn Tryz.call16 (.e rfl) (.cons (.we g rfl rfl) .nil) (m_match_Valid_ok (iteT g hv5))) ?_
  refine AL.s rfl (op_and (.r rfl) (fun h => (.we h rfl rfl)) rfl) ?_
  refine AL.s rfl (op_assignD (.e rfl)) ?_
  refine AL.nil ?_
  refine AW.ret ?_
  obtain rfl := Option.some.inj hm
  exact EndQ.d (.tmp (.e rfl) .nil) rfl rfl

set_option maxHeartbeats 20000000 in
theorem m_ref29_Few_ok {n : Nat} {a1 : SFeatures} {r : Bool} (hm : m_ref29_Few n a1 = some r) : Fn Tryz.prog 6 [(SFeatures.e a1)] (.bool r) := by
  unfold m_ref29_Few at hm
  refine Fn.of_AW (fnn := Tryz.f6) Tryz.func6 rfl (Nat.le_of_ble_eq_true rfl) (fun g0 w0 hw0 => ?_)
  refine AW.reset 0 [(0, .d (SFeatures.e a1))] [] (WOK.g0 hw0 (by simp)) ⟨[], rfl, rfl, rfl, ⟨(.d rfl), trivial⟩, trivial, .nil⟩ ?_
  refine AW.seqR ?_
  refine AL.s rfl (op_box (n := 0) (.e rfl) rfl rfl rfl) ?_
  refine AL.s rfl (op_assignD (.e rfl)) ?_
  refine AL.nil ?_
  refine AW.free ?_
  refine AW.free ?_
  refine AW.free ?_
  refine AW.free ?_
  refine AW.free ?_
  refine AW.seqD [([], []), ([0], []), ([], []), ([], []), ([0], []), ([], [1]), ([], []), ([0], []), ([1], [1]), ([], []), ([0], []), ([1], [1]), ([], []), ([0], []), ([1], [1]), ([], []), ([0], []), ([1], [1]), ([], [])] mo (by decide +kernel) ?_
  refine AD.s (ws := []) rfl rfl (fun H' _ hH => op_field_ptr (.e rfl) fd25_2) ?_
  refine AD.s (ws := []) rfl rfl (fun H' _ hH => op_load_ptr1 (.e rfl) ((hH _ (by simp)).trans rfl) rfl sc9) ?_
  refine AD.s (ws := []) rfl rfl (fun H' _ hH => op_buildSlice (ds := ([a1.fAuthor] : List (List UInt8)).map D.str) sl22 (.cons (.r rfl) rfl (En.str.one _) .nil) rfl (by decide)) ?_
  refine AD.s (ws := []) rfl rfl (fun H' _ hH => op_field_ptr (.e rfl) fd25_1) ?_
  refine AD.s (ws := []) rfl rfl (fun H' _ hH => op_load_ptr1 (.e rfl) ((hH _ (by simp)).trans rfl) rfl sc22) ?_
  obtain ⟨v2, hv2, hm⟩ := bindE hm
  refine AD.s (ws := [(1, _)]) rfl rfl (fun H' _ hH => op_appendERM (res := 1) (f := D.str) (l := ([a1.fAuthor] : List (List UInt8))) (l' := a1.fTitle) sl22 (.e rfl) (.r rfl) ((hH _ (by simp)).trans rfl) En.str hv2) ?_
  refine AD.s (ws := []) rfl rfl (fun H' _ hH => op_field_ptr (.e rfl) fd25_4) ?_
  refine AD.s (ws := []) rfl rfl (fun H' _ hH => op_load_ptr1 (.e rfl) ((hH _ (by simp)).trans rfl) rfl sc22) ?_
  obtain ⟨v3, hv3, hm⟩ := bindE hm
  refine AD.s (ws := [(1, _)]) rfl rfl (fun H' _ hH => op_appendM (f := D.str) (l' := a1.fIsbns) sl22 (.e rfl) (.r rfl) ((hH _ (by simp)).trans rfl) rfl En.str hv3) ?_
  refine AD.s (ws := []) rfl rfl (fun H' _ hH => op_field_ptr (.e rfl) fd25_5) ?_
  refine AD.s (ws := []) rfl rfl (fun H' _ hH => op_load_ptr1 (.e rfl) ((hH _ (by simp)).trans rfl) rfl sc22) ?_
  obtain ⟨v4, hv4, hm⟩ := bindE hm
  refine AD.s (ws := [(1, _)]) rfl rfl (fun H' _ hH => op_appendM (f := D.str) (l' := a1.fLangs) sl22 (.e rfl) (.r rfl) ((hH _ (by simp)).trans rfl) rfl En.str hv4) ?_
  refine AD.s (ws := []) rfl rfl (fun H' _ hH => op_field_ptr (.e rfl) fd25_6) ?_
  refine AD.s (ws := []) rfl rfl (fun H' _ hH => op_load_ptr1 (.e rfl) ((hH _ (by simp)).trans rfl) rfl sc22) ?_
  obtain ⟨v5, hv5, hm⟩ := bindE hm
  refine AD.s (ws := [(1, _)]) rfl rfl (fun H' _ hH => op_appendM (f := D.str) (l' := a1.fPublisher) sl22 (.e rfl) (.r rfl) ((hH _ (by simp)).trans rfl) rfl En.str hv5) ?_
  refine AD.s (ws := []) rfl rfl (fun H' _ hH => op_field_ptr (.e rfl) fd25_7) ?_
  refine AD.s (ws := []) rfl rfl (fun H' _ hH => op_load_ptr1 (.e rfl) ((hH _ (by simp)).trans rfl) rfl sc22) ?_
  obtain ⟨v6, hv6, hm⟩ := bindE hm
  refine AD.s (ws := [(1, _)]) rfl rfl (fun H' _ hH => op_appendM (f := D.str) (l' := a1.fEdition) sl22 (.e rfl) (.r rfl) ((hH _ (by simp)).trans rfl) rfl En.str hv6) ?_
  refine AD.s (ws := []) rfl rfl (fun H' _ hH => op_assignT (.e rfl)) ?_
  refine AD.nil ?_
  refine AW.seqR ?_
  refine AL.s rfl (op_assignD (.e rfl)) ?_
  refine AL.nil ?_
  refine AW.seq ?_
  refine AW.seqR ?_
  refine AL.s rfl (op_assignD (.e rfl)) ?_
  refine AL.nil ?_
  refine AW.block ?_
  obtain ⟨t_1, hI1, hk1⟩ := bindE hm
  refine AW.loopS (σ := (Int × Int)) (τ := (Bool ⊕ Int)) 0 (fun x => [(1, .ptr 0 0), (3, .tk 1 (v6.map D.str)), (4, .d (.int .i64 x.1)), (5, .d (.int .i64 x.2))]) (fun x => [.row [.d (.int .i64 a1.fID), .d (.sl (a1.fTitle.map D.str)), .d (.str a1.fAuthor), .d (.sl (a1.fYears.map D.i)), .d (.sl (a1.fIsbns.map D.str)), .d (.sl (a1.fLangs.map D.str)), .d (.sl (a1.fPublisher.map D.str)), .d (.sl (a1.fEdition.map D.str))], .tok v6.length 9 1, .dead, .dead, .dead, .dead]) hI1 (WOK.g0 hw0 (by simp)) ⟨[0, 1, 2, 3, 4, 5], rfl, rfl, rfl, ⟨(.ptr rfl), (.tk rfl), (.d rfl), (.d rfl), trivial⟩, trivial, (.row rfl (.cons (.d rfl) (.cons (.d rfl) (.cons (.d rfl) (.cons (.d rfl) (.cons (.d rfl) (.cons (.d rfl) (.cons (.d rfl) (.cons (.d rfl) .nil)))))))) (.tok rfl (.dead (.dead (.dead (.dead .nil))))))⟩ ?_
  rintro n1 ⟨s7, s8⟩ hI1
  obtain ⟨y_1, hm, hI1⟩ := iterS hI1
  replace hm : m_ref29_Few_L1 n _ s7 s8 = some y_1 := hm
  unfold m_ref29_Few_L1 at hm
  try dsimp only at hm
  refine AW.seq ?_
  refine AW.seqR ?_
  refine AL.s rfl (op_moveD (.e rfl)) ?_
  refine AL.s rfl (op_moveT (.e rfl)) ?_
  refine AL.s rfl (op_lenM (f := D.str) (.r rfl) sl22) ?_
  refine AL.s rfl (op_lss (.r rfl) (.r rfl)) ?_
  refine AL.s rfl (op_moveD (.e rfl)) ?_
  refine AL.sT rfl rfl rfl rfl (fun g => op_moveD (.e rfl)) ?_
  refine AL.sT rfl rfl rfl rfl (fun g => op_lss (.we g rfl rfl) (.r rfl)) ?_
  refine AL.s rfl (op_and (.r rfl) (fun h => (.we h rfl rfl)) rfl) ?_
  refine AL.nil ?_
  refine AW.cond (b := _) rfl (fun hc1 => ?_) (fun hc1 => ?_)
  · replace hm := iteT hc1 hm
    refine AW.skip ?_
    refine nq ?_
    refine AW.seq ?_
    refine AW.block ?_
    refine AW.seq ?_
    refine AW.seqR ?_
    refine AL.s rfl (op_moveT (.e rfl)) ?_
    refine AL.s rfl (op_moveD (.e rfl)) ?_
    obtain ⟨v9, hv9, hm⟩ := bindE hm
    refine AL.s rfl (op_indexAddrM (f := D.str) (.r rfl) (.r rfl) hv9 En.str sl22) ?_
    refine AL.s rfl (op_load_vp1 (.e rfl) rfl sc9) ?_
    refine AL.s rfl (op_lenS (.r rfl) Tryz.underlying9) ?_
    refine AL.s rfl (op_gtr (.r rfl) (.r rfl)) ?_
    refine AL.nil ?_
    refine AW.cond (b := _) rfl (fun hc2 => ?_) (fun hc2 => ?_)
    · replace hm := iteT hc2 hm
      refine AW.seqR ?_
      refine AL.s rfl (op_assignD (.e rfl)) ?_
      refine AL.nil ?_
      refine AW.ret ?_
      refine tq_ret ?_
      refine bq_ret ?_
      refine tq_ret ?_
      refine tq_ret ?_
      obtain rfl := Option.some.inj hm
      obtain rfl := Option.some.inj hI1
      replace hm := hk1
      try dsimp only at hm
      refine bq_ret ?_
      refine tq_ret ?_
      obtain rfl := Option.some.inj hm
      exact EndQ.d (.tmp (.e rfl) .nil) rfl rfl
    · replace hm := iteF hc2 hm
      refine AW.skip ?_
      refine nq ?_
      refine AW.region ?_
      refine AL.s rfl (op_moveD (.e rfl)) ?_
      refine AL.s rfl (op_moveT (.e rfl)) ?_
      refine AL.s rfl (op_moveD (.e rfl)) ?_
      obtain ⟨v10, hv10, hm⟩ := bindE hm
      refine AL.s rfl (op_indexAddrM (f := D.str) (.r rfl) (.r rfl) hv10 En.str sl22) ?_
      refine AL.s rfl (op_load_vp1 (.e rfl) rfl sc9) ?_
      refine AL.s rfl (op_lenS (.r rfl) Tryz.underlying9) ?_
      refine AL.s rfl (op_addw (.r rfl) (.r rfl)) ?_
      refine AL.s rfl (op_assignD (.e rfl)) ?_
      refine AL.nil ?_
      refine bq_n ?_
      refine nq ?_
      refine AW.region ?_
      refine AL.s rfl (op_moveD (.e rfl)) ?_
      refine AL.s rfl (op_addw (.r rfl) (.r rfl)) ?_
      refine AL.s rfl (op_assignD (.e rfl)) ?_
      refine AL.nil ?_
      obtain rfl := Option.some.inj hm
      exact nq ⟨_, hI1, ⟨[0, 1, 2, 3, 4, 5], rfl, rfl, rfl, ⟨(.ptr rfl), (.tk rfl), (.d rfl), (.d rfl), trivial⟩, trivial, (.row rfl (.cons (.d rfl) (.cons (.d rfl) (.cons (.d rfl) (.cons (.d rfl) (.cons (.d rfl) (.cons (.d rfl) (.cons (.d rfl) (.cons (.d rfl) .nil)))))))) (.tok rfl (.dead (.dead (.dead (.dead .nil))))))⟩⟩
  · replace hm := iteF hc1 hm
    refine AW.exit ?_
    refine tq_exit ?_
    refine tq_exit ?_
    obtain rfl := Option.some.inj hm
    obtain rfl := Option.some.inj hI1
    replace hm := hk1
    try dsimp only at hm
    refine bq_hit ?_
    refine nq ?_
    refine AW.seqR ?_
    refine AL.s rfl (op_moveT (.e rfl)) ?_
    refine AL.s rfl (op_lenM (f := D.str) (.r rfl) sl22) ?_
    refine AL.s rfl (op_leq (.r rfl) (.r rfl)) ?_
    refine AL.s rfl (op_moveD (.e rfl)) ?_
    refine AL.sF rfl rfl rfl rfl (fun g => op_moveT (.e rfl)) ?_
    refine AL.sF rfl rfl rfl rfl (fun g => op_lenM (f := D.str) (.we (nt g) rfl rfl) sl22) ?_
    refine AL.sF rfl rfl rfl rfl (fun g => op_geq (.we (nt g) rfl rfl) (.r rfl)) ?_
    refine AL.sF rfl rfl rfl rfl (fun g => op_moveD (.we (nt g) rfl)) ?_
    refine AL.sTT rfl rfl rfl rfl (fun gp g => op_moveT (.e rfl)) ?_
    refine AL.sTT rfl rfl rfl rfl (fun gp g => op_lenM (f := D.str) (.we (an gp g) rfl rfl) sl22) ?_
    refine AL.sTT rfl rfl rfl rfl (fun gp g => op_leq (.we (an gp g) rfl rfl) (.r rfl)) ?_
    refine AL.sF rfl rfl rfl rfl (fun g => op_and (.we (nt g) rfl rfl) (fun h => (.we (an (nt g) h) rfl rfl)) rfl) ?_
    refine AL.s rfl (op_or (.r rfl) rfl (fun h => (.we (nt h) rfl rfl))) ?_
    refine AL.s rfl (op_moveD (.e rfl)) ?_
    refine AL.sT rfl rfl rfl rfl (fun g => op_moveD (.e rfl)) ?_
    refine AL.sT rfl rfl rfl rfl (fun g => op_leq (.we g rfl rfl) (.r rfl)) ?_
    refine AL.s rfl (op_and (.r rfl) (fun h => (.we h rfl rfl)) rfl) ?_
    refine AL.s rfl (op_moveD (.e rfl)) ?_
    refine AL.sT rfl rfl rfl rfl (fun g => op_field_ptr (.e rfl) fd25_3) ?_
    refine AL.sT rfl rfl rfl rfl (fun g => op_load_ptr1 (.we g rfl) rfl rfl sc23) ?_
    refine AL.sT rfl rfl rfl rfl (fun g => op_lenM (f := D.i) (.we g rfl rfl) sl23) ?_
    refine AL.sT rfl rfl rfl rfl (fun g => op_leq (.we g rfl rfl) (.r rfl)) ?_
    refine AL.s rfl (op_and (.r rfl) (fun h => (.we h rfl rfl)) rfl) ?_
    refine AL.s rfl (op_assignD (.e rfl)) ?_
    refine AL.nil ?_
    refine AW.ret ?_
    obtain rfl := Option.some.inj hm
    exact EndQ.d (.tmp (.e rfl) .nil) rfl rfl

set_option maxHeartbeats 20000000 in
theorem m_law29_Own_ok {n : Nat} {a1 : SFeatures} {r : SFeatures} (hm : m_law29_Own n a1 = some r) : Fn Tryz.prog 8 [(SFeatures.e a1)] (SFeatures.e r) := by
  unfold m_law29_Own at hm
  refine Fn.of_AW (fnn := Tryz.f8) Tryz.func8 rfl (Nat.le_of_ble_eq_true rfl) (fun g0 w0 hw0 => ?_)
  refine AW.seqR ?_
  refine AL.s rfl (op_box (n := 0) (.e rfl) rfl rfl rfl) ?_
  refine AL.s rfl (op_alloc (n := 1) zr33 rfl) ?_
  refine AL.nil ?_
  refine AW.seqR ?_
  refine AL.s rfl (op_load_ptrA (.e rfl) rfl rfl rfl ag25) ?_
  refine AL.s rfl (op_storeA (.e rfl) (.e rfl) rfl rfl ⟨_, rfl, rfl⟩ rfl (Nat.le_of_ble_eq_true rfl)) ?_
  refine AL.nil ?_
  refine AW.ret ?_
  obtain rfl := Option.some.inj hm
  exact EndQ.d (.cellA (.e rfl) rfl rfl rfl ag33 .nil) rfl rfl

set_option maxHeartbeats 20000000 in
theorem m_ref29_made_ok {n : Nat} {a1 : (List UInt8)} {a2 : Int} {a3 : Int} {a4 : Int} {r : Bool} (hm : m_ref29_made n a1 a2 a3 a4 = some r) : Fn Tryz.prog 58 [(.str a1), (.int .i64 a2), (.int .u8 a3), (.int .u8 a4)] (.bool r) := by
  unfold m_ref29_made at hm
  refine Fn.of_AW (fnn := Tryz.f58) Tryz.func58 rfl (Nat.le_of_ble_eq_true rfl) (fun g0 w0 hw0 => ?_)
  refine AW.reset 0 [(0, .d (.str a1)), (1, .d (.int .i64 a2)), (2, .d (.int .u8 a3)), (3, .d (.int .u8 a4))] [] (WOK.g0 hw0 (by simp)) ⟨[], rfl, rfl, rfl, ⟨(.d rfl), (.d rfl), (.d rfl), (.d rfl), trivial⟩, trivial, .nil⟩ ?_
  refine AW.seqR ?_
  refine AL.s rfl (op_assignD (.e rfl)) ?_
  refine AL.nil ?_
  refine AW.seq ?_
  refine AW.seqR ?_
  refine AL.s rfl (op_assignD (.e rfl)) ?_
  refine AL.nil ?_
  refine AW.block ?_
  obtain ⟨t_1, hI1, hk1⟩ := bindE hm
  refine AW.loopS (σ := Int) (τ := (Bool ⊕ Unit)) 0 (fun x => [(0, .d (.str a1)), (1, .d (.int .i64 a2)), (2, .d (.int .u8 a3)), (3, .d (.int .u8 a4)), (9, .d (.int .i64 x))]) (fun x => []) hI1 (WOK.g0 hw0 (by simp)) ⟨[], rfl, rfl, rfl, ⟨(.d rfl), (.d rfl), (.d rfl), (.d rfl), (.d rfl), trivial⟩, trivial, .nil⟩ ?_
  rintro n1 s5 hI1
  obtain ⟨y_1, hm, hI1⟩ := iterS hI1
  replace hm : m_ref29_made_L1 n _ _ _ s5 = some y_1 := hm
  unfold m_ref29_made_L1 at hm
  try dsimp only at hm
  refine AW.seq ?_
  refine AW.seqR ?_
  refine AL.s rfl (op_moveD (.e rfl)) ?_
  refine AL.s rfl (op_moveD (.e rfl)) ?_
  refine AL.s rfl (op_lenS (.r rfl) Tryz.underlying9) ?_
  refine AL.s rfl (op_lss (.r rfl) (.r rfl)) ?_
  refine AL.nil ?_
  refine AW.cond (b := _) rfl (fun hc1 => ?_) (fun hc1 => ?_)
  · replace hm := iteT hc1 hm
    refine AW.skip ?_
    refine nq ?_
    refine AW.seq ?_
    refine AW.block ?_
    refine AW.seqR ?_
    refine AL.s rfl (op_moveD (.e rfl)) ?_
    refine AL.s rfl (op_moveD (.e rfl)) ?_
    obtain ⟨v6, hv6, hm⟩ := bindE hm
    refine AL.s rfl (op_indexSM (.r rfl) (.r rfl) hv6 Tryz.underlying9) ?_
    refine AL.s rfl (op_moveD (.e rfl)) ?_
    refine AL.s rfl (op_lss (.r rfl) (.r rfl)) ?_
    refine AL.s rfl (op_moveD (.e rfl)) ?_
    refine AL.sF rfl rfl rfl rfl (fun g => op_moveD (.e rfl)) ?_
    refine AL.sF rfl rfl rfl rfl (fun g => op_moveD (.e rfl)) ?_
    obtain ⟨v7, hv7, hm⟩ := bindE hm
    refine AL.sF rfl rfl rfl rfl (fun g => op_indexSM (.we (nt g) rfl rfl) (.we (nt g) rfl rfl) (iteT (nt g) hv7) Tryz.underlying9) ?_
    refine AL.sF rfl rfl rfl rfl (fun g => op_moveD (.e rfl)) ?_
    refine AL.sF rfl rfl rfl rfl (fun g => op_gtr (.we (nt g) rfl rfl) (.we (nt g) rfl rfl)) ?_
    refine AL.s rfl (op_or (.r rfl) rfl (fun h => (.we (nt h) rfl rfl))) ?_
    refine AL.nil ?_
    refine AW.cond (b := _) rfl (fun hc2 => ?_) (fun hc2 => ?_)
    · replace hm := iteT hc2 hm
      refine AW.seqR ?_
      refine AL.s rfl (op_assignD (.e rfl)) ?_
      refine AL.nil ?_
      refine AW.ret ?_
      refine bq_ret ?_
      refine tq_ret ?_
      refine tq_ret ?_
      obtain rfl := Option.some.inj hm
      obtain rfl := Option.some.inj hI1
      replace hm := hk1
      try dsimp only at hm
      refine bq_ret ?_
      refine tq_ret ?_
      obtain rfl := Option.some.inj hm
      exact EndQ.d (.tmp (.e rfl) .nil) rfl rfl
    · replace hm := iteF hc2 hm
      refine AW.skip ?_
      refine bq_n ?_
      refine nq ?_
      refine AW.region ?_
      refine AL.s rfl (op_moveD (.e rfl)) ?_
      refine AL.s rfl (op_addw (.r rfl) (.r rfl)) ?_
      refine AL.s rfl (op_assignD (.e rfl)) ?_
      refine AL.nil ?_
      obtain rfl := Option.some.inj hm
      exact nq ⟨_, hI1, ⟨[], rfl, rfl, rfl, ⟨(.d rfl), (.d rfl), (.d rfl), (.d rfl), (.d rfl), trivial⟩, trivial, .nil⟩⟩
  · replace hm := iteF hc1 hm
    refine AW.exit ?_
    refine tq_exit ?_
    refine tq_exit ?_
    obtain rfl := Option.some.inj hm
    obtain rfl := Option.some.inj hI1
    replace hm := hk1
    try dsimp only at hm
    refine bq_hit ?_
    refine nq ?_
    refine AW.seqR ?_
    refine AL.s rfl (op_moveD (.e rfl)) ?_
    refine AL.s rfl (op_lenS (.r rfl) Tryz.underlying9) ?_
    refine AL.s rfl (op_moveD (.e rfl)) ?_
    refine AL.s rfl (op_eql (.r rfl) (.r rfl)) ?_
    refine AL.s rfl (op_assignD (.e rfl)) ?_
    refine AL.nil ?_
    refine AW.ret ?_
    obtain rfl := Option.some.inj hm
    exact EndQ.d (.tmp (.e rfl) .nil) rfl rfl

set_option maxHeartbeats 20000000 in
theorem m_ref29_word_ok {n : Nat} {a1 : (List UInt8)} {r : Bool} (hm : m_ref29_word n a1 = some r) : Fn Tryz.prog 87 [(.str a1)] (.bool r) := by
  unfold m_ref29_word at hm
  refine Fn.of_AW (fnn := Tryz.f87) Tryz.func87 rfl (Nat.le_of_ble_eq_true rfl) (fun g0 w0 hw0 => ?_)
  refine AW.reset 0 [(0, .d (.str a1))] [] (WOK.g0 hw0 (by simp)) ⟨[], rfl, rfl, rfl, ⟨(.d rfl), trivial⟩, trivial, .nil⟩ ?_
  refine AW.seqR ?_
  refine AL.s rfl (op_assignD (.e rfl)) ?_
  refine AL.nil ?_
  refine AW.seq ?_
  refine AW.seqR ?_
  refine AL.s rfl (op_assignD (.e rfl)) ?_
  refine AL.nil ?_
  refine AW.block ?_
  obtain ⟨t_1, hI1, hk1⟩ := bindE hm
  refine AW.loopS (σ := Int) (τ := (Bool ⊕ Unit)) 0 (fun x => [(0, .d (.str a1)), (3, .d (.int .i64 x))]) (fun x => []) hI1 (WOK.g0 hw0 (by simp)) ⟨[], rfl, rfl, rfl, ⟨(.d rfl), (.d rfl), trivial⟩, trivial, .nil⟩ ?_
  rintro n1 s2 hI1
  obtain ⟨y_1, hm, hI1⟩ := iterS hI1
  replace hm : m_ref29_word_L1 n _ s2 = some y_1 := hm
  unfold m_ref29_word_L1 at hm
  try dsimp only at hm
  refine AW.seq ?_
  refine AW.seqR ?_
  refine AL.s rfl (op_moveD (.e rfl)) ?_
  refine AL.s rfl (op_moveD (.e rfl)) ?_
  refine AL.s rfl (op_lenS (.r rfl) Tryz.underlying9) ?_
  refine AL.s rfl (op_lss (.r rfl) (.r rfl)) ?_
  refine AL.nil ?_
  refine AW.cond (b := _) rfl (fun hc1 => ?_) (fun hc1 => ?_)
  · replace hm := iteT hc1 hm
    refine AW.skip ?_
    refine nq ?_
    refine AW.seq ?_
    refine AW.block ?_
    refine AW.seqR ?_
    refine AL.s rfl (op_moveD (.e rfl)) ?_
    refine AL.s rfl (op_moveD (.e rfl)) ?_
    obtain ⟨v3, hv3, hm⟩ := bindE hm
    refine AL.s rfl (op_indexSM (.r rfl) (.r rfl) hv3 Tryz.underlying9) ?_
    refine AL.s rfl (op_leq (.r rfl) (.r rfl)) ?_
    refine AL.nil ?_
    refine AW.cond (b := _) rfl (fun hc2 => ?_) (fun hc2 => ?_)
    · replace hm := iteT hc2 hm
      refine AW.seqR ?_
      refine AL.s rfl (op_assignD (.e rfl)) ?_
      refine AL.nil ?_
      refine AW.ret ?_
      refine bq_ret ?_
      refine tq_ret ?_
      refine tq_ret ?_
      obtain rfl := Option.some.inj hm
      obtain rfl := Option.some.inj hI1
      replace hm := hk1
      try dsimp only at hm
      refine bq_ret ?_
      refine tq_ret ?_
      obtain rfl := Option.some.inj hm
      exact EndQ.d (.tmp (.e rfl) .nil) rfl rfl
    · replace hm := iteF hc2 hm
      refine AW.skip ?_
      refine bq_n ?_
      refine nq ?_
      refine AW.region ?_
      refine AL.s rfl (op_moveD (.e rfl)) ?_
      refine AL.s rfl (op_addw (.r rfl) (.r rfl)) ?_
      refine AL.s rfl (op_assignD (.e rfl)) ?_
      refine AL.nil ?_
      obtain rfl := Option.some.inj hm
      exact nq ⟨_, hI1, ⟨[], rfl, rfl, rfl, ⟨(.d rfl), (.d rfl), trivial⟩, trivial, .nil⟩⟩
  · replace hm := iteF hc1 hm
    refine AW.exit ?_
    refine tq_exit ?_
    refine tq_exit ?_
    obtain rfl := Option.some.inj hm
    obtain rfl := Option.some.inj hI1
    replace hm := hk1
    try dsimp only at hm
    refine bq_hit ?_
    refine nq ?_
    refine AW.seqR ?_
    refine AL.s rfl (op_moveD (.e rfl)) ?_
    refine AL.s rfl (op_lenS (.r rfl) Tryz.underlying9) ?_
    refine AL.s rfl (op_geq (.r rfl) (.r rfl)) ?_
    refine AL.s rfl (op_moveD (.e rfl)) ?_
    refine AL.sT rfl rfl rfl rfl (fun g => op_moveD (.e rfl)) ?_
    refine AL.sT rfl rfl rfl rfl (fun g => op_lenS (.we g rfl rfl) Tryz.underlying9) ?_
    refine AL.sT rfl rfl rfl rfl (fun g => op_leq (.we g rfl rfl) (.r rfl)) ?_
    refine AL.s rfl (op_and (.r rfl) (fun h => (.we h rfl rfl)) rfl) ?_
    refine AL.s rfl (op_assignD (.e rfl)) ?_
    refine AL.nil ?_
    refine AW.ret ?_
    obtain rfl := Option.some.inj hm
    exact EndQ.d (.tmp (.e rfl) .nil) rfl rfl

set_option maxHeartbeats 20000000 in
theorem m_ref29_Words_ok {n : Nat} {a1 : (List (List UInt8))} {r : Bool} (hm : m_ref29_Words n a1 = some r) : Fn Tryz.prog 59 [(.sl (a1.map D.str))] (.bool r) := by
  unfold m_ref29_Words at hm
  refine Fn.of_AW (fnn := Tryz.f59) Tryz.func59 rfl (Nat.le_of_ble_eq_true rfl) (fun g0 w0 hw0 => ?_)
  refine AW.reset 0 [(0, .d (.sl (a1.map D.str)))] [] (WOK.g0 hw0 (by simp)) ⟨[], rfl, rfl, rfl, ⟨(.d rfl), trivial⟩, trivial, .nil⟩ ?_
  refine AW.seqR ?_
  refine AL.s rfl (op_assignD (.e rfl)) ?_
  refine AL.nil ?_
  refine AW.seq ?_
  refine AW.seqR ?_
  refine AL.s rfl (op_assignD (.e rfl)) ?_
  refine AL.nil ?_
  refine AW.block ?_
  obtain ⟨t_1, hI1, hk1⟩ := bindE hm
  refine AW.loopS (σ := Int) (τ := (Bool ⊕ Unit)) 0 (fun x => [(0, .d (.sl (a1.map D.str))), (3, .d (.int .i64 x))]) (fun x => []) hI1 (WOK.g0 hw0 (by simp)) ⟨[], rfl, rfl, rfl, ⟨(.d rfl), (.d rfl), trivial⟩, trivial, .nil⟩ ?_
  rintro n1 s2 hI1
  obtain ⟨y_1, hm, hI1⟩ := iterS hI1
  replace hm : m_ref29_Words_L1 n _ s2 = some y_1 := hm
  unfold m_ref29_Words_L1 at hm
  try dsimp only at hm
  refine AW.seq ?_
  refine AW.seqR ?_
  refine AL.s rfl (op_moveD (.e rfl)) ?_
  refine AL.s rfl (op_moveD (.e rfl)) ?_
  refine AL.s rfl (op_lenM (f := D.str) (.r rfl) sl22) ?_
  refine AL.s rfl (op_lss (.r rfl) (.r rfl)) ?_
  refine AL.nil ?_
  refine AW.cond (b := _) rfl (fun hc1 => ?_) (fun hc1 => ?_)
  · replace hm := iteT hc1 hm
    refine AW.skip ?_
    refine nq ?_
    refine AW.seq ?_
    refine AW.block ?_
    refine AW.seqR ?_
    refine AL.s rfl (op_moveD (.e rfl)) ?_
    refine AL.s rfl (op_moveD (.e rfl)) ?_
    obtain ⟨v3, hv3, hm⟩ := bindE hm
    refine AL.s rfl (op_indexAddrM (f := D.str) (.r rfl) (.r rfl) hv3 En.str sl22) ?_
    refine AL.s rfl (op_load_vp1 (.e rfl) rfl sc9) ?_
    obtain ⟨v4, hv4, hm⟩ := bindE hm
    refine AL.s rfl (op_fn Tryz.call87 (.e rfl) (.cons (.r rfl) .nil) (m_ref29_word_ok hv4)) ?_
    refine AL.s rfl (op_not (.r rfl)) ?_
    refine AL.nil ?_
    refine AW.cond (b := _) rfl (fun hc2 => ?_) (fun hc2 => ?_)
    · replace hm := iteT hc2 hm
      refine AW.seqR ?_
      refine AL.s rfl (op_assignD (.e rfl)) ?_
      refine AL.nil ?_
      refine AW.ret ?_
      refine bq_ret ?_
      refine tq_ret ?_
      refine tq_ret ?_
      obtain rfl := Option.some.inj hm
      obtain rfl := Option.some.inj hI1
      replace hm := hk1
      try dsimp only at hm
      refine bq_ret ?_
      refine tq_ret ?_
      obtain rfl := Option.some.inj hm
      exact EndQ.d (.tmp (.e rfl) .nil) rfl rfl
    · replace hm := iteF hc2 hm
      refine AW.skip ?_
      refine bq_n ?_
      refine nq ?_
      refine AW.region ?_
      refine AL.s rfl (op_moveD (.e rfl)) ?_
      refine AL.s rfl (op_addw (.r rfl) (.r rfl)) ?_
      refine AL.s rfl (op_assignD (.e rfl)) ?_
      refine AL.nil ?_
      obtain rfl := Option.some.inj hm
      exact nq ⟨_, hI1, ⟨[], rfl, rfl, rfl, ⟨(.d rfl), (.d rfl), trivial⟩, trivial, .nil⟩⟩
  · replace hm := iteF hc1 hm
    refine AW.exit ?_
    refine tq_exit ?_
    refine tq_exit ?_
    obtain rfl := Option.some.inj hm
    obtain rfl := Option.some.inj hI1
    replace hm := hk1
    try dsimp only at hm
    refine bq_hit ?_
    refine nq ?_
    refine AW.seqR ?_
    refine AL.s rfl (op_moveD (.e rfl)) ?_
    refine AL.s rfl (op_lenM (f := D.str) (.r rfl) sl22) ?_
    refine AL.s rfl (op_leq (.r rfl) (.r rfl)) ?_
    refine AL.s rfl (op_assignD (.e rfl)) ?_
    refine AL.nil ?_
    refine AW.ret ?_
    obtain rfl := Option.some.inj hm
    exact EndQ.d (.tmp (.e rfl) .nil) rfl rfl

set_option maxHeartbeats 20000000 in
theorem m_ref29_key_ok {n : Nat} {a1 : (List UInt8)} {r : Bool} (hm : m_ref29_key n a1 = some r) : Fn Tryz.prog 60 [(.str a1)] (.bool r) := by
  unfold m_ref29_key at hm
  refine Fn.of_AW (fnn := Tryz.f60) Tryz.func60 rfl (Nat.le_of_ble_eq_true rfl) (fun g0 w0 hw0 => ?_)
  refine AW.reset 0 [(0, .d (.str a1))] [] (WOK.g0 hw0 (by simp)) ⟨[], rfl, rfl, rfl, ⟨(.d rfl), trivial⟩, trivial, .nil⟩ ?_
  refine AW.seqR ?_
  refine AL.s rfl (op_assignD (.e rfl)) ?_
  refine AL.nil ?_
  refine AW.seq ?_
  refine AW.seqR ?_
  refine AL.s rfl (op_assignD (.e rfl)) ?_
  refine AL.nil ?_
  refine AW.block ?_
  obtain ⟨t_1, hI1, hk1⟩ := bindE hm
  refine AW.loopS (σ := Int) (τ := (Bool ⊕ Unit)) 0 (fun x => [(0, .d (.str a1)), (3, .d (.int .i64 x))]) (fun x => []) hI1 (WOK.g0 hw0 (by simp)) ⟨[], rfl, rfl, rfl, ⟨(.d rfl), (.d rfl), trivial⟩, trivial, .nil⟩ ?_
  rintro n1 s2 hI1
  obtain ⟨y_1, hm, hI1⟩ := iterS hI1
  replace hm : m_ref29_key_L1 n _ s2 = some y_1 := hm
  unfold m_ref29_key_L1 at hm
  try dsimp only at hm
  refine AW.seq ?_
  refine AW.seqR ?_
  refine AL.s rfl (op_moveD (.e rfl)) ?_
  refine AL.s rfl (op_moveD (.e rfl)) ?_
  refine AL.s rfl (op_lenS (.r rfl) Tryz.underlying9) ?_
  refine AL.s rfl (op_lss (.r rfl) (.r rfl)) ?_
  refine AL.nil ?_
  refine AW.cond (b := _) rfl (fun hc1 => ?_) (fun hc1 => ?_)
  · replace hm := iteT hc1 hm
    refine AW.skip ?_
    refine nq ?_
    refine AW.seq ?_
    refine AW.block ?_
    refine AW.seqR ?_
    refine AL.s rfl (op_moveD (.e rfl)) ?_
    refine AL.s rfl (op_moveD (.e rfl)) ?_
    obtain ⟨v3, hv3, hm⟩ := bindE hm
    refine AL.s rfl (op_indexSM (.r rfl) (.r rfl) hv3 Tryz.underlying9) ?_
    refine AL.s rfl (op_lss (.r rfl) (.r rfl)) ?_
    refine AL.nil ?_
    refine AW.cond (b := _) rfl (fun hc2 => ?_) (fun hc2 => ?_)
    · replace hm := iteT hc2 hm
      refine AW.seqR ?_
      refine AL.s rfl (op_assignD (.e rfl)) ?_
      refine AL.nil ?_
      refine AW.ret ?_
      refine bq_ret ?_
      refine tq_ret ?_
      refine tq_ret ?_
      obtain rfl := Option.some.inj hm
      obtain rfl := Option.some.inj hI1
      replace hm := hk1
      try dsimp only at hm
      refine bq_ret ?_
      refine tq_ret ?_
      obtain rfl := Option.some.inj hm
      exact EndQ.d (.tmp (.e rfl) .nil) rfl rfl
    · replace hm := iteF hc2 hm
      refine AW.skip ?_
      refine bq_n ?_
      refine nq ?_
      refine AW.region ?_
      refine AL.s rfl (op_moveD (.e rfl)) ?_
      refine AL.s rfl (op_addw (.r rfl) (.r rfl)) ?_
      refine AL.s rfl (op_assignD (.e rfl)) ?_
      refine AL.nil ?_
      obtain rfl := Option.some.inj hm
      exact nq ⟨_, hI1, ⟨[], rfl, rfl, rfl, ⟨(.d rfl), (.d rfl), trivial⟩, trivial, .nil⟩⟩
  · replace hm := iteF hc1 hm
    refine AW.exit ?_
    refine tq_exit ?_
    refine tq_exit ?_
    obtain rfl := Option.some.inj hm
    obtain rfl := Option.some.inj hI1
    replace hm := hk1
    try dsimp only at hm
    refine bq_hit ?_
    refine nq ?_
    refine AW.seqR ?_
    refine AL.s rfl (op_moveD (.e rfl)) ?_
    refine AL.s rfl (op_lenS (.r rfl) Tryz.underlying9) ?_
    refine AL.s rfl (op_leq (.r rfl) (.r rfl)) ?_
    refine AL.s rfl (op_moveD (.e rfl)) ?_
    refine AL.sT rfl rfl rfl rfl (fun g => op_moveD (.e rfl)) ?_
    refine AL.sT rfl rfl rfl rfl (fun g => op_eqlS (.we g rfl rfl) (.r rfl)) ?_
    refine AL.sT rfl rfl rfl rfl (fun g => op_moveD (.we g rfl)) ?_
    refine AL.sFF rfl rfl rfl rfl (fun gp g => op_moveD (.e rfl)) ?_
    obtain ⟨v4, hv4, hm⟩ := bindE hm
    refine AL.sFF rfl rfl rfl rfl (fun gp g => op_indexSM (.we (an gp (nt g)) rfl rfl) (.r rfl) (iteT (an gp (nt g)) hv4) Tryz.underlying9) ?_
    refine AL.sFF rfl rfl rfl rfl (fun gp g => op_neq (.we (an gp (nt g)) rfl rfl) (.r rfl)) ?_
    refine AL.sFF rfl rfl rfl rfl (fun gp g => op_moveD (.we (an gp (nt g)) rfl)) ?_
    refine AL.sTT rfl rfl rfl rfl (fun gp g => op_moveD (.e rfl)) ?_
    refine AL.sTT rfl rfl rfl rfl (fun gp g => op_moveD (.e rfl)) ?_
    refine AL.sTT rfl rfl rfl rfl (fun gp g => op_lenS (.we (an gp g) rfl rfl) Tryz.underlying9) ?_
    refine AL.sTT rfl rfl rfl rfl (fun gp g => op_subw (.we (an gp g) rfl rfl) (.r rfl)) ?_
    obtain ⟨v5, hv5, hm⟩ := bindE hm
    refine AL.sTT rfl rfl rfl rfl (fun gp g => op_indexSM (.we (an gp g) rfl rfl) (.we (an gp g) rfl rfl) (iteT (an gp g) hv5) Tryz.underlying9) ?_
    refine AL.sTT rfl rfl rfl rfl (fun gp g => op_neq (.we (an gp g) rfl rfl) (.r rfl)) ?_
    refine AL.sFF rfl rfl rfl rfl (fun gp g => op_and (.we (an gp (nt g)) rfl rfl) (fun h => (.we (an (an gp (nt g)) h) rfl rfl)) rfl) ?_
    refine AL.sT rfl rfl rfl rfl (fun g => op_or (.we g rfl rfl) rfl (fun h => (.we (an g (nt h)) rfl rfl))) ?_
    refine AL.s rfl (op_and (.r rfl) (fun h => (.we h rfl rfl)) rfl) ?_
    refine AL.s rfl (op_assignD (.e rfl)) ?_
    refine AL.nil ?_
    refine AW.ret ?_
    obtain rfl := Option.some.inj hm
    exact EndQ.d (.tmp (.e rfl) .nil) rfl rfl

end Go.Proofs.YtgcmhhcopeiomaaGreat.Ab
