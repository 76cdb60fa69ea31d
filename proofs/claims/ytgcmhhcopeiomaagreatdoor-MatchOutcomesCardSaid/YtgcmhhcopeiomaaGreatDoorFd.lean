/- The functions do what they are in plain Lean. Conditions: none. -/
import Derived.Test.YtgcmhhcopeiomaaGreatDoorTy
import Derived.Test.YtgcmhhcopeiomaaGreatDoorMi
import Derived.Test.YtgcmhhcopeiomaaGreatDoorFc
set_option maxRecDepth 100000
namespace Go.Proofs.YtgcmhhcopeiomaaGreatDoor.Ab
open Go
attribute [local irreducible] AL AD AW

set_option maxHeartbeats 20000000 in
theorem m_odds_eighth_ok {n : Nat} {a1 : (List Int)} {r : (List Int)} (hm : m_odds_eighth n a1 = some r) : Fn Tryz.prog 43 [(.sl (a1.map D.i))] (.sl (r.map D.i)) := by
  unfold m_odds_eighth at hm
  refine Fn.of_AW (fnn := Tryz.f43) Tryz.func43 rfl (Nat.le_of_ble_eq_true rfl) (fun g0 w0 hw0 => ?_)
  refine AW.seqR ?_
  refine AL.s rfl (op_assignN (.e rfl)) ?_
  refine AL.nil ?_
  refine AW.seqR ?_
  refine AL.s rfl (op_moveD (.e rfl)) ?_
  obtain ⟨v2, hv2, hm⟩ := bindE hm
  refine AL.s rfl (op_fn Tryz.call75 (.e rfl) (.cons (.r rfl) (.cons (.r rfl) .nil)) (m_nat_Power_ok hv2)) ?_
  refine AL.s rfl (op_moveD (.e rfl)) ?_
  refine AL.s rfl (op_extractD (.e rfl) rfl) ?_
  refine AL.s rfl (op_extractD (.e rfl) rfl) ?_
  refine AL.s rfl (op_assignD (.e rfl)) ?_
  refine AL.s rfl (op_assignD (.e rfl)) ?_
  refine AL.nil ?_
  refine AW.seqR ?_
  refine AL.s rfl (op_moveD (.e rfl)) ?_
  refine AL.s rfl (op_assignD (.e rfl)) ?_
  refine AL.nil ?_
  refine AW.ret ?_
  obtain rfl := Option.some.inj hm
  exact EndQ.d (.tmp (.e rfl) .nil) rfl rfl

set_option maxHeartbeats 20000000 in
theorem m_math_bits_Len64_ok {n : Nat} {a1 : Int} {r : Int} (hm : m_math_bits_Len64 n a1 = some r) : Fn Tryz.prog 114 [(.int .u64 a1)] (.int .i64 r) := by
  unfold m_math_bits_Len64 at hm
  refine Fn.of_AW (fnn := Tryz.f114) Tryz.func114 rfl (Nat.le_of_ble_eq_true rfl) (fun g0 w0 hw0 => ?_)
  refine AW.reset 0 [(0, .d (.int .u64 a1))] [] (WOK.g0 hw0 (by simp)) ⟨[], rfl, rfl, rfl, ⟨(.d rfl), trivial⟩, trivial, .nil⟩ ?_
  refine AW.seqR ?_
  refine AL.s rfl (op_assignD (.e rfl)) ?_
  refine AL.nil ?_
  obtain ⟨t_j1, hm, hkj1⟩ := bindE hm
  refine AW.cutS (α := (Int × Int)) 0 (fun x => x = t_j1) (fun x => [(0, .d (.int .u64 x.1)), (2, .d (.int .i64 x.2))]) (fun x => []) (WOK.g0 hw0 (by simp)) ?_ ?_
  · skip
    refine AW.seqR ?_
    refine AL.s rfl (op_moveD (.e rfl)) ?_
    refine AL.s rfl (op_geq (.r rfl) (.r rfl)) ?_
    refine AL.nil ?_
    refine AW.cond (b := _) rfl (fun hc1 => ?_) (fun hc1 => ?_)
    · replace hm := iteT hc1 hm
      refine AW.seqR ?_
      refine AL.s rfl (op_moveD (.e rfl)) ?_
      obtain ⟨v2, hv2, hm⟩ := bindE hm
      refine AL.s rfl (op_shrM (.r rfl) (.r rfl) hv2) ?_
      refine AL.s rfl (op_assignD (.e rfl)) ?_
      refine AL.nil ?_
      refine AW.region ?_
      refine AL.s rfl (op_assignD (.e rfl)) ?_
      refine AL.nil ?_
      obtain rfl := Option.some.inj hm
      exact nq ⟨_, rfl, ⟨[], rfl, rfl, rfl, ⟨(.d rfl), (.d rfl), trivial⟩, trivial, .nil⟩⟩
    · replace hm := iteF hc1 hm
      refine AW.skip ?_
      obtain rfl := Option.some.inj hm
      exact nq ⟨_, rfl, ⟨[], rfl, rfl, rfl, ⟨(.d rfl), (.d rfl), trivial⟩, trivial, .nil⟩⟩
  · rintro ⟨s3, s4⟩ rfl
    replace hm := hkj1
    try dsimp only at hm
    obtain ⟨t_j2, hm, hkj2⟩ := bindE hm
    refine AW.cutS (α := (Int × Int)) 0 (fun x => x = t_j2) (fun x => [(0, .d (.int .u64 x.1)), (2, .d (.int .i64 x.2))]) (fun x => []) (WOK.g0 hw0 (by simp)) ?_ ?_
    · skip
      refine AW.seqR ?_
      refine AL.s rfl (op_moveD (.e rfl)) ?_
      refine AL.s rfl (op_geq (.r rfl) (.r rfl)) ?_
      refine AL.nil ?_
      refine AW.cond (b := _) rfl (fun hc2 => ?_) (fun hc2 => ?_)
      · replace hm := iteT hc2 hm
        refine AW.seqR ?_
        refine AL.s rfl (op_moveD (.e rfl)) ?_
        obtain ⟨v5, hv5, hm⟩ := bindE hm
        refine AL.s rfl (op_shrM (.r rfl) (.r rfl) hv5) ?_
        refine AL.s rfl (op_assignD (.e rfl)) ?_
        refine AL.nil ?_
        refine AW.region ?_
        refine AL.s rfl (op_moveD (.e rfl)) ?_
        refine AL.s rfl (op_addw (.r rfl) (.r rfl)) ?_
        refine AL.s rfl (op_assignD (.e rfl)) ?_
        refine AL.nil ?_
        obtain rfl := Option.some.inj hm
        exact nq ⟨_, rfl, ⟨[], rfl, rfl, rfl, ⟨(.d rfl), (.d rfl), trivial⟩, trivial, .nil⟩⟩
      · replace hm := iteF hc2 hm
        refine AW.skip ?_
        obtain rfl := Option.some.inj hm
        exact nq ⟨_, rfl, ⟨[], rfl, rfl, rfl, ⟨(.d rfl), (.d rfl), trivial⟩, trivial, .nil⟩⟩
    · rintro ⟨s6, s7⟩ rfl
      replace hm := hkj2
      try dsimp only at hm
      obtain ⟨t_j3, hm, hkj3⟩ := bindE hm
      refine AW.cutS (α := (Int × Int)) 0 (fun x => x = t_j3) (fun x => [(0, .d (.int .u64 x.1)), (2, .d (.int .i64 x.2))]) (fun x => []) (WOK.g0 hw0 (by simp)) ?_ ?_
      · skip
        refine AW.seqR ?_
        refine AL.s rfl (op_moveD (.e rfl)) ?_
        refine AL.s rfl (op_geq (.r rfl) (.r rfl)) ?_
        refine AL.nil ?_
        refine AW.cond (b := _) rfl (fun hc3 => ?_) (fun hc3 => ?_)
        · replace hm := iteT hc3 hm
          refine AW.seqR ?_
          refine AL.s rfl (op_moveD (.e rfl)) ?_
          obtain ⟨v8, hv8, hm⟩ := bindE hm
          refine AL.s rfl (op_shrM (.r rfl) (.r rfl) hv8) ?_
          refine AL.s rfl (op_assignD (.e rfl)) ?_
          refine AL.nil ?_
          refine AW.region ?_
          refine AL.s rfl (op_moveD (.e rfl)) ?_
          refine AL.s rfl (op_addw (.r rfl) (.r rfl)) ?_
          refine AL.s rfl (op_assignD (.e rfl)) ?_
          refine AL.nil ?_
          obtain rfl := Option.some.inj hm
          exact nq ⟨_, rfl, ⟨[], rfl, rfl, rfl, ⟨(.d rfl), (.d rfl), trivial⟩, trivial, .nil⟩⟩
        · replace hm := iteF hc3 hm
          refine AW.skip ?_
          obtain rfl := Option.some.inj hm
          exact nq ⟨_, rfl, ⟨[], rfl, rfl, rfl, ⟨(.d rfl), (.d rfl), trivial⟩, trivial, .nil⟩⟩
      · rintro ⟨s9, s10⟩ rfl
        replace hm := hkj3
        try dsimp only at hm
        refine AW.seqR ?_
        refine AL.s rfl (op_moveD (.e rfl)) ?_
        refine AL.s rfl (op_moveD (.e rfl)) ?_
        refine AL.s rfl (op_conv_int (.r rfl) ⟨_, Tryz.underlying142⟩ Tryz.underlying5) ?_
        obtain ⟨v11, hv11, hm⟩ := bindE hm
        refine AL.s rfl (op_indexSM (.r rfl) (.r rfl) hv11 Tryz.underlying9) ?_
        refine AL.s rfl (op_conv_int (.r rfl) ⟨_, Tryz.underlying5⟩ Tryz.underlying3) ?_
        refine AL.s rfl (op_addw (.r rfl) (.r rfl)) ?_
        refine AL.s rfl (op_assignD (.e rfl)) ?_
        refine AL.nil ?_
        refine AW.ret ?_
        obtain rfl := Option.some.inj hm
        exact EndQ.d (.tmp (.e rfl) .nil) rfl rfl

set_option maxHeartbeats 20000000 in
theorem m_math_bits_Len_ok {n : Nat} {a1 : Int} {r : Int} (hm : m_math_bits_Len n a1 = some r) : Fn Tryz.prog 97 [(.int .u64 a1)] (.int .i64 r) := by
  unfold m_math_bits_Len at hm
  refine Fn.of_AW (fnn := Tryz.f97) Tryz.func97 rfl (Nat.le_of_ble_eq_true rfl) (fun g0 w0 hw0 => ?_)
  refine AW.seqR ?_
  refine AL.s rfl (op_assignD (.e rfl)) ?_
  refine AL.nil ?_
  refine AW.seq ?_
  refine AW.cond (b := false) rfl (fun hc => by cases hc) (fun hc => ?_)
  refine AW.skip ?_
  refine nq ?_
  refine AW.seqR ?_
  refine AL.s rfl (op_moveD (.e rfl)) ?_
  obtain ⟨v2, hv2, hm⟩ := bindE hm
  refine AL.s rfl (op_fn Tryz.call114 (.e rfl) (.cons (.r rfl) .nil) (m_math_bits_Len64_ok hv2)) ?_
  refine AL.s rfl (op_assignD (.e rfl)) ?_
  refine AL.nil ?_
  refine AW.ret ?_
  obtain rfl := Option.some.inj hm
  exact EndQ.d (.tmp (.e rfl) .nil) rfl rfl

set_option maxHeartbeats 20000000 in
theorem m_nat_Bits_ok {n : Nat} {a1 : (List Int)} {r : Int} (hm : m_nat_Bits n a1 = some r) : Fn Tryz.prog 72 [(.sl (a1.map D.i))] (.int .i64 r) := by
  unfold m_nat_Bits at hm
  refine Fn.of_AW (fnn := Tryz.f72) Tryz.func72 rfl (Nat.le_of_ble_eq_true rfl) (fun g0 w0 hw0 => ?_)
  refine AW.seqR ?_
  refine AL.s rfl (op_assignD (.e rfl)) ?_
  refine AL.nil ?_
  refine AW.seq ?_
  refine AW.seqR ?_
  refine AL.s rfl (op_moveD (.e rfl)) ?_
  obtain ⟨v2, hv2, hm⟩ := bindE hm
  refine AL.s rfl (op_fn Tryz.call96 (.e rfl) (.cons (.r rfl) .nil) (m_nat_Valid_ok hv2)) ?_
  refine AL.s rfl (op_not (.r rfl)) ?_
  refine AL.s rfl (op_moveD (.e rfl)) ?_
  refine AL.sF rfl rfl rfl rfl (fun g => op_moveD (.e rfl)) ?_
  refine AL.sF rfl rfl rfl rfl (fun g => op_lenM (f := D.i) (.we (nt g) rfl rfl) sl81) ?_
  refine AL.sF rfl rfl rfl rfl (fun g => op_eql (.we (nt g) rfl rfl) (.r rfl)) ?_
  refine AL.s rfl (op_or (.r rfl) rfl (fun h => (.we (nt h) rfl rfl))) ?_
  refine AL.nil ?_
  refine AW.cond (b := _) rfl (fun hc1 => ?_) (fun hc1 => ?_)
  · replace hm := iteT hc1 hm
    refine AW.seqR ?_
    refine AL.s rfl (op_assignD (.e rfl)) ?_
    refine AL.nil ?_
    refine AW.ret ?_
    refine tq_ret ?_
    obtain rfl := Option.some.inj hm
    exact EndQ.d (.tmp (.e rfl) .nil) rfl rfl
  · replace hm := iteF hc1 hm
    refine AW.skip ?_
    refine nq ?_
    refine AW.seqR ?_
    refine AL.s rfl (op_moveD (.e rfl)) ?_
    refine AL.s rfl (op_lenM (f := D.i) (.r rfl) sl81) ?_
    refine AL.s rfl (op_subw (.r rfl) (.r rfl)) ?_
    refine AL.s rfl (op_mulw (.r rfl) (.r rfl)) ?_
    refine AL.s rfl (op_moveD (.e rfl)) ?_
    refine AL.s rfl (op_moveD (.e rfl)) ?_
    refine AL.s rfl (op_lenM (f := D.i) (.r rfl) sl81) ?_
    refine AL.s rfl (op_subw (.r rfl) (.r rfl)) ?_
    obtain ⟨v3, hv3, hm⟩ := bindE hm
    refine AL.s rfl (op_indexAddrM (f := D.i) (.r rfl) (.r rfl) hv3 En.i sl81) ?_
    refine AL.s rfl (op_load_vp1 (.e rfl) rfl sc3) ?_
    refine AL.s rfl (op_conv_int (.r rfl) ⟨_, Tryz.underlying3⟩ Tryz.underlying136) ?_
    obtain ⟨v4, hv4, hm⟩ := bindE hm
    refine AL.s rfl (op_fn Tryz.call97 (.e rfl) (.cons (.r rfl) .nil) (m_math_bits_Len_ok hv4)) ?_
    refine AL.s rfl (op_addw (.r rfl) (.r rfl)) ?_
    refine AL.s rfl (op_assignD (.e rfl)) ?_
    refine AL.nil ?_
    refine AW.ret ?_
    obtain rfl := Option.some.inj hm
    exact EndQ.d (.tmp (.e rfl) .nil) rfl rfl

set_option maxHeartbeats 20000000 in
theorem m_nat_Shift_ok {n : Nat} {a1 : (List Int)} {a2 : Int} {r : ((List Int) × Int)} (hm : m_nat_Shift n a1 a2 = some r) : Fn Tryz.prog 73 [(.sl (a1.map D.i)), (.int .i64 a2)] (.tup [(.sl (r.1.map D.i)), (.int .i64 r.2)]) := by
  unfold m_nat_Shift at hm
  refine Fn.of_AW (fnn := Tryz.f73) Tryz.func73 rfl (Nat.le_of_ble_eq_true rfl) (fun g0 w0 hw0 => ?_)
  refine AW.seqR ?_
  refine AL.s rfl (op_assignN (.e rfl)) ?_
  refine AL.s rfl (op_assignD (.e rfl)) ?_
  refine AL.nil ?_
  refine AW.seq ?_
  refine AW.block ?_
  refine AW.reset 0 [(0, .d (.sl (a1.map D.i))), (1, .d (.int .i64 a2))] [] (WOK.g0 hw0 (by simp)) ⟨[], rfl, rfl, rfl, ⟨(.d rfl), (.d rfl), trivial⟩, trivial, .nil⟩ ?_
  refine AW.seqR ?_
  refine AL.s rfl (op_moveD (.e rfl)) ?_
  obtain ⟨v3, hv3, hm⟩ := bindE hm
  refine AL.s rfl (op_fn Tryz.call96 (.e rfl) (.cons (.r rfl) .nil) (m_nat_Valid_ok hv3)) ?_
  refine AL.s rfl (op_not (.r rfl)) ?_
  refine AL.s rfl (op_assignD (.e rfl)) ?_
  refine AL.nil ?_
  refine AW.cond (b := _) rfl (fun hc1 => ?_) (fun hc1 => ?_)
  · replace hm := iteT hc1 hm
    refine AW.seqR ?_
    refine AL.s rfl (op_assignN (.e rfl)) ?_
    refine AL.s rfl (op_assignD (.e rfl)) ?_
    refine AL.nil ?_
    refine AW.ret ?_
    refine bq_ret ?_
    refine tq_ret ?_
    obtain rfl := Option.some.inj hm
    exact EndQ.d (.tmp (.e rfl) (.tmp (.e rfl) .nil)) rfl rfl
  · replace hm := iteF hc1 hm
    refine AW.seqR ?_
    refine AL.s rfl (op_moveD (.e rfl)) ?_
    refine AL.s rfl (op_lss (.r rfl) (.r rfl)) ?_
    refine AL.s rfl (op_moveD (.e rfl)) ?_
    refine AL.sF rfl rfl rfl rfl (fun g => op_moveD (.e rfl)) ?_
    refine AL.sF rfl rfl rfl rfl (fun g => op_gtr (.we (nt g) rfl rfl) (.r rfl)) ?_
    refine AL.s rfl (op_or (.r rfl) rfl (fun h => (.we (nt h) rfl rfl))) ?_
    refine AL.s rfl (op_assignD (.e rfl)) ?_
    refine AL.nil ?_
    refine AW.cond (b := _) rfl (fun hc2 => ?_) (fun hc2 => ?_)
    · replace hm := iteT hc2 hm
      refine AW.seqR ?_
      refine AL.s rfl (op_assignN (.e rfl)) ?_
      refine AL.s rfl (op_assignD (.e rfl)) ?_
      refine AL.nil ?_
      refine AW.ret ?_
      refine bq_ret ?_
      refine tq_ret ?_
      obtain rfl := Option.some.inj hm
      exact EndQ.d (.tmp (.e rfl) (.tmp (.e rfl) .nil)) rfl rfl
    · replace hm := iteF hc2 hm
      refine AW.seqR ?_
      refine AL.s rfl (op_moveD (.e rfl)) ?_
      refine AL.s rfl (op_lenM (f := D.i) (.r rfl) sl81) ?_
      refine AL.s rfl (op_eql (.r rfl) (.r rfl)) ?_
      refine AL.s rfl (op_assignD (.e rfl)) ?_
      refine AL.nil ?_
      refine AW.cond (b := _) rfl (fun hc3 => ?_) (fun hc3 => ?_)
      · replace hm := iteT hc3 hm
        refine AW.seqR ?_
        refine AL.s rfl (op_assignN (.e rfl)) ?_
        refine AL.s rfl (op_assignD (.e rfl)) ?_
        refine AL.nil ?_
        refine AW.ret ?_
        refine bq_ret ?_
        refine tq_ret ?_
        obtain rfl := Option.some.inj hm
        exact EndQ.d (.tmp (.e rfl) (.tmp (.e rfl) .nil)) rfl rfl
      · replace hm := iteF hc3 hm
        refine AW.skip ?_
        refine bq_n ?_
        refine nq ?_
        refine AW.free ?_
        refine AW.free ?_
        refine AW.seqD [([], []), ([], []), ([], [0]), ([], []), ([], []), ([], []), ([], []), ([], []), ([], []), ([0], [0, 1]), ([], [])] mo (by decide +kernel) ?_
        refine AD.s (ws := []) rfl rfl (fun H' _ hH => op_moveD (.e rfl)) ?_
        obtain ⟨v4, hv4, hm⟩ := bindE hm
        refine AD.s (ws := []) rfl rfl (fun H' _ hH => op_quoM (.r rfl) (.r rfl) hv4) ?_
        obtain ⟨v5, hv5, hm⟩ := bindE hm
        refine AD.s (ws := [(0, _)]) rfl rfl (fun H' _ hH => op_makeR (res := 0) (f := D.i) (.r rfl) sl81 zr3 rfl ((hH _ (by simp)).trans rfl) hv5) ?_
        refine AD.s (ws := []) rfl rfl (fun H' _ hH => op_moveD (.e rfl)) ?_
        refine AD.s (ws := []) rfl rfl (fun H' _ hH => op_moveD (.e rfl)) ?_
        obtain ⟨v6, hv6, hm⟩ := bindE hm
        refine AD.s (ws := []) rfl rfl (fun H' _ hH => op_remM (.r rfl) (.r rfl) hv6) ?_
        obtain ⟨v7, hv7, hm⟩ := bindE hm
        refine AD.s (ws := []) rfl rfl (fun H' _ hH => op_shlM (.r rfl) (.r rfl) hv7) ?_
        refine AD.s (ws := []) rfl rfl (fun H' _ hH => op_buildSlice (ds := ([v7] : List Int).map D.i) sl81 (.cons (.r rfl) rfl (En.i.one _) .nil) rfl (by decide)) ?_
        obtain ⟨v8, hv8, hm⟩ := bindE hm
        refine AD.s (ws := []) rfl rfl (fun H' _ hH => op_fn Tryz.call98 (.e rfl) (.cons (.r rfl) (.cons (.r rfl) .nil)) (m_nat_times_ok hv8)) ?_
        obtain ⟨v9, hv9, hm⟩ := bindE hm
        refine AD.s (ws := [(0, _), (1, _)]) rfl rfl (fun H' _ hH => op_appendHRM (res := 1) (f := D.i) (l := v5) (l' := v8) sl81 (.e rfl) (.r rfl) ((hH _ (by simp)).trans rfl) rfl ((hH _ (by simp)).trans rfl) En.i hv9) ?_
        refine AD.s (ws := []) rfl rfl (fun H' _ hH => op_assignH (.e rfl)) ?_
        refine AD.nil ?_
        refine AW.freeze (f := D.i) (l := v9) 1 [6, 31] rfl rfl En.i ⟨rfl, rfl, trivial⟩ ?_
        refine AW.seqR ?_
        refine AL.s rfl (op_moveD (.e rfl)) ?_
        obtain ⟨v10, hv10, hm⟩ := bindE hm
        refine AL.s rfl (op_fn Tryz.call99 (.e rfl) (.cons (.r rfl) .nil) (m_nat_limited_ok hv10)) ?_
        refine AL.s rfl (op_extractD (.e rfl) rfl) ?_
        refine AL.s rfl (op_extractD (.e rfl) rfl) ?_
        refine AL.s rfl (op_assignD (.e rfl)) ?_
        refine AL.s rfl (op_assignD (.e rfl)) ?_
        refine AL.nil ?_
        refine AW.ret ?_
        obtain rfl := Option.some.inj hm
        exact EndQ.d (.tmp (.e rfl) (.tmp (.e rfl) .nil)) rfl rfl

set_option maxHeartbeats 20000000 in
theorem m_cmp_isNaN_int_ok {n : Nat} {a1 : Int} {r : Bool} (hm : m_cmp_isNaN_int n a1 = some r) : Fn Tryz.prog 125 [(.int .i64 a1)] (.bool r) := by
  unfold m_cmp_isNaN_int at hm
  refine Fn.of_AW (fnn := Tryz.f125) Tryz.func125 rfl (Nat.le_of_ble_eq_true rfl) (fun g0 w0 hw0 => ?_)
  refine AW.seqR ?_
  refine AL.s rfl (op_assignD (.e rfl)) ?_
  refine AL.nil ?_
  refine AW.seqR ?_
  refine AL.s rfl (op_moveD (.e rfl)) ?_
  refine AL.s rfl (op_moveD (.e rfl)) ?_
  refine AL.s rfl (op_neq (.r rfl) (.r rfl)) ?_
  refine AL.s rfl (op_assignD (.e rfl)) ?_
  refine AL.nil ?_
  refine AW.ret ?_
  obtain rfl := Option.some.inj hm
  exact EndQ.d (.tmp (.e rfl) .nil) rfl rfl

set_option maxHeartbeats 20000000 in
theorem m_cmp_Compare_int_ok {n : Nat} {a1 : Int} {a2 : Int} {r : Int} (hm : m_cmp_Compare_int n a1 a2 = some r) : Fn Tryz.prog 116 [(.int .i64 a1), (.int .i64 a2)] (.int .i64 r) := by
  unfold m_cmp_Compare_int at hm
  refine Fn.of_AW (fnn := Tryz.f116) Tryz.func116 rfl (Nat.le_of_ble_eq_true rfl) (fun g0 w0 hw0 => ?_)
  refine AW.seqR ?_
  refine AL.s rfl (op_assignD (.e rfl)) ?_
  refine AL.nil ?_
  refine AW.seqR ?_
  refine AL.s rfl (op_moveD (.e rfl)) ?_
  obtain ⟨v3, hv3, hm⟩ := bindE hm
  refine AL.s rfl (op_fn Tryz.call125 (.e rfl) (.cons (.r rfl) .nil) (m_cmp_isNaN_int_ok hv3)) ?_
  refine AL.s rfl (op_assignD (.e rfl)) ?_
  refine AL.nil ?_
  refine AW.seqR ?_
  refine AL.s rfl (op_moveD (.e rfl)) ?_
  obtain ⟨v4, hv4, hm⟩ := bindE hm
  refine AL.s rfl (op_fn Tryz.call125 (.e rfl) (.cons (.r rfl) .nil) (m_cmp_isNaN_int_ok hv4)) ?_
  refine AL.s rfl (op_assignD (.e rfl)) ?_
  refine AL.nil ?_
  refine AW.seq ?_
  refine AW.seqR ?_
  refine AL.s rfl (op_moveD (.e rfl)) ?_
  refine AL.nil ?_
  refine AW.cond (b := _) rfl (fun hc1 => ?_) (fun hc1 => ?_)
  · replace hm := iteT hc1 hm
    refine AW.seq ?_
    refine AW.seqR ?_
    refine AL.s rfl (op_moveD (.e rfl)) ?_
    refine AL.nil ?_
    refine AW.cond (b := _) rfl (fun hc2 => ?_) (fun hc2 => ?_)
    · replace hm := iteT hc2 hm
      refine AW.seqR ?_
      refine AL.s rfl (op_assignD (.e rfl)) ?_
      refine AL.nil ?_
      refine AW.ret ?_
      refine tq_ret ?_
      refine tq_ret ?_
      obtain rfl := Option.some.inj hm
      exact EndQ.d (.tmp (.e rfl) .nil) rfl rfl
    · replace hm := iteF hc2 hm
      refine AW.skip ?_
      refine nq ?_
      refine AW.seqR ?_
      refine AL.s rfl (op_assignD (.e rfl)) ?_
      refine AL.nil ?_
      refine AW.ret ?_
      refine tq_ret ?_
      obtain rfl := Option.some.inj hm
      exact EndQ.d (.tmp (.e rfl) .nil) rfl rfl
  · replace hm := iteF hc1 hm
    refine AW.skip ?_
    refine nq ?_
    refine AW.seq ?_
    refine AW.seqR ?_
    refine AL.s rfl (op_moveD (.e rfl)) ?_
    refine AL.nil ?_
    refine AW.cond (b := _) rfl (fun hc3 => ?_) (fun hc3 => ?_)
    · replace hm := iteT hc3 hm
      refine AW.seqR ?_
      refine AL.s rfl (op_assignD (.e rfl)) ?_
      refine AL.nil ?_
      refine AW.ret ?_
      refine tq_ret ?_
      obtain rfl := Option.some.inj hm
      exact EndQ.d (.tmp (.e rfl) .nil) rfl rfl
    · replace hm := iteF hc3 hm
      refine AW.skip ?_
      refine nq ?_
      refine AW.seq ?_
      refine AW.seqR ?_
      refine AL.s rfl (op_moveD (.e rfl)) ?_
      refine AL.s rfl (op_moveD (.e rfl)) ?_
      refine AL.s rfl (op_lss (.r rfl) (.r rfl)) ?_
      refine AL.nil ?_
      refine AW.cond (b := _) rfl (fun hc4 => ?_) (fun hc4 => ?_)
      · replace hm := iteT hc4 hm
        refine AW.seqR ?_
        refine AL.s rfl (op_assignD (.e rfl)) ?_
        refine AL.nil ?_
        refine AW.ret ?_
        refine tq_ret ?_
        obtain rfl := Option.some.inj hm
        exact EndQ.d (.tmp (.e rfl) .nil) rfl rfl
      · replace hm := iteF hc4 hm
        refine AW.skip ?_
        refine nq ?_
        refine AW.seq ?_
        refine AW.seqR ?_
        refine AL.s rfl (op_moveD (.e rfl)) ?_
        refine AL.s rfl (op_moveD (.e rfl)) ?_
        refine AL.s rfl (op_gtr (.r rfl) (.r rfl)) ?_
        refine AL.nil ?_
        refine AW.cond (b := _) rfl (fun hc5 => ?_) (fun hc5 => ?_)
        · replace hm := iteT hc5 hm
          refine AW.reset 0 [] [] (WOK.g0 hw0 (by simp)) ⟨[], rfl, rfl, rfl, trivial, trivial, .nil⟩ ?_
          refine AW.seqR ?_
          refine AL.s rfl (op_assignD (.e rfl)) ?_
          refine AL.nil ?_
          refine AW.ret ?_
          refine tq_ret ?_
          obtain rfl := Option.some.inj hm
          exact EndQ.d (.tmp (.e rfl) .nil) rfl rfl
        · replace hm := iteF hc5 hm
          refine AW.skip ?_
          refine nq ?_
          refine AW.seqR ?_
          refine AL.s rfl (op_assignD (.e rfl)) ?_
          refine AL.nil ?_
          refine AW.ret ?_
          obtain rfl := Option.some.inj hm
          exact EndQ.d (.tmp (.e rfl) .nil) rfl rfl

set_option maxHeartbeats 20000000 in
theorem m_nat_compare_ok {n : Nat} {a1 : (List Int)} {a2 : (List Int)} {r : Int} (hm : m_nat_compare n a1 a2 = some r) : Fn Tryz.prog 100 [(.sl (a1.map D.i)), (.sl (a2.map D.i))] (.int .i64 r) := by
  unfold m_nat_compare at hm
  refine Fn.of_AW (fnn := Tryz.f100) Tryz.func100 rfl (Nat.le_of_ble_eq_true rfl) (fun g0 w0 hw0 => ?_)
  refine AW.reset 0 [(0, .d (.sl (a1.map D.i))), (1, .d (.sl (a2.map D.i)))] [] (WOK.g0 hw0 (by simp)) ⟨[], rfl, rfl, rfl, ⟨(.d rfl), (.d rfl), trivial⟩, trivial, .nil⟩ ?_
  refine AW.seqR ?_
  refine AL.s rfl (op_assignD (.e rfl)) ?_
  refine AL.nil ?_
  refine AW.seq ?_
  refine AW.seqR ?_
  refine AL.s rfl (op_moveD (.e rfl)) ?_
  refine AL.s rfl (op_lenM (f := D.i) (.r rfl) sl81) ?_
  refine AL.s rfl (op_moveD (.e rfl)) ?_
  refine AL.s rfl (op_lenM (f := D.i) (.r rfl) sl81) ?_
  refine AL.s rfl (op_neq (.r rfl) (.r rfl)) ?_
  refine AL.nil ?_
  refine AW.cond (b := _) rfl (fun hc1 => ?_) (fun hc1 => ?_)
  · replace hm := iteT hc1 hm
    refine AW.seqR ?_
    refine AL.s rfl (op_moveD (.e rfl)) ?_
    refine AL.s rfl (op_lenM (f := D.i) (.r rfl) sl81) ?_
    refine AL.s rfl (op_moveD (.e rfl)) ?_
    refine AL.s rfl (op_lenM (f := D.i) (.r rfl) sl81) ?_
    obtain ⟨v3, hv3, hm⟩ := bindE hm
    refine AL.s rfl (op_fn Tryz.call116 (.e rfl) (.cons (.r rfl) (.cons (.r rfl) .nil)) (m_cmp_Compare_int_ok hv3)) ?_
    refine AL.s rfl (op_assignD (.e rfl)) ?_
    refine AL.nil ?_
    refine AW.ret ?_
    refine tq_ret ?_
    obtain rfl := Option.some.inj hm
    exact EndQ.d (.tmp (.e rfl) .nil) rfl rfl
  · replace hm := iteF hc1 hm
    refine AW.skip ?_
    refine nq ?_
    refine AW.seq ?_
    refine AW.seqR ?_
    refine AL.s rfl (op_moveD (.e rfl)) ?_
    refine AL.s rfl (op_lenM (f := D.i) (.r rfl) sl81) ?_
    refine AL.s rfl (op_moveD (.e rfl)) ?_
    refine AL.nil ?_
    refine AW.block ?_
    obtain ⟨t_1, hI1, hk1⟩ := bindE hm
    refine AW.loopS (σ := Int) (τ := (Int ⊕ Unit)) 0 (fun x => [(0, .d (.sl (a1.map D.i))), (1, .d (.sl (a2.map D.i))), (18, .d (.int .i64 (a1.length : Int))), (19, .d (.int .i64 x))]) (fun x => []) hI1 (WOK.g0 hw0 (by simp)) ⟨[], rfl, rfl, rfl, ⟨(.d rfl), (.d rfl), (.d rfl), (.d rfl), trivial⟩, trivial, .nil⟩ ?_
    rintro n1 s4 hI1
    obtain ⟨y_1, hm, hI1⟩ := iterS hI1
    replace hm : m_nat_compare_L1 n _ _ s4 = some y_1 := hm
    unfold m_nat_compare_L1 at hm
    try dsimp only at hm
    refine AW.seqR ?_
    refine AL.s rfl (op_lss (.r rfl) (.r rfl)) ?_
    refine AL.nil ?_
    refine AW.seq ?_
    refine AW.cond (b := _) rfl (fun hc2 => ?_) (fun hc2 => ?_)
    · replace hm := iteT hc2 hm
      refine AW.skip ?_
      refine nq ?_
      refine AW.seq ?_
      refine AW.block ?_
      refine AW.seqR ?_
      refine AL.s rfl (op_moveD (.e rfl)) ?_
      refine AL.s rfl (op_assignD (.e rfl)) ?_
      refine AL.nil ?_
      refine AW.seqR ?_
      refine AL.s rfl (op_moveD (.e rfl)) ?_
      refine AL.s rfl (op_lenM (f := D.i) (.r rfl) sl81) ?_
      refine AL.s rfl (op_subw (.r rfl) (.r rfl)) ?_
      refine AL.s rfl (op_moveD (.e rfl)) ?_
      refine AL.s rfl (op_subw (.r rfl) (.r rfl)) ?_
      refine AL.s rfl (op_assignD (.e rfl)) ?_
      refine AL.nil ?_
      refine AW.seqD [([], []), ([], []), ([], []), ([], []), ([], []), ([], []), ([], []), ([], []), ([], [])] mo (by decide +kernel) ?_
      refine AD.s (ws := []) rfl rfl (fun H' _ hH => op_moveD (.e rfl)) ?_
      refine AD.s (ws := []) rfl rfl (fun H' _ hH => op_moveD (.e rfl)) ?_
      obtain ⟨v5, hv5, hm⟩ := bindE hm
      refine AD.s (ws := []) rfl rfl (fun H' _ hH => op_indexAddrM (f := D.i) (.r rfl) (.r rfl) hv5 En.i sl81) ?_
      refine AD.s (ws := []) rfl rfl (fun H' _ hH => op_load_vp1 (.e rfl) rfl sc3) ?_
      refine AD.s (ws := []) rfl rfl (fun H' _ hH => op_moveD (.e rfl)) ?_
      refine AD.s (ws := []) rfl rfl (fun H' _ hH => op_moveD (.e rfl)) ?_
      obtain ⟨v6, hv6, hm⟩ := bindE hm
      refine AD.s (ws := []) rfl rfl (fun H' _ hH => op_indexAddrM (f := D.i) (.r rfl) (.r rfl) hv6 En.i sl81) ?_
      refine AD.s (ws := []) rfl rfl (fun H' _ hH => op_load_vp1 (.e rfl) rfl sc3) ?_
      refine AD.s (ws := []) rfl rfl (fun H' _ hH => op_neq (.r rfl) (.r rfl)) ?_
      refine AD.nil ?_
      refine AW.cond (b := _) rfl (fun hc3 => ?_) (fun hc3 => ?_)
      · replace hm := iteT hc3 hm
        refine AW.seqD [([], []), ([], []), ([], []), ([], []), ([], []), ([], []), ([], []), ([], []), ([], []), ([], [])] mo (by decide +kernel) ?_
        refine AD.s (ws := []) rfl rfl (fun H' _ hH => op_moveD (.e rfl)) ?_
        refine AD.s (ws := []) rfl rfl (fun H' _ hH => op_moveD (.e rfl)) ?_
        obtain ⟨v7, hv7, hm⟩ := bindE hm
        refine AD.s (ws := []) rfl rfl (fun H' _ hH => op_indexAddrM (f := D.i) (.r rfl) (.r rfl) hv7 En.i sl81) ?_
        refine AD.s (ws := []) rfl rfl (fun H' _ hH => op_load_vp1 (.e rfl) rfl sc3) ?_
        refine AD.s (ws := []) rfl rfl (fun H' _ hH => op_moveD (.e rfl)) ?_
        refine AD.s (ws := []) rfl rfl (fun H' _ hH => op_moveD (.e rfl)) ?_
        obtain ⟨v8, hv8, hm⟩ := bindE hm
        refine AD.s (ws := []) rfl rfl (fun H' _ hH => op_indexAddrM (f := D.i) (.r rfl) (.r rfl) hv8 En.i sl81) ?_
        refine AD.s (ws := []) rfl rfl (fun H' _ hH => op_load_vp1 (.e rfl) rfl sc3) ?_
        obtain ⟨v9, hv9, hm⟩ := bindE hm
        refine AD.s (ws := []) rfl rfl (fun H' _ hH => op_fn Tryz.call116 (.e rfl) (.cons (.r rfl) (.cons (.r rfl) .nil)) (m_cmp_Compare_int_ok hv9)) ?_
        refine AD.s (ws := []) rfl rfl (fun H' _ hH => op_assignD (.e rfl)) ?_
        refine AD.nil ?_
        refine AW.ret ?_
        refine bq_ret ?_
        refine tq_ret ?_
        refine tq_ret ?_
        obtain rfl := Option.some.inj hm
        obtain rfl := Option.some.inj hI1
        replace hm := hk1
        try dsimp only at hm
        refine bq_ret ?_
        refine tq_ret ?_
        obtain rfl := Option.some.inj hm
        exact EndQ.d (.tmp (.e rfl) .nil) rfl rfl
      · replace hm := iteF hc3 hm
        refine AW.skip ?_
        refine bq_n ?_
        refine nq ?_
        refine AW.region ?_
        refine AL.s rfl (op_addw (.r rfl) (.r rfl)) ?_
        refine AL.s rfl (op_moveD (.e rfl)) ?_
        refine AL.nil ?_
        obtain rfl := Option.some.inj hm
        exact nq ⟨_, hI1, ⟨[], rfl, rfl, rfl, ⟨(.d rfl), (.d rfl), (.d rfl), (.d rfl), trivial⟩, trivial, .nil⟩⟩
    · replace hm := iteF hc2 hm
      refine AW.exit ?_
      refine tq_exit ?_
      refine tq_exit ?_
      obtain rfl := Option.some.inj hm
      obtain rfl := Option.some.inj hI1
      replace hm := hk1
      try dsimp only at hm
      refine bq_hit ?_
      refine nq ?_
      refine AW.seqR ?_
      refine AL.s rfl (op_assignD (.e rfl)) ?_
      refine AL.nil ?_
      refine AW.ret ?_
      obtain rfl := Option.some.inj hm
      exact EndQ.d (.tmp (.e rfl) .nil) rfl rfl

set_option maxHeartbeats 20000000 in
theorem m_nat_Compare_ok {n : Nat} {a1 : (List Int)} {a2 : (List Int)} {r : Int} (hm : m_nat_Compare n a1 a2 = some r) : Fn Tryz.prog 74 [(.sl (a1.map D.i)), (.sl (a2.map D.i))] (.int .i64 r) := by
  unfold m_nat_Compare at hm
  refine Fn.of_AW (fnn := Tryz.f74) Tryz.func74 rfl (Nat.le_of_ble_eq_true rfl) (fun g0 w0 hw0 => ?_)
  refine AW.seqR ?_
  refine AL.s rfl (op_assignD (.e rfl)) ?_
  refine AL.nil ?_
  refine AW.seq ?_
  refine AW.seqR ?_
  refine AL.s rfl (op_moveD (.e rfl)) ?_
  obtain ⟨v3, hv3, hm⟩ := bindE hm
  refine AL.s rfl (op_fn Tryz.call96 (.e rfl) (.cons (.r rfl) .nil) (m_nat_Valid_ok hv3)) ?_
  refine AL.s rfl (op_not (.r rfl)) ?_
  refine AL.s rfl (op_moveD (.e rfl)) ?_
  refine AL.sF rfl rfl rfl rfl (fun g => op_moveD (.e rfl)) ?_
  obtain ⟨v4, hv4, hm⟩ := bindE hm
  refine AL.sF rfl rfl rfl rfl (fun g => op_fn Tryz.call96 (.e rfl) (.cons (.we (nt g) rfl rfl) .nil) (m_nat_Valid_ok (iteT (nt g) hv4))) ?_
  refine AL.sF rfl rfl rfl rfl (fun g => op_not (.we (nt g) rfl rfl)) ?_
  refine AL.s rfl (op_or (.r rfl) rfl (fun h => (.we (nt h) rfl rfl))) ?_
  refine AL.nil ?_
  refine AW.cond (b := _) rfl (fun hc1 => ?_) (fun hc1 => ?_)
  · replace hm := iteT hc1 hm
    refine AW.seqR ?_
    refine AL.s rfl (op_assignD (.e rfl)) ?_
    refine AL.nil ?_
    refine AW.ret ?_
    refine tq_ret ?_
    obtain rfl := Option.some.inj hm
    exact EndQ.d (.tmp (.e rfl) .nil) rfl rfl
  · replace hm := iteF hc1 hm
    refine AW.skip ?_
    refine nq ?_
    refine AW.seqR ?_
    refine AL.s rfl (op_moveD (.e rfl)) ?_
    refine AL.s rfl (op_moveD (.e rfl)) ?_
    obtain ⟨v5, hv5, hm⟩ := bindE hm
    refine AL.s rfl (op_fn Tryz.call100 (.e rfl) (.cons (.r rfl) (.cons (.r rfl) .nil)) (m_nat_compare_ok hv5)) ?_
    refine AL.s rfl (op_assignD (.e rfl)) ?_
    refine AL.nil ?_
    refine AW.ret ?_
    obtain rfl := Option.some.inj hm
    exact EndQ.d (.tmp (.e rfl) .nil) rfl rfl

set_option maxHeartbeats 20000000 in
theorem m_odds_floor_ok {n : Nat} {a1 : (List Int)} {a2 : (List Int)} {r : Int} (hm : m_odds_floor n a1 a2 = some r) : Fn Tryz.prog 42 [(.sl (a1.map D.i)), (.sl (a2.map D.i))] (.int .i64 r) := by
  unfold m_odds_floor at hm
  refine Fn.of_AW (fnn := Tryz.f42) Tryz.func42 rfl (Nat.le_of_ble_eq_true rfl) (fun g0 w0 hw0 => ?_)
  refine AW.reset 0 [(0, .d (.sl (a1.map D.i))), (1, .d (.sl (a2.map D.i)))] [] (WOK.g0 hw0 (by simp)) ⟨[], rfl, rfl, rfl, ⟨(.d rfl), (.d rfl), trivial⟩, trivial, .nil⟩ ?_
  refine AW.seqR ?_
  refine AL.s rfl (op_assignD (.e rfl)) ?_
  refine AL.nil ?_
  refine AW.seqR ?_
  refine AL.s rfl (op_moveD (.e rfl)) ?_
  obtain ⟨v3, hv3, hm⟩ := bindE hm
  refine AL.s rfl (op_fn Tryz.call72 (.e rfl) (.cons (.r rfl) .nil) (m_nat_Bits_ok hv3)) ?_
  refine AL.s rfl (op_moveD (.e rfl)) ?_
  obtain ⟨v4, hv4, hm⟩ := bindE hm
  refine AL.s rfl (op_fn Tryz.call72 (.e rfl) (.cons (.r rfl) .nil) (m_nat_Bits_ok hv4)) ?_
  refine AL.s rfl (op_subw (.r rfl) (.r rfl)) ?_
  refine AL.s rfl (op_assignD (.e rfl)) ?_
  refine AL.nil ?_
  refine AW.seqR ?_
  refine AL.s rfl (op_moveD (.e rfl)) ?_
  refine AL.s rfl (op_moveD (.e rfl)) ?_
  refine AL.s rfl (op_max (.r rfl) (.r rfl)) ?_
  obtain ⟨v5, hv5, hm⟩ := bindE hm
  refine AL.s rfl (op_fn Tryz.call73 (.e rfl) (.cons (.r rfl) (.cons (.r rfl) .nil)) (m_nat_Shift_ok hv5)) ?_
  refine AL.s rfl (op_moveD (.e rfl)) ?_
  refine AL.s rfl (op_extractD (.e rfl) rfl) ?_
  refine AL.s rfl (op_extractD (.e rfl) rfl) ?_
  refine AL.s rfl (op_assignD (.e rfl)) ?_
  refine AL.s rfl (op_assignD (.e rfl)) ?_
  refine AL.nil ?_
  refine AW.seqR ?_
  refine AL.s rfl (op_moveD (.e rfl)) ?_
  refine AL.s rfl (op_moveD (.e rfl)) ?_
  refine AL.s rfl (op_negw (.r rfl)) ?_
  refine AL.s rfl (op_max (.r rfl) (.r rfl)) ?_
  obtain ⟨v6, hv6, hm⟩ := bindE hm
  refine AL.s rfl (op_fn Tryz.call73 (.e rfl) (.cons (.r rfl) (.cons (.r rfl) .nil)) (m_nat_Shift_ok hv6)) ?_
  refine AL.s rfl (op_moveD (.e rfl)) ?_
  refine AL.s rfl (op_extractD (.e rfl) rfl) ?_
  refine AL.s rfl (op_extractD (.e rfl) rfl) ?_
  refine AL.s rfl (op_assignD (.e rfl)) ?_
  refine AL.s rfl (op_assignD (.e rfl)) ?_
  refine AL.nil ?_
  obtain ⟨t_j1, hm, hkj1⟩ := bindE hm
  refine AW.cutS (α := Int) 0 (fun x => x = t_j1) (fun x => [(5, .d (.int .i64 x))]) (fun x => []) (WOK.g0 hw0 (by simp)) ?_ ?_
  · skip
    refine AW.seqR ?_
    refine AL.s rfl (op_moveD (.e rfl)) ?_
    refine AL.s rfl (op_moveD (.e rfl)) ?_
    obtain ⟨v7, hv7, hm⟩ := bindE hm
    refine AL.s rfl (op_fn Tryz.call74 (.e rfl) (.cons (.r rfl) (.cons (.r rfl) .nil)) (m_nat_Compare_ok hv7)) ?_
    refine AL.s rfl (op_gtr (.r rfl) (.r rfl)) ?_
    refine AL.nil ?_
    refine AW.cond (b := _) rfl (fun hc1 => ?_) (fun hc1 => ?_)
    · replace hm := iteT hc1 hm
      refine AW.region ?_
      refine AL.s rfl (op_moveD (.e rfl)) ?_
      refine AL.s rfl (op_subw (.r rfl) (.r rfl)) ?_
      refine AL.s rfl (op_assignD (.e rfl)) ?_
      refine AL.nil ?_
      obtain rfl := Option.some.inj hm
      exact nq ⟨_, rfl, ⟨[], rfl, rfl, rfl, ⟨(.d rfl), trivial⟩, trivial, .nil⟩⟩
    · replace hm := iteF hc1 hm
      refine AW.skip ?_
      obtain rfl := Option.some.inj hm
      exact nq ⟨_, rfl, ⟨[], rfl, rfl, rfl, ⟨(.d rfl), trivial⟩, trivial, .nil⟩⟩
  · rintro s8 rfl
    replace hm := hkj1
    try dsimp only at hm
    refine AW.seqR ?_
    refine AL.s rfl (op_moveD (.e rfl)) ?_
    refine AL.s rfl (op_assignD (.e rfl)) ?_
    refine AL.nil ?_
    refine AW.ret ?_
    obtain rfl := Option.some.inj hm
    exact EndQ.d (.tmp (.e rfl) .nil) rfl rfl

set_option maxHeartbeats 20000000 in
theorem m_odds_Weight_ok {n : Nat} {a1 : (List SRatio)} {r : (Int × Int)} (hm : m_odds_Weight n a1 = some r) : Fn Tryz.prog 20 [(.sl (a1.map SRatio.e))] (.tup [(.int .i64 r.1), (.int .i64 r.2)]) := by
  unfold m_odds_Weight at hm
  refine Fn.of_AW (fnn := Tryz.f20) Tryz.func20 rfl (Nat.le_of_ble_eq_true rfl) (fun g0 w0 hw0 => ?_)
  refine AW.seqR ?_
  refine AL.s rfl (op_assignD (.e rfl)) ?_
  refine AL.s rfl (op_assignD (.e rfl)) ?_
  refine AL.nil ?_
  refine AW.seq ?_
  refine AW.seqR ?_
  refine AL.s rfl (op_moveD (.e rfl)) ?_
  obtain ⟨v2, hv2, hm⟩ := bindE hm
  refine AL.s rfl (op_fn Tryz.call38 (.e rfl) (.cons (.r rfl) .nil) (m_odds_Valid_ok hv2)) ?_
  refine AL.s rfl (op_not (.r rfl)) ?_
  refine AL.nil ?_
  refine AW.cond (b := _) rfl (fun hc1 => ?_) (fun hc1 => ?_)
  · replace hm := iteT hc1 hm
    refine AW.seqR ?_
    refine AL.s rfl (op_assignD (.e rfl)) ?_
    refine AL.s rfl (op_assignD (.e rfl)) ?_
    refine AL.nil ?_
    refine AW.ret ?_
    refine tq_ret ?_
    obtain rfl := Option.some.inj hm
    exact EndQ.d (.tmp (.e rfl) (.tmp (.e rfl) .nil)) rfl rfl
  · replace hm := iteF hc1 hm
    refine AW.skip ?_
    refine nq ?_
    refine AW.seqR ?_
    refine AL.s rfl (op_moveD (.e rfl)) ?_
    obtain ⟨v3, hv3, hm⟩ := bindE hm
    refine AL.s rfl (op_fn Tryz.call41 (.e rfl) (.cons (.r rfl) .nil) (m_odds_parts_ok hv3)) ?_
    refine AL.s rfl (op_moveD (.e rfl)) ?_
    refine AL.s rfl (op_extractD (.e rfl) rfl) ?_
    refine AL.s rfl (op_extractD (.e rfl) rfl) ?_
    refine AL.s rfl (op_assignD (.e rfl)) ?_
    refine AL.s rfl (op_assignD (.e rfl)) ?_
    refine AL.nil ?_
    refine AW.seqR ?_
    refine AL.s rfl (op_moveD (.e rfl)) ?_
    obtain ⟨v4, hv4, hm⟩ := bindE hm
    refine AL.s rfl (op_fn Tryz.call43 (.e rfl) (.cons (.r rfl) .nil) (m_odds_eighth_ok hv4)) ?_
    refine AL.s rfl (op_moveD (.e rfl)) ?_
    obtain ⟨v5, hv5, hm⟩ := bindE hm
    refine AL.s rfl (op_fn Tryz.call43 (.e rfl) (.cons (.r rfl) .nil) (m_odds_eighth_ok hv5)) ?_
    obtain ⟨v6, hv6, hm⟩ := bindE hm
    refine AL.s rfl (op_fn Tryz.call42 (.e rfl) (.cons (.r rfl) (.cons (.r rfl) .nil)) (m_odds_floor_ok hv6)) ?_
    refine AL.s rfl (op_assignD (.e rfl)) ?_
    refine AL.s rfl (op_assignD (.e rfl)) ?_
    refine AL.nil ?_
    refine AW.ret ?_
    obtain rfl := Option.some.inj hm
    exact EndQ.d (.tmp (.e rfl) (.tmp (.e rfl) .nil)) rfl rfl

set_option maxHeartbeats 20000000 in
theorem m_match_Weight_ok {n : Nat} {a1 : A72} {a2 : A7} {r : (Int × Int)} (hm : m_match_Weight n a1 a2 = some r) : Fn Tryz.prog 8 [(A72.e a1), (A7.e a2)] (.tup [(.int .i64 r.1), (.int .i64 r.2)]) := by
  unfold m_match_Weight at hm
  refine Fn.of_AW (fnn := Tryz.f8) Tryz.func8 rfl (Nat.le_of_ble_eq_true rfl) (fun g0 w0 hw0 => ?_)
  refine AW.seqR ?_
  refine AL.s rfl (op_box (n := 0) (.e rfl) rfl rfl rfl) ?_
  refine AL.s rfl (op_box (n := 1) (.e rfl) rfl rfl rfl) ?_
  refine AL.s rfl (op_assignD (.e rfl)) ?_
  refine AL.s rfl (op_assignD (.e rfl)) ?_
  refine AL.nil ?_
  refine AW.seqR ?_
  refine AL.s rfl (op_load_ptrA (.e rfl) rfl rfl rfl ag37) ?_
  refine AL.s rfl (op_load_ptrA (.e rfl) rfl rfl rfl ag39) ?_
  obtain ⟨v3, hv3, hm⟩ := bindE hm
  refine AL.s rfl (op_fn Tryz.call5 (.e rfl) (.cons (.r rfl) (.cons (.r rfl) .nil)) (m_match_Factors_ok hv3)) ?_
  refine AL.s rfl (op_moveD (.e rfl)) ?_
  refine AL.s rfl (op_extractD (.e rfl) rfl) ?_
  refine AL.s rfl (op_extractD (.e rfl) rfl) ?_
  refine AL.s rfl (op_assignD (.e rfl)) ?_
  refine AL.s rfl (op_assignD (.e rfl)) ?_
  refine AL.nil ?_
  refine AW.seq ?_
  refine AW.seqR ?_
  refine AL.s rfl (op_moveD (.e rfl)) ?_
  refine AL.s rfl (op_neq (.r rfl) (.r rfl)) ?_
  refine AL.nil ?_
  refine AW.cond (b := _) rfl (fun hc1 => ?_) (fun hc1 => ?_)
  · replace hm := iteT hc1 hm
    refine AW.seqR ?_
    refine AL.s rfl (op_moveD (.e rfl)) ?_
    refine AL.s rfl (op_assignD (.e rfl)) ?_
    refine AL.s rfl (op_assignD (.e rfl)) ?_
    refine AL.nil ?_
    refine AW.ret ?_
    refine tq_ret ?_
    obtain rfl := Option.some.inj hm
    exact EndQ.d (.tmp (.e rfl) (.tmp (.e rfl) .nil)) rfl rfl
  · replace hm := iteF hc1 hm
    refine AW.skip ?_
    refine nq ?_
    refine AW.seqR ?_
    refine AL.s rfl (op_moveD (.e rfl)) ?_
    obtain ⟨v4, hv4, hm⟩ := bindE hm
    refine AL.s rfl (op_fn Tryz.call20 (.e rfl) (.cons (.r rfl) .nil) (m_odds_Weight_ok hv4)) ?_
    refine AL.s rfl (op_extractD (.e rfl) rfl) ?_
    refine AL.s rfl (op_extractD (.e rfl) rfl) ?_
    refine AL.s rfl (op_assignD (.e rfl)) ?_
    refine AL.s rfl (op_assignD (.e rfl)) ?_
    refine AL.nil ?_
    refine AW.ret ?_
    obtain rfl := Option.some.inj hm
    exact EndQ.d (.tmp (.e rfl) (.tmp (.e rfl) .nil)) rfl rfl

set_option maxHeartbeats 20000000 in
theorem m_match_Editions_ok {n : Nat} {r : A72} (hm : m_match_Editions n  = some r) : Fn Tryz.prog 16 [] (A72.e r) := by
  unfold m_match_Editions at hm
  refine Fn.of_AW (fnn := Tryz.f16) Tryz.func16 rfl (Nat.le_of_ble_eq_true rfl) (fun g0 w0 hw0 => ?_)
  refine AW.seqR ?_
  refine AL.s rfl (op_alloc (n := 0) zr37 rfl) ?_
  refine AL.nil ?_
  refine AW.seqR ?_
  refine AL.s rfl (op_buildArrF ba73 (.cons (.e rfl) rfl rfl rfl rfl (Nat.le_of_ble_eq_true rfl) (.cons (.e rfl) rfl rfl rfl rfl (Nat.le_of_ble_eq_true rfl) (.cons (.e rfl) rfl rfl rfl rfl (Nat.le_of_ble_eq_true rfl) (.cons (.e rfl) rfl rfl rfl rfl (Nat.le_of_ble_eq_true rfl) (.cons (.e rfl) rfl rfl rfl rfl (Nat.le_of_ble_eq_true rfl) (.cons (.e rfl) rfl rfl rfl rfl (Nat.le_of_ble_eq_true rfl) .nil)))))) rfl rfl) ?_
  refine AL.s rfl (op_buildArrF ba73 (.cons (.e rfl) rfl rfl rfl rfl (Nat.le_of_ble_eq_true rfl) (.cons (.e rfl) rfl rfl rfl rfl (Nat.le_of_ble_eq_true rfl) (.cons (.e rfl) rfl rfl rfl rfl (Nat.le_of_ble_eq_true rfl) (.cons (.e rfl) rfl rfl rfl rfl (Nat.le_of_ble_eq_true rfl) (.cons (.e rfl) rfl rfl rfl rfl (Nat.le_of_ble_eq_true rfl) (.cons (.e rfl) rfl rfl rfl rfl (Nat.le_of_ble_eq_true rfl) .nil)))))) rfl rfl) ?_
  refine AL.s rfl (op_buildArrF ba73 (.cons (.e rfl) rfl rfl rfl rfl (Nat.le_of_ble_eq_true rfl) (.cons (.e rfl) rfl rfl rfl rfl (Nat.le_of_ble_eq_true rfl) (.cons (.e rfl) rfl rfl rfl rfl (Nat.le_of_ble_eq_true rfl) (.cons (.e rfl) rfl rfl rfl rfl (Nat.le_of_ble_eq_true rfl) (.cons (.e rfl) rfl rfl rfl rfl (Nat.le_of_ble_eq_true rfl) (.cons (.e rfl) rfl rfl rfl rfl (Nat.le_of_ble_eq_true rfl) .nil)))))) rfl rfl) ?_
  refine AL.s rfl (op_buildArrF ba73 (.cons (.e rfl) rfl rfl rfl rfl (Nat.le_of_ble_eq_true rfl) (.cons (.e rfl) rfl rfl rfl rfl (Nat.le_of_ble_eq_true rfl) (.cons (.e rfl) rfl rfl rfl rfl (Nat.le_of_ble_eq_true rfl) (.cons (.e rfl) rfl rfl rfl rfl (Nat.le_of_ble_eq_true rfl) (.cons (.e rfl) rfl rfl rfl rfl (Nat.le_of_ble_eq_true rfl) (.cons (.e rfl) rfl rfl rfl rfl (Nat.le_of_ble_eq_true rfl) .nil)))))) rfl rfl) ?_
  refine AL.s rfl (op_buildArrF ba73 (.cons (.e rfl) rfl rfl rfl rfl (Nat.le_of_ble_eq_true rfl) (.cons (.e rfl) rfl rfl rfl rfl (Nat.le_of_ble_eq_true rfl) (.cons (.e rfl) rfl rfl rfl rfl (Nat.le_of_ble_eq_true rfl) (.cons (.e rfl) rfl rfl rfl rfl (Nat.le_of_ble_eq_true rfl) (.cons (.e rfl) rfl rfl rfl rfl (Nat.le_of_ble_eq_true rfl) (.cons (.e rfl) rfl rfl rfl rfl (Nat.le_of_ble_eq_true rfl) .nil)))))) rfl rfl) ?_
  refine AL.s rfl (op_buildArrF ba73 (.cons (.e rfl) rfl rfl rfl rfl (Nat.le_of_ble_eq_true rfl) (.cons (.e rfl) rfl rfl rfl rfl (Nat.le_of_ble_eq_true rfl) (.cons (.e rfl) rfl rfl rfl rfl (Nat.le_of_ble_eq_true rfl) (.cons (.e rfl) rfl rfl rfl rfl (Nat.le_of_ble_eq_true rfl) (.cons (.e rfl) rfl rfl rfl rfl (Nat.le_of_ble_eq_true rfl) (.cons (.e rfl) rfl rfl rfl rfl (Nat.le_of_ble_eq_true rfl) .nil)))))) rfl rfl) ?_
  refine AL.s rfl (op_buildArrF ba73 (.cons (.e rfl) rfl rfl rfl rfl (Nat.le_of_ble_eq_true rfl) (.cons (.e rfl) rfl rfl rfl rfl (Nat.le_of_ble_eq_true rfl) (.cons (.e rfl) rfl rfl rfl rfl (Nat.le_of_ble_eq_true rfl) (.cons (.e rfl) rfl rfl rfl rfl (Nat.le_of_ble_eq_true rfl) (.cons (.e rfl) rfl rfl rfl rfl (Nat.le_of_ble_eq_true rfl) (.cons (.e rfl) rfl rfl rfl rfl (Nat.le_of_ble_eq_true rfl) .nil)))))) rfl rfl) ?_
  refine AL.s rfl (op_buildArrF ba74 (.cons (.e rfl) rfl rfl rfl rfl (Nat.le_of_ble_eq_true rfl) (.cons (.e rfl) rfl rfl rfl rfl (Nat.le_of_ble_eq_true rfl) (.cons (.e rfl) rfl rfl rfl rfl (Nat.le_of_ble_eq_true rfl) (.cons (.e rfl) rfl rfl rfl rfl (Nat.le_of_ble_eq_true rfl) (.cons (.e rfl) rfl rfl rfl rfl (Nat.le_of_ble_eq_true rfl) (.cons (.e rfl) rfl rfl rfl rfl (Nat.le_of_ble_eq_true rfl) (.cons (.e rfl) rfl rfl rfl rfl (Nat.le_of_ble_eq_true rfl) .nil))))))) rfl rfl) ?_
  obtain ⟨v1, hv1, hm⟩ := bindE hm
  refine AL.s rfl (op_fn Tryz.call35 (.e rfl) (.cons (.r rfl) .nil) (m_match_model_ok hv1)) ?_
  refine AL.s rfl (op_store (.e rfl) (.e rfl) rfl rfl rfl ⟨_, rfl, rfl⟩ rfl (Nat.le_of_ble_eq_true rfl)) ?_
  refine AL.nil ?_
  refine AW.ret ?_
  obtain rfl := Option.some.inj hm
  exact EndQ.d (.cellA (.e rfl) rfl rfl rfl ag37 .nil) rfl rfl

set_option maxHeartbeats 20000000 in
theorem m_law31_awake_ok {n : Nat} {r : Bool} (hm : m_law31_awake n  = some r) : Fn Tryz.prog 4 [] (.bool r) := by
  unfold m_law31_awake at hm
  refine Fn.of_AW (fnn := Tryz.f4) Tryz.func4 rfl (Nat.le_of_ble_eq_true rfl) (fun g0 w0 hw0 => ?_)
  refine AW.reset 0 [] [] (WOK.g0 hw0 (by simp)) ⟨[], rfl, rfl, rfl, trivial, trivial, .nil⟩ ?_
  refine AW.seqR ?_
  refine AL.s rfl (op_assignD (.e rfl)) ?_
  refine AL.nil ?_
  refine AW.seqR ?_
  refine AL.s rfl (op_buildSlice (ds := ([([102, 97, 117, 115, 116] : List UInt8)] : List (List UInt8)).map D.str) sl46 (.cons (.r rfl) rfl (En.str.one _) .nil) rfl (by decide)) ?_
  refine AL.s rfl (op_build bd54 (.cons (.e rfl) rfl rfl rfl rfl (Nat.le_of_ble_eq_true rfl) (.cons (.e rfl) rfl rfl rfl rfl (Nat.le_of_ble_eq_true rfl) (.cons (.e rfl) rfl rfl rfl rfl (Nat.le_of_ble_eq_true rfl) .nil)))) ?_
  refine AL.s rfl (op_alloc (n := 0) zr54 rfl) ?_
  refine AL.s rfl (op_storeA (.e rfl) (.e rfl) rfl rfl ⟨_, rfl, rfl⟩ rfl (Nat.le_of_ble_eq_true rfl)) ?_
  refine AL.nil ?_
  refine AW.seqR ?_
  refine AL.s rfl (op_buildSlice (ds := ([([102, 97, 117, 115, 116] : List UInt8)] : List (List UInt8)).map D.str) sl46 (.cons (.r rfl) rfl (En.str.one _) .nil) rfl (by decide)) ?_
  refine AL.s rfl (op_build bd54 (.cons (.e rfl) rfl rfl rfl rfl (Nat.le_of_ble_eq_true rfl) (.cons (.e rfl) rfl rfl rfl rfl (Nat.le_of_ble_eq_true rfl) (.cons (.e rfl) rfl rfl rfl rfl (Nat.le_of_ble_eq_true rfl) .nil)))) ?_
  refine AL.s rfl (op_alloc (n := 1) zr54 rfl) ?_
  refine AL.s rfl (op_storeA (.e rfl) (.e rfl) rfl rfl ⟨_, rfl, rfl⟩ rfl (Nat.le_of_ble_eq_true rfl)) ?_
  refine AL.nil ?_
  refine AW.seqR ?_
  refine AL.s rfl (op_load_ptrA (.e rfl) rfl rfl rfl ag54) ?_
  refine AL.s rfl (op_load_ptrA (.e rfl) rfl rfl rfl ag54) ?_
  obtain ⟨v1, hv1, hm⟩ := bindE hm
  refine AL.s rfl (op_fn Tryz.call13 (.e rfl) (.cons (.r rfl) (.cons (.r rfl) .nil)) (m_match_Compare_ok hv1)) ?_
  refine AL.s rfl (op_moveD (.e rfl)) ?_
  refine AL.s rfl (op_extractD (.e rfl) rfl) ?_
  refine AL.s rfl (op_extractD (.e rfl) rfl) ?_
  refine AL.s rfl (op_alloc (n := 2) zr39 rfl) ?_
  refine AL.s rfl (op_store (.e rfl) (.e rfl) rfl rfl rfl ⟨_, rfl, rfl⟩ rfl (Nat.le_of_ble_eq_true rfl)) ?_
  refine AL.s rfl (op_assignD (.e rfl)) ?_
  refine AL.nil ?_
  refine AW.seqD [([], []), ([2], []), ([], []), ([], []), ([], []), ([], []), ([], []), ([], [])] mo (by decide +kernel) ?_
  obtain ⟨v2, hv2, hm⟩ := bindE hm
  refine AD.s (ws := []) rfl rfl (fun H' _ hH => op_fn Tryz.call14 (.e rfl) .nil (m_match_Works_ok hv2)) ?_
  refine AD.s (ws := []) rfl rfl (fun H' _ hH => op_load_ptrA (.e rfl) ((hH _ (by simp)).trans rfl) rfl rfl ag39) ?_
  obtain ⟨v3, hv3, hm⟩ := bindE hm
  refine AD.s (ws := []) rfl rfl (fun H' _ hH => op_fn Tryz.call8 (.e rfl) (.cons (.r rfl) (.cons (.r rfl) .nil)) (m_match_Weight_ok hv3)) ?_
  refine AD.s (ws := []) rfl rfl (fun H' _ hH => op_moveD (.e rfl)) ?_
  refine AD.s (ws := []) rfl rfl (fun H' _ hH => op_extractD (.e rfl) rfl) ?_
  refine AD.s (ws := []) rfl rfl (fun H' _ hH => op_extractD (.e rfl) rfl) ?_
  refine AD.s (ws := []) rfl rfl (fun H' _ hH => op_assignD (.e rfl)) ?_
  refine AD.s (ws := []) rfl rfl (fun H' _ hH => op_assignD (.e rfl)) ?_
  refine AD.nil ?_
  refine AW.seqR ?_
  refine AL.s rfl (op_moveD (.e rfl)) ?_
  refine AL.s rfl (op_eql (.r rfl) (.r rfl)) ?_
  refine AL.s rfl (op_moveD (.e rfl)) ?_
  refine AL.sT rfl rfl rfl rfl (fun g => op_moveD (.e rfl)) ?_
  refine AL.sT rfl rfl rfl rfl (fun g => op_eql (.we g rfl rfl) (.r rfl)) ?_
  refine AL.s rfl (op_and (.r rfl) (fun h => (.we h rfl rfl)) rfl) ?_
  refine AL.s rfl (op_moveD (.e rfl)) ?_
  refine AL.sT rfl rfl rfl rfl (fun g => op_moveD (.e rfl)) ?_
  refine AL.sT rfl rfl rfl rfl (fun g => op_eql (.we g rfl rfl) (.r rfl)) ?_
  refine AL.s rfl (op_and (.r rfl) (fun h => (.we h rfl rfl)) rfl) ?_
  refine AL.s rfl (op_moveD (.e rfl)) ?_
  refine AL.sT rfl rfl rfl rfl (fun g => op_load_ptrA (.e rfl) rfl rfl rfl ag39) ?_
  refine AL.sT rfl rfl rfl rfl (fun g => op_buildArr ba39 (.cons (.e rfl) rfl rfl rfl rfl (Nat.le_of_ble_eq_true rfl) (.cons (.e rfl) rfl rfl rfl rfl (Nat.le_of_ble_eq_true rfl) .nil))) ?_
  refine AL.sT rfl rfl rfl rfl (fun g => op_eqlSt (a := (⟨v1.1.e0, v1.1.e1, v1.1.e2, v1.1.e3, v1.1.e4, v1.1.e5, v1.1.e6⟩ : A7)) (b := (⟨(1 : Int), (1 : Int), (0 : Int), (0 : Int), (0 : Int), (0 : Int), (0 : Int)⟩ : A7)) es39 (.we g rfl rfl) (.we g rfl rfl)) ?_
  refine AL.s rfl (op_and (.r rfl) (fun h => (.we h rfl rfl)) rfl) ?_
  refine AL.s rfl (op_moveD (.e rfl)) ?_
  obtain ⟨v4, hv4, hm⟩ := bindE hm
  refine AL.sT rfl rfl rfl rfl (fun g => op_fn Tryz.call16 (.e rfl) .nil (m_match_Editions_ok (iteT g hv4))) ?_
  obtain ⟨v5, hv5, hm⟩ := bindE hm
  refine AL.sT rfl rfl rfl rfl (fun g => op_fn Tryz.call15 (.e rfl) (.cons (.we g rfl rfl) .nil) (m_match_Valid_ok (iteT g hv5))) ?_
  refine AL.s rfl (op_and (.r rfl) (fun h => (.we h rfl rfl)) rfl) ?_
  refine AL.s rfl (op_assignD (.e rfl)) ?_
  refine AL.nil ?_
  refine AW.ret ?_
  obtain rfl := Option.some.inj hm
  exact EndQ.d (.tmp (.e rfl) .nil) rfl rfl

set_option maxHeartbeats 20000000 in
theorem m_law31_Own_ok {n : Nat} {a1 : A72} {r : A72} (hm : m_law31_Own n a1 = some r) : Fn Tryz.prog 6 [(A72.e a1)] (A72.e r) := by
  unfold m_law31_Own at hm
  refine Fn.of_AW (fnn := Tryz.f6) Tryz.func6 rfl (Nat.le_of_ble_eq_true rfl) (fun g0 w0 hw0 => ?_)
  refine AW.reset 0 [(0, .d (A72.e a1))] [] (WOK.g0 hw0 (by simp)) ⟨[], rfl, rfl, rfl, ⟨(.d rfl), trivial⟩, trivial, .nil⟩ ?_
  refine AW.seqR ?_
  refine AL.s rfl (op_box (n := 0) (.e rfl) rfl rfl rfl) ?_
  refine AL.s rfl (op_alloc (n := 1) zr37 rfl) ?_
  refine AL.nil ?_
  refine AW.seqR ?_
  refine AL.s rfl (op_alloc (n := 2) zr37 rfl) ?_
  refine AL.nil ?_
  refine AW.seq ?_
  refine AW.seqR ?_
  refine AL.s rfl (op_moveD (.e rfl)) ?_
  refine AL.nil ?_
  refine AW.block ?_
  obtain ⟨t_1, hI1, hk1⟩ := bindE hm
  refine AW.loopS (σ := (Int × A72)) (τ := A72) 0 (fun x => [(1, .ptr 0 0), (2, .ptr 1 0), (3, .ptr 2 0), (6, .d (.int .i64 x.1))]) (fun x => [.row [.d (.int .i64 a1.e0.e0.fNum), .d (.int .i64 a1.e0.e0.fDen), .d (.int .i64 a1.e0.e1.fNum), .d (.int .i64 a1.e0.e1.fDen), .d (.int .i64 a1.e0.e2.fNum), .d (.int .i64 a1.e0.e2.fDen), .d (.int .i64 a1.e1.e0.fNum), .d (.int .i64 a1.e1.e0.fDen), .d (.int .i64 a1.e1.e1.fNum), .d (.int .i64 a1.e1.e1.fDen), .d (.int .i64 a1.e1.e2.fNum), .d (.int .i64 a1.e1.e2.fDen), .d (.int .i64 a1.e2.e0.fNum), .d (.int .i64 a1.e2.e0.fDen), .d (.int .i64 a1.e2.e1.fNum), .d (.int .i64 a1.e2.e1.fDen), .d (.int .i64 a1.e2.e2.fNum), .d (.int .i64 a1.e2.e2.fDen), .d (.int .i64 a1.e3.e0.fNum), .d (.int .i64 a1.e3.e0.fDen), .d (.int .i64 a1.e3.e1.fNum), .d (.int .i64 a1.e3.e1.fDen), .d (.int .i64 a1.e3.e2.fNum), .d (.int .i64 a1.e3.e2.fDen), .d (.int .i64 a1.e4.e0.fNum), .d (.int .i64 a1.e4.e0.fDen), .d (.int .i64 a1.e4.e1.fNum), .d (.int .i64 a1.e4.e1.fDen), .d (.int .i64 a1.e4.e2.fNum), .d (.int .i64 a1.e4.e2.fDen), .d (.int .i64 a1.e5.e0.fNum), .d (.int .i64 a1.e5.e0.fDen), .d (.int .i64 a1.e5.e1.fNum), .d (.int .i64 a1.e5.e1.fDen), .d (.int .i64 a1.e5.e2.fNum), .d (.int .i64 a1.e5.e2.fDen), .d (.int .i64 a1.e6.e0.fNum), .d (.int .i64 a1.e6.e0.fDen), .d (.int .i64 a1.e6.e1.fNum), .d (.int .i64 a1.e6.e1.fDen), .d (.int .i64 a1.e6.e2.fNum), .d (.int .i64 a1.e6.e2.fDen)], .row [.d (.int .i64 (0 : Int)), .d (.int .i64 (0 : Int)), .d (.int .i64 (0 : Int)), .d (.int .i64 (0 : Int)), .d (.int .i64 (0 : Int)), .d (.int .i64 (0 : Int)), .d (.int .i64 (0 : Int)), .d (.int .i64 (0 : Int)), .d (.int .i64 (0 : Int)), .d (.int .i64 (0 : Int)), .d (.int .i64 (0 : Int)), .d (.int .i64 (0 : Int)), .d (.int .i64 (0 : Int)), .d (.int .i64 (0 : Int)), .d (.int .i64 (0 : Int)), .d (.int .i64 (0 : Int)), .d (.int .i64 (0 : Int)), .d (.int .i64 (0 : Int)), .d (.int .i64 (0 : Int)), .d (.int .i64 (0 : Int)), .d (.int .i64 (0 : Int)), .d (.int .i64 (0 : Int)), .d (.int .i64 (0 : Int)), .d (.int .i64 (0 : Int)), .d (.int .i64 (0 : Int)), .d (.int .i64 (0 : Int)), .d (.int .i64 (0 : Int)), .d (.int .i64 (0 : Int)), .d (.int .i64 (0 : Int)), .d (.int .i64 (0 : Int)), .d (.int .i64 (0 : Int)), .d (.int .i64 (0 : Int)), .d (.int .i64 (0 : Int)), .d (.int .i64 (0 : Int)), .d (.int .i64 (0 : Int)), .d (.int .i64 (0 : Int)), .d (.int .i64 (0 : Int)), .d (.int .i64 (0 : Int)), .d (.int .i64 (0 : Int)), .d (.int .i64 (0 : Int)), .d (.int .i64 (0 : Int)), .d (.int .i64 (0 : Int))], .row [.d (.int .i64 x.2.e0.e0.fNum), .d (.int .i64 x.2.e0.e0.fDen), .d (.int .i64 x.2.e0.e1.fNum), .d (.int .i64 x.2.e0.e1.fDen), .d (.int .i64 x.2.e0.e2.fNum), .d (.int .i64 x.2.e0.e2.fDen), .d (.int .i64 x.2.e1.e0.fNum), .d (.int .i64 x.2.e1.e0.fDen), .d (.int .i64 x.2.e1.e1.fNum), .d (.int .i64 x.2.e1.e1.fDen), .d (.int .i64 x.2.e1.e2.fNum), .d (.int .i64 x.2.e1.e2.fDen), .d (.int .i64 x.2.e2.e0.fNum), .d (.int .i64 x.2.e2.e0.fDen), .d (.int .i64 x.2.e2.e1.fNum), .d (.int .i64 x.2.e2.e1.fDen), .d (.int .i64 x.2.e2.e2.fNum), .d (.int .i64 x.2.e2.e2.fDen), .d (.int .i64 x.2.e3.e0.fNum), .d (.int .i64 x.2.e3.e0.fDen), .d (.int .i64 x.2.e3.e1.fNum), .d (.int .i64 x.2.e3.e1.fDen), .d (.int .i64 x.2.e3.e2.fNum), .d (.int .i64 x.2.e3.e2.fDen), .d (.int .i64 x.2.e4.e0.fNum), .d (.int .i64 x.2.e4.e0.fDen), .d (.int .i64 x.2.e4.e1.fNum), .d (.int .i64 x.2.e4.e1.fDen), .d (.int .i64 x.2.e4.e2.fNum), .d (.int .i64 x.2.e4.e2.fDen), .d (.int .i64 x.2.e5.e0.fNum), .d (.int .i64 x.2.e5.e0.fDen), .d (.int .i64 x.2.e5.e1.fNum), .d (.int .i64 x.2.e5.e1.fDen), .d (.int .i64 x.2.e5.e2.fNum), .d (.int .i64 x.2.e5.e2.fDen), .d (.int .i64 x.2.e6.e0.fNum), .d (.int .i64 x.2.e6.e0.fDen), .d (.int .i64 x.2.e6.e1.fNum), .d (.int .i64 x.2.e6.e1.fDen), .d (.int .i64 x.2.e6.e2.fNum), .d (.int .i64 x.2.e6.e2.fDen)]]) hI1 (WOK.g0 hw0 (by simp)) ⟨[0, 1, 2], rfl, rfl, rfl, ⟨(.ptr rfl), (.ptr rfl), (.ptr rfl), (.d rfl), trivial⟩, trivial, (.row rfl (.cons (.d rfl) (.cons (.d rfl) (.cons (.d rfl) (.cons (.d rfl) (.cons (.d rfl) (.cons (.d rfl) (.cons (.d rfl) (.cons (.d rfl) (.cons (.d rfl) (.cons (.d rfl) (.cons (.d rfl) (.cons (.d rfl) (.cons (.d rfl) (.cons (.d rfl) (.cons (.d rfl) (.cons (.d rfl) (.cons (.d rfl) (.cons (.d rfl) (.cons (.d rfl) (.cons (.d rfl) (.cons (.d rfl) (.cons (.d rfl) (.cons (.d rfl) (.cons (.d rfl) (.cons (.d rfl) (.cons (.d rfl) (.cons (.d rfl) (.cons (.d rfl) (.cons (.d rfl) (.cons (.d rfl) (.cons (.d rfl) (.cons (.d rfl) (.cons (.d rfl) (.cons (.d rfl) (.cons (.d rfl) (.cons (.d rfl) (.cons (.d rfl) (.cons (.d rfl) (.cons (.d rfl) (.cons (.d rfl) (.cons (.d rfl) (.cons (.d rfl) .nil)))))))))))))))))))))))))))))))))))))))))) (.row rfl (.cons (.d rfl) (.cons (.d rfl) (.cons (.d rfl) (.cons (.d rfl) (.cons (.d rfl) (.cons (.d rfl) (.cons (.d rfl) (.cons (.d rfl) (.cons (.d rfl) (.cons (.d rfl) (.cons (.d rfl) (.cons (.d rfl) (.cons (.d rfl) (.cons (.d rfl) (.cons (.d rfl) (.cons (.d rfl) (.cons (.d rfl) (.cons (.d rfl) (.cons (.d rfl) (.cons (.d rfl) (.cons (.d rfl) (.cons (.d rfl) (.cons (.d rfl) (.cons (.d rfl) (.cons (.d rfl) (.cons (.d rfl) (.cons (.d rfl) (.cons (.d rfl) (.cons (.d rfl) (.cons (.d rfl) (.cons (.d rfl) (.cons (.d rfl) (.cons (.d rfl) (.cons (.d rfl) (.cons (.d rfl) (.cons (.d rfl) (.cons (.d rfl) (.cons (.d rfl) (.cons (.d rfl) (.cons (.d rfl) (.cons (.d rfl) (.cons (.d rfl) .nil)))))))))))))))))))))))))))))))))))))))))) (.row rfl (.cons (.d rfl) (.cons (.d rfl) (.cons (.d rfl) (.cons (.d rfl) (.cons (.d rfl) (.cons (.d rfl) (.cons (.d rfl) (.cons (.d rfl) (.cons (.d rfl) (.cons (.d rfl) (.cons (.d rfl) (.cons (.d rfl) (.cons (.d rfl) (.cons (.d rfl) (.cons (.d rfl) (.cons (.d rfl) (.cons (.d rfl) (.cons (.d rfl) (.cons (.d rfl) (.cons (.d rfl) (.cons (.d rfl) (.cons (.d rfl) (.cons (.d rfl) (.cons (.d rfl) (.cons (.d rfl) (.cons (.d rfl) (.cons (.d rfl) (.cons (.d rfl) (.cons (.d rfl) (.cons (.d rfl) (.cons (.d rfl) (.cons (.d rfl) (.cons (.d rfl) (.cons (.d rfl) (.cons (.d rfl) (.cons (.d rfl) (.cons (.d rfl) (.cons (.d rfl) (.cons (.d rfl) (.cons (.d rfl) (.cons (.d rfl) (.cons (.d rfl) .nil)))))))))))))))))))))))))))))))))))))))))) .nil)))⟩ ?_
  rintro n1 ⟨s2, s3⟩ hI1
  obtain ⟨y_1, hm, hI1⟩ := iterS hI1
  replace hm : m_law31_Own_L1 n _ s2 s3 = some y_1 := hm
  unfold m_law31_Own_L1 at hm
  try dsimp only at hm
  refine AW.seqR ?_
  refine AL.s rfl (op_lss (.r rfl) (.r rfl)) ?_
  refine AL.nil ?_
  refine AW.seq ?_
  refine AW.cond (b := _) rfl (fun hc1 => ?_) (fun hc1 => ?_)
  · replace hm := iteT hc1 hm
    refine AW.skip ?_
    refine nq ?_
    refine AW.seq ?_
    refine AW.block ?_
    refine AW.seqR ?_
    refine AL.s rfl (op_moveD (.e rfl)) ?_
    refine AL.s rfl (op_assignD (.e rfl)) ?_
    refine AL.nil ?_
    refine AW.seqR ?_
    refine AL.s rfl (op_moveD (.e rfl)) ?_
    refine AL.nil ?_
    refine AW.block ?_
    obtain ⟨t_2, hI2, hk2⟩ := bindE hm
    refine AW.loopS (σ := (Int × A72)) (τ := A72) 0 (fun x => [(1, .ptr 0 0), (2, .ptr 1 0), (3, .ptr 2 0), (4, .d (.int .i64 s2)), (6, .d (.int .i64 s2)), (9, .d (.int .i64 x.1))]) (fun x => [.row [.d (.int .i64 a1.e0.e0.fNum), .d (.int .i64 a1.e0.e0.fDen), .d (.int .i64 a1.e0.e1.fNum), .d (.int .i64 a1.e0.e1.fDen), .d (.int .i64 a1.e0.e2.fNum), .d (.int .i64 a1.e0.e2.fDen), .d (.int .i64 a1.e1.e0.fNum), .d (.int .i64 a1.e1.e0.fDen), .d (.int .i64 a1.e1.e1.fNum), .d (.int .i64 a1.e1.e1.fDen), .d (.int .i64 a1.e1.e2.fNum), .d (.int .i64 a1.e1.e2.fDen), .d (.int .i64 a1.e2.e0.fNum), .d (.int .i64 a1.e2.e0.fDen), .d (.int .i64 a1.e2.e1.fNum), .d (.int .i64 a1.e2.e1.fDen), .d (.int .i64 a1.e2.e2.fNum), .d (.int .i64 a1.e2.e2.fDen), .d (.int .i64 a1.e3.e0.fNum), .d (.int .i64 a1.e3.e0.fDen), .d (.int .i64 a1.e3.e1.fNum), .d (.int .i64 a1.e3.e1.fDen), .d (.int .i64 a1.e3.e2.fNum), .d (.int .i64 a1.e3.e2.fDen), .d (.int .i64 a1.e4.e0.fNum), .d (.int .i64 a1.e4.e0.fDen), .d (.int .i64 a1.e4.e1.fNum), .d (.int .i64 a1.e4.e1.fDen), .d (.int .i64 a1.e4.e2.fNum), .d (.int .i64 a1.e4.e2.fDen), .d (.int .i64 a1.e5.e0.fNum), .d (.int .i64 a1.e5.e0.fDen), .d (.int .i64 a1.e5.e1.fNum), .d (.int .i64 a1.e5.e1.fDen), .d (.int .i64 a1.e5.e2.fNum), .d (.int .i64 a1.e5.e2.fDen), .d (.int .i64 a1.e6.e0.fNum), .d (.int .i64 a1.e6.e0.fDen), .d (.int .i64 a1.e6.e1.fNum), .d (.int .i64 a1.e6.e1.fDen), .d (.int .i64 a1.e6.e2.fNum), .d (.int .i64 a1.e6.e2.fDen)], .row [.d (.int .i64 (0 : Int)), .d (.int .i64 (0 : Int)), .d (.int .i64 (0 : Int)), .d (.int .i64 (0 : Int)), .d (.int .i64 (0 : Int)), .d (.int .i64 (0 : Int)), .d (.int .i64 (0 : Int)), .d (.int .i64 (0 : Int)), .d (.int .i64 (0 : Int)), .d (.int .i64 (0 : Int)), .d (.int .i64 (0 : Int)), .d (.int .i64 (0 : Int)), .d (.int .i64 (0 : Int)), .d (.int .i64 (0 : Int)), .d (.int .i64 (0 : Int)), .d (.int .i64 (0 : Int)), .d (.int .i64 (0 : Int)), .d (.int .i64 (0 : Int)), .d (.int .i64 (0 : Int)), .d (.int .i64 (0 : Int)), .d (.int .i64 (0 : Int)), .d (.int .i64 (0 : Int)), .d (.int .i64 (0 : Int)), .d (.int .i64 (0 : Int)), .d (.int .i64 (0 : Int)), .d (.int .i64 (0 : Int)), .d (.int .i64 (0 : Int)), .d (.int .i64 (0 : Int)), .d (.int .i64 (0 : Int)), .d (.int .i64 (0 : Int)), .d (.int .i64 (0 : Int)), .d (.int .i64 (0 : Int)), .d (.int .i64 (0 : Int)), .d (.int .i64 (0 : Int)), .d (.int .i64 (0 : Int)), .d (.int .i64 (0 : Int)), .d (.int .i64 (0 : Int)), .d (.int .i64 (0 : Int)), .d (.int .i64 (0 : Int)), .d (.int .i64 (0 : Int)), .d (.int .i64 (0 : Int)), .d (.int .i64 (0 : Int))], .row [.d (.int .i64 x.2.e0.e0.fNum), .d (.int .i64 x.2.e0.e0.fDen), .d (.int .i64 x.2.e0.e1.fNum), .d (.int .i64 x.2.e0.e1.fDen), .d (.int .i64 x.2.e0.e2.fNum), .d (.int .i64 x.2.e0.e2.fDen), .d (.int .i64 x.2.e1.e0.fNum), .d (.int .i64 x.2.e1.e0.fDen), .d (.int .i64 x.2.e1.e1.fNum), .d (.int .i64 x.2.e1.e1.fDen), .d (.int .i64 x.2.e1.e2.fNum), .d (.int .i64 x.2.e1.e2.fDen), .d (.int .i64 x.2.e2.e0.fNum), .d (.int .i64 x.2.e2.e0.fDen), .d (.int .i64 x.2.e2.e1.fNum), .d (.int .i64 x.2.e2.e1.fDen), .d (.int .i64 x.2.e2.e2.fNum), .d (.int .i64 x.2.e2.e2.fDen), .d (.int .i64 x.2.e3.e0.fNum), .d (.int .i64 x.2.e3.e0.fDen), .d (.int .i64 x.2.e3.e1.fNum), .d (.int .i64 x.2.e3.e1.fDen), .d (.int .i64 x.2.e3.e2.fNum), .d (.int .i64 x.2.e3.e2.fDen), .d (.int .i64 x.2.e4.e0.fNum), .d (.int .i64 x.2.e4.e0.fDen), .d (.int .i64 x.2.e4.e1.fNum), .d (.int .i64 x.2.e4.e1.fDen), .d (.int .i64 x.2.e4.e2.fNum), .d (.int .i64 x.2.e4.e2.fDen), .d (.int .i64 x.2.e5.e0.fNum), .d (.int .i64 x.2.e5.e0.fDen), .d (.int .i64 x.2.e5.e1.fNum), .d (.int .i64 x.2.e5.e1.fDen), .d (.int .i64 x.2.e5.e2.fNum), .d (.int .i64 x.2.e5.e2.fDen), .d (.int .i64 x.2.e6.e0.fNum), .d (.int .i64 x.2.e6.e0.fDen), .d (.int .i64 x.2.e6.e1.fNum), .d (.int .i64 x.2.e6.e1.fDen), .d (.int .i64 x.2.e6.e2.fNum), .d (.int .i64 x.2.e6.e2.fDen)]]) hI2 (WOK.g0 hw0 (by simp)) ⟨[0, 1, 2], rfl, rfl, rfl, ⟨(.ptr rfl), (.ptr rfl), (.ptr rfl), (.d rfl), (.d rfl), (.d rfl), trivial⟩, trivial, (.row rfl (.cons (.d rfl) (.cons (.d rfl) (.cons (.d rfl) (.cons (.d rfl) (.cons (.d rfl) (.cons (.d rfl) (.cons (.d rfl) (.cons (.d rfl) (.cons (.d rfl) (.cons (.d rfl) (.cons (.d rfl) (.cons (.d rfl) (.cons (.d rfl) (.cons (.d rfl) (.cons (.d rfl) (.cons (.d rfl) (.cons (.d rfl) (.cons (.d rfl) (.cons (.d rfl) (.cons (.d rfl) (.cons (.d rfl) (.cons (.d rfl) (.cons (.d rfl) (.cons (.d rfl) (.cons (.d rfl) (.cons (.d rfl) (.cons (.d rfl) (.cons (.d rfl) (.cons (.d rfl) (.cons (.d rfl) (.cons (.d rfl) (.cons (.d rfl) (.cons (.d rfl) (.cons (.d rfl) (.cons (.d rfl) (.cons (.d rfl) (.cons (.d rfl) (.cons (.d rfl) (.cons (.d rfl) (.cons (.d rfl) (.cons (.d rfl) (.cons (.d rfl) .nil)))))))))))))))))))))))))))))))))))))))))) (.row rfl (.cons (.d rfl) (.cons (.d rfl) (.cons (.d rfl) (.cons (.d rfl) (.cons (.d rfl) (.cons (.d rfl) (.cons (.d rfl) (.cons (.d rfl) (.cons (.d rfl) (.cons (.d rfl) (.cons (.d rfl) (.cons (.d rfl) (.cons (.d rfl) (.cons (.d rfl) (.cons (.d rfl) (.cons (.d rfl) (.cons (.d rfl) (.cons (.d rfl) (.cons (.d rfl) (.cons (.d rfl) (.cons (.d rfl) (.cons (.d rfl) (.cons (.d rfl) (.cons (.d rfl) (.cons (.d rfl) (.cons (.d rfl) (.cons (.d rfl) (.cons (.d rfl) (.cons (.d rfl) (.cons (.d rfl) (.cons (.d rfl) (.cons (.d rfl) (.cons (.d rfl) (.cons (.d rfl) (.cons (.d rfl) (.cons (.d rfl) (.cons (.d rfl) (.cons (.d rfl) (.cons (.d rfl) (.cons (.d rfl) (.cons (.d rfl) (.cons (.d rfl) .nil)))))))))))))))))))))))))))))))))))))))))) (.row rfl (.cons (.d rfl) (.cons (.d rfl) (.cons (.d rfl) (.cons (.d rfl) (.cons (.d rfl) (.cons (.d rfl) (.cons (.d rfl) (.cons (.d rfl) (.cons (.d rfl) (.cons (.d rfl) (.cons (.d rfl) (.cons (.d rfl) (.cons (.d rfl) (.cons (.d rfl) (.cons (.d rfl) (.cons (.d rfl) (.cons (.d rfl) (.cons (.d rfl) (.cons (.d rfl) (.cons (.d rfl) (.cons (.d rfl) (.cons (.d rfl) (.cons (.d rfl) (.cons (.d rfl) (.cons (.d rfl) (.cons (.d rfl) (.cons (.d rfl) (.cons (.d rfl) (.cons (.d rfl) (.cons (.d rfl) (.cons (.d rfl) (.cons (.d rfl) (.cons (.d rfl) (.cons (.d rfl) (.cons (.d rfl) (.cons (.d rfl) (.cons (.d rfl) (.cons (.d rfl) (.cons (.d rfl) (.cons (.d rfl) (.cons (.d rfl) (.cons (.d rfl) .nil)))))))))))))))))))))))))))))))))))))))))) .nil)))⟩ ?_
    rintro n2 ⟨s4, s5⟩ hI2
    obtain ⟨y_2, hm, hI2⟩ := iterS hI2
    replace hm : m_law31_Own_L2 n _ _ s4 s5 = some y_2 := hm
    unfold m_law31_Own_L2 at hm
    try dsimp only at hm
    refine AW.seqR ?_
    refine AL.s rfl (op_lss (.r rfl) (.r rfl)) ?_
    refine AL.nil ?_
    refine AW.seq ?_
    refine AW.cond (b := _) rfl (fun hc2 => ?_) (fun hc2 => ?_)
    · replace hm := iteT hc2 hm
      refine AW.skip ?_
      refine nq ?_
      refine AW.seq ?_
      refine AW.block ?_
      refine AW.seqR ?_
      refine AL.s rfl (op_moveD (.e rfl)) ?_
      refine AL.s rfl (op_assignD (.e rfl)) ?_
      refine AL.nil ?_
      refine AW.drawn [([], []), ([], []), ([], []), ([], []), ([], []), ([], []), ([0], []), ([], []), ([], []), ([2], [2])] mo (by decide +kernel) ?_
      refine AD.s (ws := []) rfl rfl (fun H' _ hH => op_moveD (.e rfl)) ?_
      refine AD.s (ws := []) rfl rfl (fun H' _ hH => op_moveD (.e rfl)) ?_
      refine AD.s (ws := []) rfl rfl (fun H' _ hH => op_moveD (.e rfl)) ?_
      refine AD.s (ws := []) rfl rfl (fun H' _ hH => op_moveD (.e rfl)) ?_
      obtain ⟨v6, hv6, hm⟩ := bindE hm
      refine AD.s (ws := []) rfl rfl (fun H' _ hH => op_indexA (l := a1.l) (s := 6) (.e rfl) (.r rfl) hv6 rfl Tryz.underlying26 ⟨_, rfl, rfl⟩) ?_
      obtain ⟨v7, hv7, hm⟩ := bindE hm
      refine AD.s (ws := []) rfl rfl (fun H' _ hH => op_indexA (l := v6.l) (s := 2) (.e rfl) (.r rfl) hv7 rfl Tryz.underlying24 ⟨_, rfl, rfl⟩) ?_
      refine AD.s (ws := []) rfl rfl (fun H' _ hH => op_loadAtA (X := (A72.e a1).cells) (.e rfl) ((hH _ (by simp)).trans rfl) (AtD.ix (f := SRatio.e) (l := v6.l) enSRatio (AtD.ix (f := A3.e) (l := a1.l) enA3 (AtD.root : AtD (A72.e a1).cells 0 _ _) hv6) hv7) ag23) ?_
      obtain ⟨v8, hv8, hm⟩ := bindE hm
      refine AD.s (ws := []) rfl rfl (fun H' _ hH => op_indexA (l := s5.l) (s := 6) (.e rfl) (.r rfl) hv8 rfl Tryz.underlying37 ⟨_, rfl, rfl⟩) ?_
      obtain ⟨v9, hv9, hm⟩ := bindE hm
      refine AD.s (ws := []) rfl rfl (fun H' _ hH => op_indexA (l := v8.l) (s := 2) (.e rfl) (.r rfl) hv9 rfl Tryz.underlying35 ⟨_, rfl, rfl⟩) ?_
      obtain ⟨v10, hv10, hm⟩ := bindE hm
      obtain ⟨v11, hv11, hm⟩ := bindE hm
      refine AD.s (ws := [(2, _)]) rfl rfl (fun H' _ hH => op_storeAt (X := (A72.e s5).cells) (X' := (A72.e v11).cells) (.e rfl) (.e rfl) ((hH _ (by simp)).trans rfl) (AtD.ix (f := SRatio.e) (l := v8.l) enSRatio (AtD.ix (f := A3.e) (l := s5.l) enA3 (AtD.root : AtD (A72.e s5).cells 0 _ _) hv8) hv9) (PutD.ix (f := SRatio.e) (l := v8.l) (l' := v10.l) enSRatio (AtD.ix (f := A3.e) (l := s5.l) enA3 (AtD.root : AtD (A72.e s5).cells 0 _ _) hv8) (PutD.ix (f := A3.e) (l := s5.l) (l' := v11.l) enA3 (AtD.root : AtD (A72.e s5).cells 0 _ _) (PutD.root rfl : PutD (A72.e s5).cells 0 _ _ (A72.e v11).cells) (A72.put_l hv11)) (A3.put_l hv10)) rfl rfl ⟨_, rfl, rfl⟩) ?_
      refine AD.nil ?_
      refine bq_n ?_
      refine nq ?_
      refine AW.region ?_
      refine AL.s rfl (op_addw (.r rfl) (.r rfl)) ?_
      refine AL.s rfl (op_moveD (.e rfl)) ?_
      refine AL.nil ?_
      obtain rfl := Option.some.inj hm
      exact nq ⟨_, hI2, ⟨[0, 1, 2], rfl, rfl, rfl, ⟨(.ptr rfl), (.ptr rfl), (.ptr rfl), (.d rfl), (.d rfl), (.d rfl), trivial⟩, trivial, (.row rfl (.cons (.d rfl) (.cons (.d rfl) (.cons (.d rfl) (.cons (.d rfl) (.cons (.d rfl) (.cons (.d rfl) (.cons (.d rfl) (.cons (.d rfl) (.cons (.d rfl) (.cons (.d rfl) (.cons (.d rfl) (.cons (.d rfl) (.cons (.d rfl) (.cons (.d rfl) (.cons (.d rfl) (.cons (.d rfl) (.cons (.d rfl) (.cons (.d rfl) (.cons (.d rfl) (.cons (.d rfl) (.cons (.d rfl) (.cons (.d rfl) (.cons (.d rfl) (.cons (.d rfl) (.cons (.d rfl) (.cons (.d rfl) (.cons (.d rfl) (.cons (.d rfl) (.cons (.d rfl) (.cons (.d rfl) (.cons (.d rfl) (.cons (.d rfl) (.cons (.d rfl) (.cons (.d rfl) (.cons (.d rfl) (.cons (.d rfl) (.cons (.d rfl) (.cons (.d rfl) (.cons (.d rfl) (.cons (.d rfl) (.cons (.d rfl) (.cons (.d rfl) .nil)))))))))))))))))))))))))))))))))))))))))) (.row rfl (.cons (.d rfl) (.cons (.d rfl) (.cons (.d rfl) (.cons (.d rfl) (.cons (.d rfl) (.cons (.d rfl) (.cons (.d rfl) (.cons (.d rfl) (.cons (.d rfl) (.cons (.d rfl) (.cons (.d rfl) (.cons (.d rfl) (.cons (.d rfl) (.cons (.d rfl) (.cons (.d rfl) (.cons (.d rfl) (.cons (.d rfl) (.cons (.d rfl) (.cons (.d rfl) (.cons (.d rfl) (.cons (.d rfl) (.cons (.d rfl) (.cons (.d rfl) (.cons (.d rfl) (.cons (.d rfl) (.cons (.d rfl) (.cons (.d rfl) (.cons (.d rfl) (.cons (.d rfl) (.cons (.d rfl) (.cons (.d rfl) (.cons (.d rfl) (.cons (.d rfl) (.cons (.d rfl) (.cons (.d rfl) (.cons (.d rfl) (.cons (.d rfl) (.cons (.d rfl) (.cons (.d rfl) (.cons (.d rfl) (.cons (.d rfl) (.cons (.d rfl) .nil)))))))))))))))))))))))))))))))))))))))))) (.row rfl (.cons (.d rfl) (.cons (.d rfl) (.cons (.d rfl) (.cons (.d rfl) (.cons (.d rfl) (.cons (.d rfl) (.cons (.d rfl) (.cons (.d rfl) (.cons (.d rfl) (.cons (.d rfl) (.cons (.d rfl) (.cons (.d rfl) (.cons (.d rfl) (.cons (.d rfl) (.cons (.d rfl) (.cons (.d rfl) (.cons (.d rfl) (.cons (.d rfl) (.cons (.d rfl) (.cons (.d rfl) (.cons (.d rfl) (.cons (.d rfl) (.cons (.d rfl) (.cons (.d rfl) (.cons (.d rfl) (.cons (.d rfl) (.cons (.d rfl) (.cons (.d rfl) (.cons (.d rfl) (.cons (.d rfl) (.cons (.d rfl) (.cons (.d rfl) (.cons (.d rfl) (.cons (.d rfl) (.cons (.d rfl) (.cons (.d rfl) (.cons (.d rfl) (.cons (.d rfl) (.cons (.d rfl) (.cons (.d rfl) (.cons (.d rfl) (.cons (.d rfl) .nil)))))))))))))))))))))))))))))))))))))))))) .nil)))⟩⟩
    · replace hm := iteF hc2 hm
      refine AW.exit ?_
      refine tq_exit ?_
      refine tq_exit ?_
      obtain rfl := Option.some.inj hm
      obtain rfl := Option.some.inj hI2
      replace hm := hk2
      try dsimp only at hm
      refine bq_hit ?_
      refine bq_n ?_
      refine nq ?_
      refine AW.region ?_
      refine AL.s rfl (op_addw (.r rfl) (.r rfl)) ?_
      refine AL.s rfl (op_moveD (.e rfl)) ?_
      refine AL.nil ?_
      obtain rfl := Option.some.inj hm
      exact nq ⟨_, hI1, ⟨[0, 1, 2], rfl, rfl, rfl, ⟨(.ptr rfl), (.ptr rfl), (.ptr rfl), (.d rfl), trivial⟩, trivial, (.row rfl (.cons (.d rfl) (.cons (.d rfl) (.cons (.d rfl) (.cons (.d rfl) (.cons (.d rfl) (.cons (.d rfl) (.cons (.d rfl) (.cons (.d rfl) (.cons (.d rfl) (.cons (.d rfl) (.cons (.d rfl) (.cons (.d rfl) (.cons (.d rfl) (.cons (.d rfl) (.cons (.d rfl) (.cons (.d rfl) (.cons (.d rfl) (.cons (.d rfl) (.cons (.d rfl) (.cons (.d rfl) (.cons (.d rfl) (.cons (.d rfl) (.cons (.d rfl) (.cons (.d rfl) (.cons (.d rfl) (.cons (.d rfl) (.cons (.d rfl) (.cons (.d rfl) (.cons (.d rfl) (.cons (.d rfl) (.cons (.d rfl) (.cons (.d rfl) (.cons (.d rfl) (.cons (.d rfl) (.cons (.d rfl) (.cons (.d rfl) (.cons (.d rfl) (.cons (.d rfl) (.cons (.d rfl) (.cons (.d rfl) (.cons (.d rfl) (.cons (.d rfl) .nil)))))))))))))))))))))))))))))))))))))))))) (.row rfl (.cons (.d rfl) (.cons (.d rfl) (.cons (.d rfl) (.cons (.d rfl) (.cons (.d rfl) (.cons (.d rfl) (.cons (.d rfl) (.cons (.d rfl) (.cons (.d rfl) (.cons (.d rfl) (.cons (.d rfl) (.cons (.d rfl) (.cons (.d rfl) (.cons (.d rfl) (.cons (.d rfl) (.cons (.d rfl) (.cons (.d rfl) (.cons (.d rfl) (.cons (.d rfl) (.cons (.d rfl) (.cons (.d rfl) (.cons (.d rfl) (.cons (.d rfl) (.cons (.d rfl) (.cons (.d rfl) (.cons (.d rfl) (.cons (.d rfl) (.cons (.d rfl) (.cons (.d rfl) (.cons (.d rfl) (.cons (.d rfl) (.cons (.d rfl) (.cons (.d rfl) (.cons (.d rfl) (.cons (.d rfl) (.cons (.d rfl) (.cons (.d rfl) (.cons (.d rfl) (.cons (.d rfl) (.cons (.d rfl) (.cons (.d rfl) (.cons (.d rfl) .nil)))))))))))))))))))))))))))))))))))))))))) (.row rfl (.cons (.d rfl) (.cons (.d rfl) (.cons (.d rfl) (.cons (.d rfl) (.cons (.d rfl) (.cons (.d rfl) (.cons (.d rfl) (.cons (.d rfl) (.cons (.d rfl) (.cons (.d rfl) (.cons (.d rfl) (.cons (.d rfl) (.cons (.d rfl) (.cons (.d rfl) (.cons (.d rfl) (.cons (.d rfl) (.cons (.d rfl) (.cons (.d rfl) (.cons (.d rfl) (.cons (.d rfl) (.cons (.d rfl) (.cons (.d rfl) (.cons (.d rfl) (.cons (.d rfl) (.cons (.d rfl) (.cons (.d rfl) (.cons (.d rfl) (.cons (.d rfl) (.cons (.d rfl) (.cons (.d rfl) (.cons (.d rfl) (.cons (.d rfl) (.cons (.d rfl) (.cons (.d rfl) (.cons (.d rfl) (.cons (.d rfl) (.cons (.d rfl) (.cons (.d rfl) (.cons (.d rfl) (.cons (.d rfl) (.cons (.d rfl) (.cons (.d rfl) .nil)))))))))))))))))))))))))))))))))))))))))) .nil)))⟩⟩
  · replace hm := iteF hc1 hm
    refine AW.exit ?_
    refine tq_exit ?_
    refine tq_exit ?_
    obtain rfl := Option.some.inj hm
    obtain rfl := Option.some.inj hI1
    replace hm := hk1
    try dsimp only at hm
    refine bq_hit ?_
    refine nq ?_
    refine AW.seqR ?_
    refine AL.s rfl (op_load_ptrA (.e rfl) rfl rfl rfl ag37) ?_
    refine AL.s rfl (op_storeA (.e rfl) (.e rfl) rfl rfl ⟨_, rfl, rfl⟩ rfl (Nat.le_of_ble_eq_true rfl)) ?_
    refine AL.nil ?_
    refine AW.ret ?_
    obtain rfl := Option.some.inj hm
    exact EndQ.d (.cellA (.e rfl) rfl rfl rfl ag37 .nil) rfl rfl

set_option maxHeartbeats 20000000 in
theorem m_ref28_Valid_ok {n : Nat} {a1 : (List SRatio)} {r : Bool} (hm : m_ref28_Valid n a1 = some r) : Fn Tryz.prog 40 [(.sl (a1.map SRatio.e))] (.bool r) := by
  unfold m_ref28_Valid at hm
  refine Fn.of_AW (fnn := Tryz.f40) Tryz.func40 rfl (Nat.le_of_ble_eq_true rfl) (fun g0 w0 hw0 => ?_)
  refine AW.reset 0 [(0, .d (.sl (a1.map SRatio.e)))] [] (WOK.g0 hw0 (by simp)) ⟨[], rfl, rfl, rfl, ⟨(.d rfl), trivial⟩, trivial, .nil⟩ ?_
  refine AW.seqR ?_
  refine AL.s rfl (op_assignD (.e rfl)) ?_
  refine AL.nil ?_
  refine AW.seq ?_
  refine AW.seqR ?_
  refine AL.s rfl (op_assignD (.e rfl)) ?_
  refine AL.nil ?_
  refine AW.block ?_
  obtain ⟨t_1, hI1, hk1⟩ := bindE hm
  refine AW.loopS (σ := Int) (τ := (Bool ⊕ Unit)) 0 (fun x => [(0, .d (.sl (a1.map SRatio.e))), (3, .d (.int .i64 x))]) (fun x => []) hI1 (WOK.g0 hw0 (by simp)) ⟨[], rfl, rfl, rfl, ⟨(.d rfl), (.d rfl), trivial⟩, trivial, .nil⟩ ?_
  rintro n1 s2 hI1
  obtain ⟨y_1, hm, hI1⟩ := iterS hI1
  replace hm : m_ref28_Valid_L1 n _ s2 = some y_1 := hm
  unfold m_ref28_Valid_L1 at hm
  try dsimp only at hm
  refine AW.seq ?_
  refine AW.seqR ?_
  refine AL.s rfl (op_moveD (.e rfl)) ?_
  refine AL.s rfl (op_moveD (.e rfl)) ?_
  refine AL.s rfl (op_lenM (f := SRatio.e) (.r rfl) sl40) ?_
  refine AL.s rfl (op_lss (.r rfl) (.r rfl)) ?_
  refine AL.nil ?_
  refine AW.cond (b := _) rfl (fun hc1 => ?_) (fun hc1 => ?_)
  · replace hm := iteT hc1 hm
    refine AW.skip ?_
    refine nq ?_
    refine AW.seq ?_
    refine AW.block ?_
    refine AW.seqR ?_
    refine AL.s rfl (op_moveD (.e rfl)) ?_
    refine AL.s rfl (op_moveD (.e rfl)) ?_
    obtain ⟨v3, hv3, hm⟩ := bindE hm
    refine AL.s rfl (op_indexAddrM (f := SRatio.e) (.r rfl) (.r rfl) hv3 enSRatio sl40) ?_
    refine AL.s rfl (op_field_vp (.e rfl) fd23_0) ?_
    refine AL.s rfl (op_load_vp1 (.e rfl) rfl sc3) ?_
    refine AL.s rfl (op_lss (.r rfl) (.r rfl)) ?_
    refine AL.s rfl (op_moveD (.e rfl)) ?_
    refine AL.sF rfl rfl rfl rfl (fun g => op_moveD (.e rfl)) ?_
    refine AL.sF rfl rfl rfl rfl (fun g => op_moveD (.e rfl)) ?_
    obtain ⟨v4, hv4, hm⟩ := bindE hm
    refine AL.sF rfl rfl rfl rfl (fun g => op_indexAddrM (f := SRatio.e) (.we (nt g) rfl rfl) (.we (nt g) rfl rfl) (iteT (nt g) hv4) enSRatio sl40) ?_
    refine AL.sF rfl rfl rfl rfl (fun g => op_field_vp (.we (nt g) rfl) fd23_0) ?_
    refine AL.sF rfl rfl rfl rfl (fun g => op_load_vp1 (.we (nt g) rfl) rfl sc3) ?_
    refine AL.sF rfl rfl rfl rfl (fun g => op_gtr (.we (nt g) rfl rfl) (.r rfl)) ?_
    refine AL.s rfl (op_or (.r rfl) rfl (fun h => (.we (nt h) rfl rfl))) ?_
    refine AL.s rfl (op_moveD (.e rfl)) ?_
    refine AL.sF rfl rfl rfl rfl (fun g => op_moveD (.e rfl)) ?_
    refine AL.sF rfl rfl rfl rfl (fun g => op_moveD (.e rfl)) ?_
    obtain ⟨v5, hv5, hm⟩ := bindE hm
    refine AL.sF rfl rfl rfl rfl (fun g => op_indexAddrM (f := SRatio.e) (.we (nt g) rfl rfl) (.we (nt g) rfl rfl) (iteT (nt g) hv5) enSRatio sl40) ?_
    refine AL.sF rfl rfl rfl rfl (fun g => op_field_vp (.we (nt g) rfl) fd23_1) ?_
    refine AL.sF rfl rfl rfl rfl (fun g => op_load_vp1 (.we (nt g) rfl) rfl sc3) ?_
    refine AL.sF rfl rfl rfl rfl (fun g => op_lss (.we (nt g) rfl rfl) (.r rfl)) ?_
    refine AL.s rfl (op_or (.r rfl) rfl (fun h => (.we (nt h) rfl rfl))) ?_
    refine AL.s rfl (op_moveD (.e rfl)) ?_
    refine AL.sF rfl rfl rfl rfl (fun g => op_moveD (.e rfl)) ?_
    refine AL.sF rfl rfl rfl rfl (fun g => op_moveD (.e rfl)) ?_
    obtain ⟨v6, hv6, hm⟩ := bindE hm
    refine AL.sF rfl rfl rfl rfl (fun g => op_indexAddrM (f := SRatio.e) (.we (nt g) rfl rfl) (.we (nt g) rfl rfl) (iteT (nt g) hv6) enSRatio sl40) ?_
    refine AL.sF rfl rfl rfl rfl (fun g => op_field_vp (.we (nt g) rfl) fd23_1) ?_
    refine AL.sF rfl rfl rfl rfl (fun g => op_load_vp1 (.we (nt g) rfl) rfl sc3) ?_
    refine AL.sF rfl rfl rfl rfl (fun g => op_gtr (.we (nt g) rfl rfl) (.r rfl)) ?_
    refine AL.s rfl (op_or (.r rfl) rfl (fun h => (.we (nt h) rfl rfl))) ?_
    refine AL.nil ?_
    refine AW.cond (b := _) rfl (fun hc2 => ?_) (fun hc2 => ?_)
    · replace hm := iteT hc2 hm
      refine AW.seqR ?_
      refine AL.s rfl (op_assignD (.e rfl)) ?_
      refine AL.nil ?_
      refine AW.ret ?_
      refine bq_ret ?_
      refine tq_ret ?_
      refine tq_ret ?_
      obtain rfl := Option.some.inj hm
      obtain rfl := Option.some.inj hI1
      replace hm := hk1
      try dsimp only at hm
      refine bq_ret ?_
      refine tq_ret ?_
      obtain rfl := Option.some.inj hm
      exact EndQ.d (.tmp (.e rfl) .nil) rfl rfl
    · replace hm := iteF hc2 hm
      refine AW.skip ?_
      refine bq_n ?_
      refine nq ?_
      refine AW.region ?_
      refine AL.s rfl (op_moveD (.e rfl)) ?_
      refine AL.s rfl (op_addw (.r rfl) (.r rfl)) ?_
      refine AL.s rfl (op_assignD (.e rfl)) ?_
      refine AL.nil ?_
      obtain rfl := Option.some.inj hm
      exact nq ⟨_, hI1, ⟨[], rfl, rfl, rfl, ⟨(.d rfl), (.d rfl), trivial⟩, trivial, .nil⟩⟩
  · replace hm := iteF hc1 hm
    refine AW.exit ?_
    refine tq_exit ?_
    refine tq_exit ?_
    obtain rfl := Option.some.inj hm
    obtain rfl := Option.some.inj hI1
    replace hm := hk1
    try dsimp only at hm
    refine bq_hit ?_
    refine nq ?_
    refine AW.seqR ?_
    refine AL.s rfl (op_moveD (.e rfl)) ?_
    refine AL.s rfl (op_lenM (f := SRatio.e) (.r rfl) sl40) ?_
    refine AL.s rfl (op_leq (.r rfl) (.r rfl)) ?_
    refine AL.s rfl (op_assignD (.e rfl)) ?_
    refine AL.nil ?_
    refine AW.ret ?_
    obtain rfl := Option.some.inj hm
    exact EndQ.d (.tmp (.e rfl) .nil) rfl rfl

set_option maxHeartbeats 20000000 in
theorem m_ref31_Valid_ok {n : Nat} {a1 : A72} {r : Bool} (hm : m_ref31_Valid n a1 = some r) : Fn Tryz.prog 19 [(A72.e a1)] (.bool r) := by
  unfold m_ref31_Valid at hm
  refine Fn.of_AW (fnn := Tryz.f19) Tryz.func19 rfl (Nat.le_of_ble_eq_true rfl) (fun g0 w0 hw0 => ?_)
  refine AW.reset 0 [(0, .d (A72.e a1))] [] (WOK.g0 hw0 (by simp)) ⟨[], rfl, rfl, rfl, ⟨(.d rfl), trivial⟩, trivial, .nil⟩ ?_
  refine AW.seqR ?_
  refine AL.s rfl (op_box (n := 0) (.e rfl) rfl rfl rfl) ?_
  refine AL.s rfl (op_assignD (.e rfl)) ?_
  refine AL.nil ?_
  refine AW.seq ?_
  refine AW.seqR ?_
  refine AL.s rfl (op_assignD (.e rfl)) ?_
  refine AL.nil ?_
  refine AW.block ?_
  obtain ⟨t_1, hI1, hk1⟩ := bindE hm
  refine AW.loopS (σ := Int) (τ := (Bool ⊕ Unit)) 0 (fun x => [(1, .ptr 0 0), (3, .d (.int .i64 x))]) (fun x => [.row [.d (.int .i64 a1.e0.e0.fNum), .d (.int .i64 a1.e0.e0.fDen), .d (.int .i64 a1.e0.e1.fNum), .d (.int .i64 a1.e0.e1.fDen), .d (.int .i64 a1.e0.e2.fNum), .d (.int .i64 a1.e0.e2.fDen), .d (.int .i64 a1.e1.e0.fNum), .d (.int .i64 a1.e1.e0.fDen), .d (.int .i64 a1.e1.e1.fNum), .d (.int .i64 a1.e1.e1.fDen), .d (.int .i64 a1.e1.e2.fNum), .d (.int .i64 a1.e1.e2.fDen), .d (.int .i64 a1.e2.e0.fNum), .d (.int .i64 a1.e2.e0.fDen), .d (.int .i64 a1.e2.e1.fNum), .d (.int .i64 a1.e2.e1.fDen), .d (.int .i64 a1.e2.e2.fNum), .d (.int .i64 a1.e2.e2.fDen), .d (.int .i64 a1.e3.e0.fNum), .d (.int .i64 a1.e3.e0.fDen), .d (.int .i64 a1.e3.e1.fNum), .d (.int .i64 a1.e3.e1.fDen), .d (.int .i64 a1.e3.e2.fNum), .d (.int .i64 a1.e3.e2.fDen), .d (.int .i64 a1.e4.e0.fNum), .d (.int .i64 a1.e4.e0.fDen), .d (.int .i64 a1.e4.e1.fNum), .d (.int .i64 a1.e4.e1.fDen), .d (.int .i64 a1.e4.e2.fNum), .d (.int .i64 a1.e4.e2.fDen), .d (.int .i64 a1.e5.e0.fNum), .d (.int .i64 a1.e5.e0.fDen), .d (.int .i64 a1.e5.e1.fNum), .d (.int .i64 a1.e5.e1.fDen), .d (.int .i64 a1.e5.e2.fNum), .d (.int .i64 a1.e5.e2.fDen), .d (.int .i64 a1.e6.e0.fNum), .d (.int .i64 a1.e6.e0.fDen), .d (.int .i64 a1.e6.e1.fNum), .d (.int .i64 a1.e6.e1.fDen), .d (.int .i64 a1.e6.e2.fNum), .d (.int .i64 a1.e6.e2.fDen)]]) hI1 (WOK.g0 hw0 (by simp)) ⟨[0], rfl, rfl, rfl, ⟨(.ptr rfl), (.d rfl), trivial⟩, trivial, (.row rfl (.cons (.d rfl) (.cons (.d rfl) (.cons (.d rfl) (.cons (.d rfl) (.cons (.d rfl) (.cons (.d rfl) (.cons (.d rfl) (.cons (.d rfl) (.cons (.d rfl) (.cons (.d rfl) (.cons (.d rfl) (.cons (.d rfl) (.cons (.d rfl) (.cons (.d rfl) (.cons (.d rfl) (.cons (.d rfl) (.cons (.d rfl) (.cons (.d rfl) (.cons (.d rfl) (.cons (.d rfl) (.cons (.d rfl) (.cons (.d rfl) (.cons (.d rfl) (.cons (.d rfl) (.cons (.d rfl) (.cons (.d rfl) (.cons (.d rfl) (.cons (.d rfl) (.cons (.d rfl) (.cons (.d rfl) (.cons (.d rfl) (.cons (.d rfl) (.cons (.d rfl) (.cons (.d rfl) (.cons (.d rfl) (.cons (.d rfl) (.cons (.d rfl) (.cons (.d rfl) (.cons (.d rfl) (.cons (.d rfl) (.cons (.d rfl) (.cons (.d rfl) .nil)))))))))))))))))))))))))))))))))))))))))) .nil)⟩ ?_
  rintro n1 s2 hI1
  obtain ⟨y_1, hm, hI1⟩ := iterS hI1
  replace hm : m_ref31_Valid_L1 n _ s2 = some y_1 := hm
  unfold m_ref31_Valid_L1 at hm
  try dsimp only at hm
  refine AW.seq ?_
  refine AW.seqR ?_
  refine AL.s rfl (op_moveD (.e rfl)) ?_
  refine AL.s rfl (op_lss (.r rfl) (.r rfl)) ?_
  refine AL.nil ?_
  refine AW.cond (b := _) rfl (fun hc1 => ?_) (fun hc1 => ?_)
  · replace hm := iteT hc1 hm
    refine AW.skip ?_
    refine nq ?_
    refine AW.seq ?_
    refine AW.block ?_
    refine AW.seqR ?_
    refine AL.s rfl (op_assignD (.e rfl)) ?_
    refine AL.nil ?_
    refine AW.block ?_
    obtain ⟨t_2, hI2, hk2⟩ := bindE hm
    refine AW.loopS (σ := Int) (τ := (Bool ⊕ Unit)) 0 (fun x => [(1, .ptr 0 0), (3, .d (.int .i64 s2)), (4, .d (.int .i64 x))]) (fun x => [.row [.d (.int .i64 a1.e0.e0.fNum), .d (.int .i64 a1.e0.e0.fDen), .d (.int .i64 a1.e0.e1.fNum), .d (.int .i64 a1.e0.e1.fDen), .d (.int .i64 a1.e0.e2.fNum), .d (.int .i64 a1.e0.e2.fDen), .d (.int .i64 a1.e1.e0.fNum), .d (.int .i64 a1.e1.e0.fDen), .d (.int .i64 a1.e1.e1.fNum), .d (.int .i64 a1.e1.e1.fDen), .d (.int .i64 a1.e1.e2.fNum), .d (.int .i64 a1.e1.e2.fDen), .d (.int .i64 a1.e2.e0.fNum), .d (.int .i64 a1.e2.e0.fDen), .d (.int .i64 a1.e2.e1.fNum), .d (.int .i64 a1.e2.e1.fDen), .d (.int .i64 a1.e2.e2.fNum), .d (.int .i64 a1.e2.e2.fDen), .d (.int .i64 a1.e3.e0.fNum), .d (.int .i64 a1.e3.e0.fDen), .d (.int .i64 a1.e3.e1.fNum), .d (.int .i64 a1.e3.e1.fDen), .d (.int .i64 a1.e3.e2.fNum), .d (.int .i64 a1.e3.e2.fDen), .d (.int .i64 a1.e4.e0.fNum), .d (.int .i64 a1.e4.e0.fDen), .d (.int .i64 a1.e4.e1.fNum), .d (.int .i64 a1.e4.e1.fDen), .d (.int .i64 a1.e4.e2.fNum), .d (.int .i64 a1.e4.e2.fDen), .d (.int .i64 a1.e5.e0.fNum), .d (.int .i64 a1.e5.e0.fDen), .d (.int .i64 a1.e5.e1.fNum), .d (.int .i64 a1.e5.e1.fDen), .d (.int .i64 a1.e5.e2.fNum), .d (.int .i64 a1.e5.e2.fDen), .d (.int .i64 a1.e6.e0.fNum), .d (.int .i64 a1.e6.e0.fDen), .d (.int .i64 a1.e6.e1.fNum), .d (.int .i64 a1.e6.e1.fDen), .d (.int .i64 a1.e6.e2.fNum), .d (.int .i64 a1.e6.e2.fDen)]]) hI2 (WOK.g0 hw0 (by simp)) ⟨[0], rfl, rfl, rfl, ⟨(.ptr rfl), (.d rfl), (.d rfl), trivial⟩, trivial, (.row rfl (.cons (.d rfl) (.cons (.d rfl) (.cons (.d rfl) (.cons (.d rfl) (.cons (.d rfl) (.cons (.d rfl) (.cons (.d rfl) (.cons (.d rfl) (.cons (.d rfl) (.cons (.d rfl) (.cons (.d rfl) (.cons (.d rfl) (.cons (.d rfl) (.cons (.d rfl) (.cons (.d rfl) (.cons (.d rfl) (.cons (.d rfl) (.cons (.d rfl) (.cons (.d rfl) (.cons (.d rfl) (.cons (.d rfl) (.cons (.d rfl) (.cons (.d rfl) (.cons (.d rfl) (.cons (.d rfl) (.cons (.d rfl) (.cons (.d rfl) (.cons (.d rfl) (.cons (.d rfl) (.cons (.d rfl) (.cons (.d rfl) (.cons (.d rfl) (.cons (.d rfl) (.cons (.d rfl) (.cons (.d rfl) (.cons (.d rfl) (.cons (.d rfl) (.cons (.d rfl) (.cons (.d rfl) (.cons (.d rfl) (.cons (.d rfl) (.cons (.d rfl) .nil)))))))))))))))))))))))))))))))))))))))))) .nil)⟩ ?_
    rintro n2 s3 hI2
    obtain ⟨y_2, hm, hI2⟩ := iterS hI2
    replace hm : m_ref31_Valid_L2 n _ _ s3 = some y_2 := hm
    unfold m_ref31_Valid_L2 at hm
    try dsimp only at hm
    refine AW.seq ?_
    refine AW.seqR ?_
    refine AL.s rfl (op_moveD (.e rfl)) ?_
    refine AL.s rfl (op_lss (.r rfl) (.r rfl)) ?_
    refine AL.nil ?_
    refine AW.cond (b := _) rfl (fun hc2 => ?_) (fun hc2 => ?_)
    · replace hm := iteT hc2 hm
      refine AW.skip ?_
      refine nq ?_
      refine AW.seq ?_
      refine AW.block ?_
      refine AW.seqR ?_
      refine AL.s rfl (op_moveD (.e rfl)) ?_
      refine AL.s rfl (op_moveD (.e rfl)) ?_
      obtain ⟨v4, hv4, hm⟩ := bindE hm
      refine AL.s rfl (op_indexA (l := a1.l) (s := 6) (.e rfl) (.r rfl) hv4 rfl Tryz.underlying26 ⟨_, rfl, rfl⟩) ?_
      obtain ⟨v5, hv5, hm⟩ := bindE hm
      refine AL.s rfl (op_indexA (l := v4.l) (s := 2) (.e rfl) (.r rfl) hv5 rfl Tryz.underlying24 ⟨_, rfl, rfl⟩) ?_
      refine AL.s rfl (op_loadAtA (X := (A72.e a1).cells) (.e rfl) rfl (AtD.ix (f := SRatio.e) (l := v4.l) enSRatio (AtD.ix (f := A3.e) (l := a1.l) enA3 (AtD.root : AtD (A72.e a1).cells 0 _ _) hv4) hv5) ag23) ?_
      refine AL.s rfl (op_buildSlice (ds := ([v5] : List SRatio).map SRatio.e) sl40 (.cons (.r rfl) rfl (enSRatio.one _) .nil) rfl (by decide)) ?_
      obtain ⟨v6, hv6, hm⟩ := bindE hm
      refine AL.s rfl (op_fn Tryz.call40 (.e rfl) (.cons (.r rfl) .nil) (m_ref28_Valid_ok hv6)) ?_
      refine AL.s rfl (op_not (.r rfl)) ?_
      refine AL.nil ?_
      refine AW.cond (b := _) rfl (fun hc3 => ?_) (fun hc3 => ?_)
      · replace hm := iteT hc3 hm
        refine AW.seqR ?_
        refine AL.s rfl (op_assignD (.e rfl)) ?_
        refine AL.nil ?_
        refine AW.ret ?_
        refine bq_ret ?_
        refine tq_ret ?_
        refine tq_ret ?_
        obtain rfl := Option.some.inj hm
        obtain rfl := Option.some.inj hI2
        replace hm := hk2
        try dsimp only at hm
        refine bq_ret ?_
        refine bq_ret ?_
        refine tq_ret ?_
        refine tq_ret ?_
        obtain rfl := Option.some.inj hm
        obtain rfl := Option.some.inj hI1
        replace hm := hk1
        try dsimp only at hm
        refine bq_ret ?_
        refine tq_ret ?_
        obtain rfl := Option.some.inj hm
        exact EndQ.d (.tmp (.e rfl) .nil) rfl rfl
      · replace hm := iteF hc3 hm
        refine AW.skip ?_
        refine bq_n ?_
        refine nq ?_
        refine AW.region ?_
        refine AL.s rfl (op_moveD (.e rfl)) ?_
        refine AL.s rfl (op_addw (.r rfl) (.r rfl)) ?_
        refine AL.s rfl (op_assignD (.e rfl)) ?_
        refine AL.nil ?_
        obtain rfl := Option.some.inj hm
        exact nq ⟨_, hI2, ⟨[0], rfl, rfl, rfl, ⟨(.ptr rfl), (.d rfl), (.d rfl), trivial⟩, trivial, (.row rfl (.cons (.d rfl) (.cons (.d rfl) (.cons (.d rfl) (.cons (.d rfl) (.cons (.d rfl) (.cons (.d rfl) (.cons (.d rfl) (.cons (.d rfl) (.cons (.d rfl) (.cons (.d rfl) (.cons (.d rfl) (.cons (.d rfl) (.cons (.d rfl) (.cons (.d rfl) (.cons (.d rfl) (.cons (.d rfl) (.cons (.d rfl) (.cons (.d rfl) (.cons (.d rfl) (.cons (.d rfl) (.cons (.d rfl) (.cons (.d rfl) (.cons (.d rfl) (.cons (.d rfl) (.cons (.d rfl) (.cons (.d rfl) (.cons (.d rfl) (.cons (.d rfl) (.cons (.d rfl) (.cons (.d rfl) (.cons (.d rfl) (.cons (.d rfl) (.cons (.d rfl) (.cons (.d rfl) (.cons (.d rfl) (.cons (.d rfl) (.cons (.d rfl) (.cons (.d rfl) (.cons (.d rfl) (.cons (.d rfl) (.cons (.d rfl) (.cons (.d rfl) .nil)))))))))))))))))))))))))))))))))))))))))) .nil)⟩⟩
    · replace hm := iteF hc2 hm
      refine AW.exit ?_
      refine tq_exit ?_
      refine tq_exit ?_
      obtain rfl := Option.some.inj hm
      obtain rfl := Option.some.inj hI2
      replace hm := hk2
      try dsimp only at hm
      refine bq_hit ?_
      refine bq_n ?_
      refine nq ?_
      refine AW.region ?_
      refine AL.s rfl (op_moveD (.e rfl)) ?_
      refine AL.s rfl (op_addw (.r rfl) (.r rfl)) ?_
      refine AL.s rfl (op_assignD (.e rfl)) ?_
      refine AL.nil ?_
      obtain rfl := Option.some.inj hm
      exact nq ⟨_, hI1, ⟨[0], rfl, rfl, rfl, ⟨(.ptr rfl), (.d rfl), trivial⟩, trivial, (.row rfl (.cons (.d rfl) (.cons (.d rfl) (.cons (.d rfl) (.cons (.d rfl) (.cons (.d rfl) (.cons (.d rfl) (.cons (.d rfl) (.cons (.d rfl) (.cons (.d rfl) (.cons (.d rfl) (.cons (.d rfl) (.cons (.d rfl) (.cons (.d rfl) (.cons (.d rfl) (.cons (.d rfl) (.cons (.d rfl) (.cons (.d rfl) (.cons (.d rfl) (.cons (.d rfl) (.cons (.d rfl) (.cons (.d rfl) (.cons (.d rfl) (.cons (.d rfl) (.cons (.d rfl) (.cons (.d rfl) (.cons (.d rfl) (.cons (.d rfl) (.cons (.d rfl) (.cons (.d rfl) (.cons (.d rfl) (.cons (.d rfl) (.cons (.d rfl) (.cons (.d rfl) (.cons (.d rfl) (.cons (.d rfl) (.cons (.d rfl) (.cons (.d rfl) (.cons (.d rfl) (.cons (.d rfl) (.cons (.d rfl) (.cons (.d rfl) (.cons (.d rfl) .nil)))))))))))))))))))))))))))))))))))))))))) .nil)⟩⟩
  · replace hm := iteF hc1 hm
    refine AW.exit ?_
    refine tq_exit ?_
    refine tq_exit ?_
    obtain rfl := Option.some.inj hm
    obtain rfl := Option.some.inj hI1
    replace hm := hk1
    try dsimp only at hm
    refine bq_hit ?_
    refine nq ?_
    refine AW.seqR ?_
    refine AL.s rfl (op_assignD (.e rfl)) ?_
    refine AL.nil ?_
    refine AW.ret ?_
    obtain rfl := Option.some.inj hm
    exact EndQ.d (.tmp (.e rfl) .nil) rfl rfl

set_option maxHeartbeats 20000000 in
theorem m_ref31_Factors_ok {n : Nat} {a1 : A72} {a2 : A7} {r : ((List SRatio) × Int)} (hm : m_ref31_Factors n a1 a2 = some r) : Fn Tryz.prog 7 [(A72.e a1), (A7.e a2)] (.tup [(.sl (r.1.map SRatio.e)), (.int .i64 r.2)]) := by
  unfold m_ref31_Factors at hm
  refine Fn.of_AW (fnn := Tryz.f7) Tryz.func7 rfl (Nat.le_of_ble_eq_true rfl) (fun g0 w0 hw0 => ?_)
  refine AW.reset 0 [(0, .d (A72.e a1)), (1, .d (A7.e a2))] [] (WOK.g0 hw0 (by simp)) ⟨[], rfl, rfl, rfl, ⟨(.d rfl), (.d rfl), trivial⟩, trivial, .nil⟩ ?_
  refine AW.seqR ?_
  refine AL.s rfl (op_box (n := 0) (.e rfl) rfl rfl rfl) ?_
  refine AL.s rfl (op_box (n := 1) (.e rfl) rfl rfl rfl) ?_
  refine AL.s rfl (op_assignN (.e rfl)) ?_
  refine AL.s rfl (op_assignD (.e rfl)) ?_
  refine AL.nil ?_
  refine AW.seq ?_
  refine AW.seqR ?_
  refine AL.s rfl (op_load_ptrA (.e rfl) rfl rfl rfl ag26) ?_
  obtain ⟨v3, hv3, hm⟩ := bindE hm
  refine AL.s rfl (op_fn Tryz.call19 (.e rfl) (.cons (.r rfl) .nil) (m_ref31_Valid_ok hv3)) ?_
  refine AL.s rfl (op_not (.r rfl)) ?_
  refine AL.nil ?_
  refine AW.cond (b := _) rfl (fun hc1 => ?_) (fun hc1 => ?_)
  · replace hm := iteT hc1 hm
    refine AW.seqR ?_
    refine AL.s rfl (op_assignN (.e rfl)) ?_
    refine AL.s rfl (op_assignD (.e rfl)) ?_
    refine AL.nil ?_
    refine AW.ret ?_
    refine tq_ret ?_
    obtain rfl := Option.some.inj hm
    exact EndQ.d (.tmp (.e rfl) (.tmp (.e rfl) .nil)) rfl rfl
  · replace hm := iteF hc1 hm
    refine AW.skip ?_
    refine nq ?_
    refine AW.seqR ?_
    refine AL.s rfl (op_assignN (.e rfl)) ?_
    refine AL.nil ?_
    refine AW.seq ?_
    refine AW.seqR ?_
    refine AL.s rfl (op_assignD (.e rfl)) ?_
    refine AL.nil ?_
    refine AW.block ?_
    refine AW.tokenize (n := 2) 6 23 2 rfl rfl (by simp) ?_
    obtain ⟨t_1, hI1, hk1⟩ := bindE hm
    refine AW.loopS (σ := ((List SRatio) × Int)) (τ := (((List SRatio) × Int) ⊕ (List SRatio))) 0 (fun x => [(2, .ptr 0 0), (3, .ptr 1 0), (6, .tk 2 (x.1.map SRatio.e)), (7, .d (.int .i64 x.2))]) (fun x => [.row [.d (.int .i64 a1.e0.e0.fNum), .d (.int .i64 a1.e0.e0.fDen), .d (.int .i64 a1.e0.e1.fNum), .d (.int .i64 a1.e0.e1.fDen), .d (.int .i64 a1.e0.e2.fNum), .d (.int .i64 a1.e0.e2.fDen), .d (.int .i64 a1.e1.e0.fNum), .d (.int .i64 a1.e1.e0.fDen), .d (.int .i64 a1.e1.e1.fNum), .d (.int .i64 a1.e1.e1.fDen), .d (.int .i64 a1.e1.e2.fNum), .d (.int .i64 a1.e1.e2.fDen), .d (.int .i64 a1.e2.e0.fNum), .d (.int .i64 a1.e2.e0.fDen), .d (.int .i64 a1.e2.e1.fNum), .d (.int .i64 a1.e2.e1.fDen), .d (.int .i64 a1.e2.e2.fNum), .d (.int .i64 a1.e2.e2.fDen), .d (.int .i64 a1.e3.e0.fNum), .d (.int .i64 a1.e3.e0.fDen), .d (.int .i64 a1.e3.e1.fNum), .d (.int .i64 a1.e3.e1.fDen), .d (.int .i64 a1.e3.e2.fNum), .d (.int .i64 a1.e3.e2.fDen), .d (.int .i64 a1.e4.e0.fNum), .d (.int .i64 a1.e4.e0.fDen), .d (.int .i64 a1.e4.e1.fNum), .d (.int .i64 a1.e4.e1.fDen), .d (.int .i64 a1.e4.e2.fNum), .d (.int .i64 a1.e4.e2.fDen), .d (.int .i64 a1.e5.e0.fNum), .d (.int .i64 a1.e5.e0.fDen), .d (.int .i64 a1.e5.e1.fNum), .d (.int .i64 a1.e5.e1.fDen), .d (.int .i64 a1.e5.e2.fNum), .d (.int .i64 a1.e5.e2.fDen), .d (.int .i64 a1.e6.e0.fNum), .d (.int .i64 a1.e6.e0.fDen), .d (.int .i64 a1.e6.e1.fNum), .d (.int .i64 a1.e6.e1.fDen), .d (.int .i64 a1.e6.e2.fNum), .d (.int .i64 a1.e6.e2.fDen)], .row [.d (.int .i64 a2.e0), .d (.int .i64 a2.e1), .d (.int .i64 a2.e2), .d (.int .i64 a2.e3), .d (.int .i64 a2.e4), .d (.int .i64 a2.e5), .d (.int .i64 a2.e6)], .tok x.1.length 23 2]) hI1 (WOK.g0 hw0 (by simp)) ⟨[0, 1, 2], rfl, rfl, rfl, ⟨(.ptr rfl), (.ptr rfl), (.tk rfl), (.d rfl), trivial⟩, trivial, (.row rfl (.cons (.d rfl) (.cons (.d rfl) (.cons (.d rfl) (.cons (.d rfl) (.cons (.d rfl) (.cons (.d rfl) (.cons (.d rfl) (.cons (.d rfl) (.cons (.d rfl) (.cons (.d rfl) (.cons (.d rfl) (.cons (.d rfl) (.cons (.d rfl) (.cons (.d rfl) (.cons (.d rfl) (.cons (.d rfl) (.cons (.d rfl) (.cons (.d rfl) (.cons (.d rfl) (.cons (.d rfl) (.cons (.d rfl) (.cons (.d rfl) (.cons (.d rfl) (.cons (.d rfl) (.cons (.d rfl) (.cons (.d rfl) (.cons (.d rfl) (.cons (.d rfl) (.cons (.d rfl) (.cons (.d rfl) (.cons (.d rfl) (.cons (.d rfl) (.cons (.d rfl) (.cons (.d rfl) (.cons (.d rfl) (.cons (.d rfl) (.cons (.d rfl) (.cons (.d rfl) (.cons (.d rfl) (.cons (.d rfl) (.cons (.d rfl) (.cons (.d rfl) .nil)))))))))))))))))))))))))))))))))))))))))) (.row rfl (.cons (.d rfl) (.cons (.d rfl) (.cons (.d rfl) (.cons (.d rfl) (.cons (.d rfl) (.cons (.d rfl) (.cons (.d rfl) .nil))))))) (.tok rfl .nil)))⟩ ?_
    rintro n1 ⟨s4, s5⟩ hI1
    obtain ⟨y_1, hm, hI1⟩ := iterS hI1
    replace hm : m_ref31_Factors_L1 n _ _ s4 s5 = some y_1 := hm
    unfold m_ref31_Factors_L1 at hm
    try dsimp only at hm
    refine AW.seq ?_
    refine AW.seqR ?_
    refine AL.s rfl (op_moveD (.e rfl)) ?_
    refine AL.s rfl (op_lss (.r rfl) (.r rfl)) ?_
    refine AL.nil ?_
    refine AW.cond (b := _) rfl (fun hc2 => ?_) (fun hc2 => ?_)
    · replace hm := iteT hc2 hm
      refine AW.skip ?_
      refine nq ?_
      obtain ⟨t_j1, hm, hkj1⟩ := bindE hm
      refine AW.cutS (α := (List SRatio)) 0 (fun x => (.inr x) = t_j1) (fun x => [(2, .ptr 0 0), (3, .ptr 1 0), (6, .tk 2 (x.map SRatio.e)), (7, .d (.int .i64 s5))]) (fun x => [.row [.d (.int .i64 a1.e0.e0.fNum), .d (.int .i64 a1.e0.e0.fDen), .d (.int .i64 a1.e0.e1.fNum), .d (.int .i64 a1.e0.e1.fDen), .d (.int .i64 a1.e0.e2.fNum), .d (.int .i64 a1.e0.e2.fDen), .d (.int .i64 a1.e1.e0.fNum), .d (.int .i64 a1.e1.e0.fDen), .d (.int .i64 a1.e1.e1.fNum), .d (.int .i64 a1.e1.e1.fDen), .d (.int .i64 a1.e1.e2.fNum), .d (.int .i64 a1.e1.e2.fDen), .d (.int .i64 a1.e2.e0.fNum), .d (.int .i64 a1.e2.e0.fDen), .d (.int .i64 a1.e2.e1.fNum), .d (.int .i64 a1.e2.e1.fDen), .d (.int .i64 a1.e2.e2.fNum), .d (.int .i64 a1.e2.e2.fDen), .d (.int .i64 a1.e3.e0.fNum), .d (.int .i64 a1.e3.e0.fDen), .d (.int .i64 a1.e3.e1.fNum), .d (.int .i64 a1.e3.e1.fDen), .d (.int .i64 a1.e3.e2.fNum), .d (.int .i64 a1.e3.e2.fDen), .d (.int .i64 a1.e4.e0.fNum), .d (.int .i64 a1.e4.e0.fDen), .d (.int .i64 a1.e4.e1.fNum), .d (.int .i64 a1.e4.e1.fDen), .d (.int .i64 a1.e4.e2.fNum), .d (.int .i64 a1.e4.e2.fDen), .d (.int .i64 a1.e5.e0.fNum), .d (.int .i64 a1.e5.e0.fDen), .d (.int .i64 a1.e5.e1.fNum), .d (.int .i64 a1.e5.e1.fDen), .d (.int .i64 a1.e5.e2.fNum), .d (.int .i64 a1.e5.e2.fDen), .d (.int .i64 a1.e6.e0.fNum), .d (.int .i64 a1.e6.e0.fDen), .d (.int .i64 a1.e6.e1.fNum), .d (.int .i64 a1.e6.e1.fDen), .d (.int .i64 a1.e6.e2.fNum), .d (.int .i64 a1.e6.e2.fDen)], .row [.d (.int .i64 a2.e0), .d (.int .i64 a2.e1), .d (.int .i64 a2.e2), .d (.int .i64 a2.e3), .d (.int .i64 a2.e4), .d (.int .i64 a2.e5), .d (.int .i64 a2.e6)], .tok x.length 23 2]) (WOK.g0 hw0 (by simp)) ?_ ?_
      · skip
        refine AW.block ?_
        refine AW.seq ?_
        refine AW.seqR ?_
        refine AL.s rfl (op_moveD (.e rfl)) ?_
        obtain ⟨v6, hv6, hm⟩ := bindE hm
        refine AL.s rfl (op_indexA (l := a2.l) (s := 1) (.e rfl) (.r rfl) hv6 rfl Tryz.underlying28 ⟨_, rfl, rfl⟩) ?_
        refine AL.s rfl (op_loadAt1 (X := (A7.e a2).cells) (.e rfl) rfl (AtD.ix (f := D.i) (l := a2.l) En.i (AtD.root : AtD (A7.e a2).cells 0 _ _) hv6) sc3) ?_
        refine AL.s rfl (op_lss (.r rfl) (.r rfl)) ?_
        refine AL.s rfl (op_moveD (.e rfl)) ?_
        refine AL.sF rfl rfl rfl rfl (fun g => op_moveD (.e rfl)) ?_
        obtain ⟨v7, hv7, hm⟩ := bindE hm
        refine AL.sF rfl rfl rfl rfl (fun g => op_indexA (l := a2.l) (s := 1) (.e rfl) (.we (nt g) rfl rfl) (iteT (nt g) hv7) rfl Tryz.underlying28 ⟨_, rfl, rfl⟩) ?_
        refine AL.sF rfl rfl rfl rfl (fun g => op_loadAt1 (X := (A7.e a2).cells) (.we (nt g) rfl) rfl (AtD.ix (f := D.i) (l := a2.l) En.i (AtD.root : AtD (A7.e a2).cells 0 _ _) (iteT (nt g) hv7)) sc3) ?_
        refine AL.sF rfl rfl rfl rfl (fun g => op_gtr (.we (nt g) rfl rfl) (.r rfl)) ?_
        refine AL.s rfl (op_or (.r rfl) rfl (fun h => (.we (nt h) rfl rfl))) ?_
        refine AL.nil ?_
        refine AW.cond (b := _) rfl (fun hc3 => ?_) (fun hc3 => ?_)
        · replace hm := iteT hc3 hm
          refine AW.seqR ?_
          refine AL.s rfl (op_assignN (.e rfl)) ?_
          refine AL.s rfl (op_assignD (.e rfl)) ?_
          refine AL.nil ?_
          refine AW.ret ?_
          refine tq_ret ?_
          refine bq_ret ?_
          refine tq_ret ?_
          obtain rfl := Option.some.inj hm
          replace hm := hkj1
          try dsimp only at hm
          refine tq_ret ?_
          obtain rfl := Option.some.inj hm
          obtain rfl := Option.some.inj hI1
          replace hm := hk1
          try dsimp only at hm
          refine bq_ret ?_
          refine tq_ret ?_
          obtain rfl := Option.some.inj hm
          exact EndQ.d (.tmp (.e rfl) (.tmp (.e rfl) .nil)) rfl rfl
        · replace hm := iteF hc3 hm
          refine AW.skip ?_
          refine nq ?_
          refine AW.reset 0 [(2, .ptr 0 0), (3, .ptr 1 0), (6, .tk 2 (s4.map SRatio.e)), (7, .d (.int .i64 s5))] [.row [.d (.int .i64 a1.e0.e0.fNum), .d (.int .i64 a1.e0.e0.fDen), .d (.int .i64 a1.e0.e1.fNum), .d (.int .i64 a1.e0.e1.fDen), .d (.int .i64 a1.e0.e2.fNum), .d (.int .i64 a1.e0.e2.fDen), .d (.int .i64 a1.e1.e0.fNum), .d (.int .i64 a1.e1.e0.fDen), .d (.int .i64 a1.e1.e1.fNum), .d (.int .i64 a1.e1.e1.fDen), .d (.int .i64 a1.e1.e2.fNum), .d (.int .i64 a1.e1.e2.fDen), .d (.int .i64 a1.e2.e0.fNum), .d (.int .i64 a1.e2.e0.fDen), .d (.int .i64 a1.e2.e1.fNum), .d (.int .i64 a1.e2.e1.fDen), .d (.int .i64 a1.e2.e2.fNum), .d (.int .i64 a1.e2.e2.fDen), .d (.int .i64 a1.e3.e0.fNum), .d (.int .i64 a1.e3.e0.fDen), .d (.int .i64 a1.e3.e1.fNum), .d (.int .i64 a1.e3.e1.fDen), .d (.int .i64 a1.e3.e2.fNum), .d (.int .i64 a1.e3.e2.fDen), .d (.int .i64 a1.e4.e0.fNum), .d (.int .i64 a1.e4.e0.fDen), .d (.int .i64 a1.e4.e1.fNum), .d (.int .i64 a1.e4.e1.fDen), .d (.int .i64 a1.e4.e2.fNum), .d (.int .i64 a1.e4.e2.fDen), .d (.int .i64 a1.e5.e0.fNum), .d (.int .i64 a1.e5.e0.fDen), .d (.int .i64 a1.e5.e1.fNum), .d (.int .i64 a1.e5.e1.fDen), .d (.int .i64 a1.e5.e2.fNum), .d (.int .i64 a1.e5.e2.fDen), .d (.int .i64 a1.e6.e0.fNum), .d (.int .i64 a1.e6.e0.fDen), .d (.int .i64 a1.e6.e1.fNum), .d (.int .i64 a1.e6.e1.fDen), .d (.int .i64 a1.e6.e2.fNum), .d (.int .i64 a1.e6.e2.fDen)], .row [.d (.int .i64 a2.e0), .d (.int .i64 a2.e1), .d (.int .i64 a2.e2), .d (.int .i64 a2.e3), .d (.int .i64 a2.e4), .d (.int .i64 a2.e5), .d (.int .i64 a2.e6)], .tok s4.length 23 2] (WOK.g0 hw0 (by simp)) ⟨[0, 1, 2], rfl, rfl, rfl, ⟨(.ptr rfl), (.ptr rfl), (.tk rfl), (.d rfl), trivial⟩, trivial, (.row rfl (.cons (.d rfl) (.cons (.d rfl) (.cons (.d rfl) (.cons (.d rfl) (.cons (.d rfl) (.cons (.d rfl) (.cons (.d rfl) (.cons (.d rfl) (.cons (.d rfl) (.cons (.d rfl) (.cons (.d rfl) (.cons (.d rfl) (.cons (.d rfl) (.cons (.d rfl) (.cons (.d rfl) (.cons (.d rfl) (.cons (.d rfl) (.cons (.d rfl) (.cons (.d rfl) (.cons (.d rfl) (.cons (.d rfl) (.cons (.d rfl) (.cons (.d rfl) (.cons (.d rfl) (.cons (.d rfl) (.cons (.d rfl) (.cons (.d rfl) (.cons (.d rfl) (.cons (.d rfl) (.cons (.d rfl) (.cons (.d rfl) (.cons (.d rfl) (.cons (.d rfl) (.cons (.d rfl) (.cons (.d rfl) (.cons (.d rfl) (.cons (.d rfl) (.cons (.d rfl) (.cons (.d rfl) (.cons (.d rfl) (.cons (.d rfl) (.cons (.d rfl) .nil)))))))))))))))))))))))))))))))))))))))))) (.row rfl (.cons (.d rfl) (.cons (.d rfl) (.cons (.d rfl) (.cons (.d rfl) (.cons (.d rfl) (.cons (.d rfl) (.cons (.d rfl) .nil))))))) (.tok rfl .nil)))⟩ ?_
          refine AW.seqR ?_
          refine AL.s rfl (op_moveD (.e rfl)) ?_
          obtain ⟨v8, hv8, hm⟩ := bindE hm
          refine AL.s rfl (op_indexA (l := a2.l) (s := 1) (.e rfl) (.r rfl) hv8 rfl Tryz.underlying28 ⟨_, rfl, rfl⟩) ?_
          refine AL.s rfl (op_loadAt1 (X := (A7.e a2).cells) (.e rfl) rfl (AtD.ix (f := D.i) (l := a2.l) En.i (AtD.root : AtD (A7.e a2).cells 0 _ _) hv8) sc3) ?_
          refine AL.s rfl (op_neq (.r rfl) (.r rfl)) ?_
          refine AL.nil ?_
          refine AW.cond (b := _) rfl (fun hc4 => ?_) (fun hc4 => ?_)
          · replace hm := iteT hc4 hm
            refine AW.free ?_
            refine AW.drawn [([], []), ([], []), ([], []), ([], []), ([1], []), ([], []), ([], []), ([], []), ([0], []), ([], []), ([2], [2]), ([], [])] mo (by decide +kernel) ?_
            refine AD.s (ws := []) rfl rfl (fun H' _ hH => op_moveT (.e rfl)) ?_
            refine AD.s (ws := []) rfl rfl (fun H' _ hH => op_moveD (.e rfl)) ?_
            refine AD.s (ws := []) rfl rfl (fun H' _ hH => op_moveD (.e rfl)) ?_
            obtain ⟨v9, hv9, hm⟩ := bindE hm
            refine AD.s (ws := []) rfl rfl (fun H' _ hH => op_indexA (l := a2.l) (s := 1) (.e rfl) (.r rfl) hv9 rfl Tryz.underlying28 ⟨_, rfl, rfl⟩) ?_
            refine AD.s (ws := []) rfl rfl (fun H' _ hH => op_loadAt1 (X := (A7.e a2).cells) (.e rfl) ((hH _ (by simp)).trans rfl) (AtD.ix (f := D.i) (l := a2.l) En.i (AtD.root : AtD (A7.e a2).cells 0 _ _) hv9) sc3) ?_
            refine AD.s (ws := []) rfl rfl (fun H' _ hH => op_subw (.r rfl) (.r rfl)) ?_
            obtain ⟨v10, hv10, hm⟩ := bindE hm
            refine AD.s (ws := []) rfl rfl (fun H' _ hH => op_indexA (l := a1.l) (s := 6) (.e rfl) (.r rfl) hv10 rfl Tryz.underlying26 ⟨_, rfl, rfl⟩) ?_
            obtain ⟨v11, hv11, hm⟩ := bindE hm
            refine AD.s (ws := []) rfl rfl (fun H' _ hH => op_indexA (l := v10.l) (s := 2) (.e rfl) (.r rfl) hv11 rfl Tryz.underlying24 ⟨_, rfl, rfl⟩) ?_
            refine AD.s (ws := []) rfl rfl (fun H' _ hH => op_loadAtA (X := (A72.e a1).cells) (.e rfl) ((hH _ (by simp)).trans rfl) (AtD.ix (f := SRatio.e) (l := v10.l) enSRatio (AtD.ix (f := A3.e) (l := a1.l) enA3 (AtD.root : AtD (A72.e a1).cells 0 _ _) hv10) hv11) ag23) ?_
            refine AD.s (ws := []) rfl rfl (fun H' _ hH => op_buildSlice (ds := ([v11] : List SRatio).map SRatio.e) sl40 (.cons (.r rfl) rfl (enSRatio.one _) .nil) rfl (by decide)) ?_
            obtain ⟨v12, hv12, hm⟩ := bindE hm
            refine AD.s (ws := [(2, _)]) rfl rfl (fun H' _ hH => op_appendM (f := SRatio.e) (l' := ([v11] : List SRatio)) sl40 (.e rfl) (.r rfl) ((hH _ (by simp)).trans rfl) rfl enSRatio hv12) ?_
            refine AD.s (ws := []) rfl rfl (fun H' _ hH => op_assignT (.e rfl)) ?_
            refine AD.nil ?_
            refine bq_n ?_
            obtain rfl := Option.some.inj hm
            exact nq ⟨_, rfl, ⟨[0, 1, 2], rfl, rfl, rfl, ⟨(.ptr rfl), (.ptr rfl), (.tk rfl), (.d rfl), trivial⟩, trivial, (.row rfl (.cons (.d rfl) (.cons (.d rfl) (.cons (.d rfl) (.cons (.d rfl) (.cons (.d rfl) (.cons (.d rfl) (.cons (.d rfl) (.cons (.d rfl) (.cons (.d rfl) (.cons (.d rfl) (.cons (.d rfl) (.cons (.d rfl) (.cons (.d rfl) (.cons (.d rfl) (.cons (.d rfl) (.cons (.d rfl) (.cons (.d rfl) (.cons (.d rfl) (.cons (.d rfl) (.cons (.d rfl) (.cons (.d rfl) (.cons (.d rfl) (.cons (.d rfl) (.cons (.d rfl) (.cons (.d rfl) (.cons (.d rfl) (.cons (.d rfl) (.cons (.d rfl) (.cons (.d rfl) (.cons (.d rfl) (.cons (.d rfl) (.cons (.d rfl) (.cons (.d rfl) (.cons (.d rfl) (.cons (.d rfl) (.cons (.d rfl) (.cons (.d rfl) (.cons (.d rfl) (.cons (.d rfl) (.cons (.d rfl) (.cons (.d rfl) (.cons (.d rfl) .nil)))))))))))))))))))))))))))))))))))))))))) (.row rfl (.cons (.d rfl) (.cons (.d rfl) (.cons (.d rfl) (.cons (.d rfl) (.cons (.d rfl) (.cons (.d rfl) (.cons (.d rfl) .nil))))))) (.tok rfl .nil)))⟩⟩
          · replace hm := iteF hc4 hm
            refine AW.skip ?_
            refine bq_n ?_
            obtain rfl := Option.some.inj hm
            exact nq ⟨_, rfl, ⟨[0, 1, 2], rfl, rfl, rfl, ⟨(.ptr rfl), (.ptr rfl), (.tk rfl), (.d rfl), trivial⟩, trivial, (.row rfl (.cons (.d rfl) (.cons (.d rfl) (.cons (.d rfl) (.cons (.d rfl) (.cons (.d rfl) (.cons (.d rfl) (.cons (.d rfl) (.cons (.d rfl) (.cons (.d rfl) (.cons (.d rfl) (.cons (.d rfl) (.cons (.d rfl) (.cons (.d rfl) (.cons (.d rfl) (.cons (.d rfl) (.cons (.d rfl) (.cons (.d rfl) (.cons (.d rfl) (.cons (.d rfl) (.cons (.d rfl) (.cons (.d rfl) (.cons (.d rfl) (.cons (.d rfl) (.cons (.d rfl) (.cons (.d rfl) (.cons (.d rfl) (.cons (.d rfl) (.cons (.d rfl) (.cons (.d rfl) (.cons (.d rfl) (.cons (.d rfl) (.cons (.d rfl) (.cons (.d rfl) (.cons (.d rfl) (.cons (.d rfl) (.cons (.d rfl) (.cons (.d rfl) (.cons (.d rfl) (.cons (.d rfl) (.cons (.d rfl) (.cons (.d rfl) (.cons (.d rfl) .nil)))))))))))))))))))))))))))))))))))))))))) (.row rfl (.cons (.d rfl) (.cons (.d rfl) (.cons (.d rfl) (.cons (.d rfl) (.cons (.d rfl) (.cons (.d rfl) (.cons (.d rfl) .nil))))))) (.tok rfl .nil)))⟩⟩
      · rintro s13 rfl
        replace hm := hkj1
        try dsimp only at hm
        refine AW.region ?_
        refine AL.s rfl (op_moveD (.e rfl)) ?_
        refine AL.s rfl (op_addw (.r rfl) (.r rfl)) ?_
        refine AL.s rfl (op_assignD (.e rfl)) ?_
        refine AL.nil ?_
        obtain rfl := Option.some.inj hm
        exact nq ⟨_, hI1, ⟨[0, 1, 2], rfl, rfl, rfl, ⟨(.ptr rfl), (.ptr rfl), (.tk rfl), (.d rfl), trivial⟩, trivial, (.row rfl (.cons (.d rfl) (.cons (.d rfl) (.cons (.d rfl) (.cons (.d rfl) (.cons (.d rfl) (.cons (.d rfl) (.cons (.d rfl) (.cons (.d rfl) (.cons (.d rfl) (.cons (.d rfl) (.cons (.d rfl) (.cons (.d rfl) (.cons (.d rfl) (.cons (.d rfl) (.cons (.d rfl) (.cons (.d rfl) (.cons (.d rfl) (.cons (.d rfl) (.cons (.d rfl) (.cons (.d rfl) (.cons (.d rfl) (.cons (.d rfl) (.cons (.d rfl) (.cons (.d rfl) (.cons (.d rfl) (.cons (.d rfl) (.cons (.d rfl) (.cons (.d rfl) (.cons (.d rfl) (.cons (.d rfl) (.cons (.d rfl) (.cons (.d rfl) (.cons (.d rfl) (.cons (.d rfl) (.cons (.d rfl) (.cons (.d rfl) (.cons (.d rfl) (.cons (.d rfl) (.cons (.d rfl) (.cons (.d rfl) (.cons (.d rfl) (.cons (.d rfl) .nil)))))))))))))))))))))))))))))))))))))))))) (.row rfl (.cons (.d rfl) (.cons (.d rfl) (.cons (.d rfl) (.cons (.d rfl) (.cons (.d rfl) (.cons (.d rfl) (.cons (.d rfl) .nil))))))) (.tok rfl .nil)))⟩⟩
    · replace hm := iteF hc2 hm
      refine AW.exit ?_
      refine tq_exit ?_
      refine tq_exit ?_
      obtain rfl := Option.some.inj hm
      obtain rfl := Option.some.inj hI1
      replace hm := hk1
      try dsimp only at hm
      refine bq_hit ?_
      refine nq ?_
      refine AW.seqR ?_
      refine AL.s rfl (op_moveT (.e rfl)) ?_
      refine AL.s rfl (op_assignT (.e rfl)) ?_
      refine AL.s rfl (op_assignD (.e rfl)) ?_
      refine AL.nil ?_
      refine AW.ret ?_
      obtain rfl := Option.some.inj hm
      exact EndQ.d (.tmp (.e rfl) (.tmp (.e rfl) .nil)) rfl rfl

set_option maxHeartbeats 20000000 in
theorem m_ref03_Valid_ok {n : Nat} {a1 : (List Int)} {r : Bool} (hm : m_ref03_Valid n a1 = some r) : Fn Tryz.prog 79 [(.sl (a1.map D.i))] (.bool r) := by
  unfold m_ref03_Valid at hm
  refine Fn.of_AW (fnn := Tryz.f79) Tryz.func79 rfl (Nat.le_of_ble_eq_true rfl) (fun g0 w0 hw0 => ?_)
  refine AW.reset 0 [(0, .d (.sl (a1.map D.i)))] [] (WOK.g0 hw0 (by simp)) ⟨[], rfl, rfl, rfl, ⟨(.d rfl), trivial⟩, trivial, .nil⟩ ?_
  refine AW.seqR ?_
  refine AL.s rfl (op_assignD (.e rfl)) ?_
  refine AL.nil ?_
  refine AW.seq ?_
  refine AW.seqR ?_
  refine AL.s rfl (op_assignD (.e rfl)) ?_
  refine AL.nil ?_
  refine AW.block ?_
  obtain ⟨t_1, hI1, hk1⟩ := bindE hm
  refine AW.loopS (σ := Int) (τ := (Bool ⊕ Unit)) 0 (fun x => [(0, .d (.sl (a1.map D.i))), (3, .d (.int .i64 x))]) (fun x => []) hI1 (WOK.g0 hw0 (by simp)) ⟨[], rfl, rfl, rfl, ⟨(.d rfl), (.d rfl), trivial⟩, trivial, .nil⟩ ?_
  rintro n1 s2 hI1
  obtain ⟨y_1, hm, hI1⟩ := iterS hI1
  replace hm : m_ref03_Valid_L1 n _ s2 = some y_1 := hm
  unfold m_ref03_Valid_L1 at hm
  try dsimp only at hm
  refine AW.seq ?_
  refine AW.seqR ?_
  refine AL.s rfl (op_moveD (.e rfl)) ?_
  refine AL.s rfl (op_moveD (.e rfl)) ?_
  refine AL.s rfl (op_lenM (f := D.i) (.r rfl) sl52) ?_
  refine AL.s rfl (op_lss (.r rfl) (.r rfl)) ?_
  refine AL.nil ?_
  refine AW.cond (b := _) rfl (fun hc1 => ?_) (fun hc1 => ?_)
  · replace hm := iteT hc1 hm
    refine AW.skip ?_
    refine nq ?_
    refine AW.seq ?_
    refine AW.block ?_
    refine AW.seqR ?_
    refine AL.s rfl (op_moveD (.e rfl)) ?_
    refine AL.s rfl (op_moveD (.e rfl)) ?_
    obtain ⟨v3, hv3, hm⟩ := bindE hm
    refine AL.s rfl (op_indexAddrM (f := D.i) (.r rfl) (.r rfl) hv3 En.i sl52) ?_
    refine AL.s rfl (op_load_vp1 (.e rfl) rfl sc3) ?_
    refine AL.s rfl (op_lss (.r rfl) (.r rfl)) ?_
    refine AL.s rfl (op_moveD (.e rfl)) ?_
    refine AL.sF rfl rfl rfl rfl (fun g => op_moveD (.e rfl)) ?_
    refine AL.sF rfl rfl rfl rfl (fun g => op_moveD (.e rfl)) ?_
    obtain ⟨v4, hv4, hm⟩ := bindE hm
    refine AL.sF rfl rfl rfl rfl (fun g => op_indexAddrM (f := D.i) (.we (nt g) rfl rfl) (.we (nt g) rfl rfl) (iteT (nt g) hv4) En.i sl52) ?_
    refine AL.sF rfl rfl rfl rfl (fun g => op_load_vp1 (.we (nt g) rfl) rfl sc3) ?_
    refine AL.sF rfl rfl rfl rfl (fun g => op_geq (.we (nt g) rfl rfl) (.r rfl)) ?_
    refine AL.s rfl (op_or (.r rfl) rfl (fun h => (.we (nt h) rfl rfl))) ?_
    refine AL.nil ?_
    refine AW.cond (b := _) rfl (fun hc2 => ?_) (fun hc2 => ?_)
    · replace hm := iteT hc2 hm
      refine AW.seqR ?_
      refine AL.s rfl (op_assignD (.e rfl)) ?_
      refine AL.nil ?_
      refine AW.ret ?_
      refine bq_ret ?_
      refine tq_ret ?_
      refine tq_ret ?_
      obtain rfl := Option.some.inj hm
      obtain rfl := Option.some.inj hI1
      replace hm := hk1
      try dsimp only at hm
      refine bq_ret ?_
      refine tq_ret ?_
      obtain rfl := Option.some.inj hm
      exact EndQ.d (.tmp (.e rfl) .nil) rfl rfl
    · replace hm := iteF hc2 hm
      refine AW.skip ?_
      refine bq_n ?_
      refine nq ?_
      refine AW.region ?_
      refine AL.s rfl (op_moveD (.e rfl)) ?_
      refine AL.s rfl (op_addw (.r rfl) (.r rfl)) ?_
      refine AL.s rfl (op_assignD (.e rfl)) ?_
      refine AL.nil ?_
      obtain rfl := Option.some.inj hm
      exact nq ⟨_, hI1, ⟨[], rfl, rfl, rfl, ⟨(.d rfl), (.d rfl), trivial⟩, trivial, .nil⟩⟩
  · replace hm := iteF hc1 hm
    refine AW.exit ?_
    refine tq_exit ?_
    refine tq_exit ?_
    obtain rfl := Option.some.inj hm
    obtain rfl := Option.some.inj hI1
    replace hm := hk1
    try dsimp only at hm
    refine bq_hit ?_
    refine nq ?_
    refine AW.seqR ?_
    refine AL.s rfl (op_moveD (.e rfl)) ?_
    refine AL.s rfl (op_lenM (f := D.i) (.r rfl) sl52) ?_
    refine AL.s rfl (op_leq (.r rfl) (.r rfl)) ?_
    refine AL.s rfl (op_moveD (.e rfl)) ?_
    refine AL.sT rfl rfl rfl rfl (fun g => op_moveD (.e rfl)) ?_
    refine AL.sT rfl rfl rfl rfl (fun g => op_lenM (f := D.i) (.we g rfl rfl) sl52) ?_
    refine AL.sT rfl rfl rfl rfl (fun g => op_eql (.we g rfl rfl) (.r rfl)) ?_
    refine AL.sT rfl rfl rfl rfl (fun g => op_moveD (.we g rfl)) ?_
    refine AL.sFF rfl rfl rfl rfl (fun gp g => op_moveD (.e rfl)) ?_
    refine AL.sFF rfl rfl rfl rfl (fun gp g => op_moveD (.e rfl)) ?_
    refine AL.sFF rfl rfl rfl rfl (fun gp g => op_lenM (f := D.i) (.we (an gp (nt g)) rfl rfl) sl52) ?_
    refine AL.sFF rfl rfl rfl rfl (fun gp g => op_subw (.we (an gp (nt g)) rfl rfl) (.r rfl)) ?_
    obtain ⟨v5, hv5, hm⟩ := bindE hm
    refine AL.sFF rfl rfl rfl rfl (fun gp g => op_indexAddrM (f := D.i) (.we (an gp (nt g)) rfl rfl) (.we (an gp (nt g)) rfl rfl) (iteT (an gp (nt g)) hv5) En.i sl52) ?_
    refine AL.sFF rfl rfl rfl rfl (fun gp g => op_load_vp1 (.we (an gp (nt g)) rfl) rfl sc3) ?_
    refine AL.sFF rfl rfl rfl rfl (fun gp g => op_neq (.we (an gp (nt g)) rfl rfl) (.r rfl)) ?_
    refine AL.sT rfl rfl rfl rfl (fun g => op_or (.we g rfl rfl) rfl (fun h => (.we (an g (nt h)) rfl rfl))) ?_
    refine AL.s rfl (op_and (.r rfl) (fun h => (.we h rfl rfl)) rfl) ?_
    refine AL.s rfl (op_assignD (.e rfl)) ?_
    refine AL.nil ?_
    refine AW.ret ?_
    obtain rfl := Option.some.inj hm
    exact EndQ.d (.tmp (.e rfl) .nil) rfl rfl

set_option maxHeartbeats 20000000 in
theorem m_ref03_trim_ok {n : Nat} {a1 : (List Int)} {r : (List Int)} (hm : m_ref03_trim n a1 = some r) : Fn Tryz.prog 102 [(.sl (a1.map D.i))] (.sl (r.map D.i)) := by
  unfold m_ref03_trim at hm
  refine Fn.of_AW (fnn := Tryz.f102) Tryz.func102 rfl (Nat.le_of_ble_eq_true rfl) (fun g0 w0 hw0 => ?_)
  refine AW.reset 0 [(0, .d (.sl (a1.map D.i)))] [] (WOK.g0 hw0 (by simp)) ⟨[], rfl, rfl, rfl, ⟨(.d rfl), trivial⟩, trivial, .nil⟩ ?_
  refine AW.seqR ?_
  refine AL.s rfl (op_assignN (.e rfl)) ?_
  refine AL.nil ?_
  refine AW.seqR ?_
  refine AL.s rfl (op_moveD (.e rfl)) ?_
  refine AL.s rfl (op_lenM (f := D.i) (.r rfl) sl52) ?_
  refine AL.s rfl (op_assignD (.e rfl)) ?_
  refine AL.nil ?_
  refine AW.seq ?_
  refine AW.block ?_
  obtain ⟨t_1, hI1, hk1⟩ := bindE hm
  refine AW.loopS (σ := Int) (τ := Int) 0 (fun x => [(0, .d (.sl (a1.map D.i))), (3, .d (.int .i64 x))]) (fun x => []) hI1 (WOK.g0 hw0 (by simp)) ⟨[], rfl, rfl, rfl, ⟨(.d rfl), (.d rfl), trivial⟩, trivial, .nil⟩ ?_
  rintro n1 s2 hI1
  obtain ⟨y_1, hm, hI1⟩ := iterS hI1
  replace hm : m_ref03_trim_L1 n _ s2 = some y_1 := hm
  unfold m_ref03_trim_L1 at hm
  try dsimp only at hm
  refine AW.seq ?_
  refine AW.seqR ?_
  refine AL.s rfl (op_moveD (.e rfl)) ?_
  refine AL.s rfl (op_gtr (.r rfl) (.r rfl)) ?_
  refine AL.s rfl (op_moveD (.e rfl)) ?_
  refine AL.sT rfl rfl rfl rfl (fun g => op_moveD (.e rfl)) ?_
  refine AL.sT rfl rfl rfl rfl (fun g => op_moveD (.e rfl)) ?_
  refine AL.sT rfl rfl rfl rfl (fun g => op_subw (.we g rfl rfl) (.r rfl)) ?_
  obtain ⟨v3, hv3, hm⟩ := bindE hm
  refine AL.sT rfl rfl rfl rfl (fun g => op_indexAddrM (f := D.i) (.we g rfl rfl) (.we g rfl rfl) (iteT g hv3) En.i sl52) ?_
  refine AL.sT rfl rfl rfl rfl (fun g => op_load_vp1 (.we g rfl) rfl sc3) ?_
  refine AL.sT rfl rfl rfl rfl (fun g => op_eql (.we g rfl rfl) (.r rfl)) ?_
  refine AL.s rfl (op_and (.r rfl) (fun h => (.we h rfl rfl)) rfl) ?_
  refine AL.nil ?_
  refine AW.cond (b := _) rfl (fun hc1 => ?_) (fun hc1 => ?_)
  · replace hm := iteT hc1 hm
    refine AW.skip ?_
    refine nq ?_
    refine AW.block ?_
    refine AW.region ?_
    refine AL.s rfl (op_moveD (.e rfl)) ?_
    refine AL.s rfl (op_subw (.r rfl) (.r rfl)) ?_
    refine AL.s rfl (op_assignD (.e rfl)) ?_
    refine AL.nil ?_
    refine bq_n ?_
    obtain rfl := Option.some.inj hm
    exact nq ⟨_, hI1, ⟨[], rfl, rfl, rfl, ⟨(.d rfl), (.d rfl), trivial⟩, trivial, .nil⟩⟩
  · replace hm := iteF hc1 hm
    refine AW.exit ?_
    refine tq_exit ?_
    refine tq_exit ?_
    obtain rfl := Option.some.inj hm
    obtain rfl := Option.some.inj hI1
    replace hm := hk1
    try dsimp only at hm
    refine bq_hit ?_
    refine nq ?_
    refine AW.seqR ?_
    refine AL.s rfl (op_buildSlice (ds := ([] : List Int).map D.i) sl52 .nil rfl (by decide)) ?_
    refine AL.s rfl (op_moveD (.e rfl)) ?_
    refine AL.s rfl (op_moveD (.e rfl)) ?_
    obtain ⟨v4, hv4, hm⟩ := bindE hm
    refine AL.s rfl (op_sliceM (f := D.i) (.r rfl) sl52 rfl (.r rfl) En.i hv4) ?_
    obtain ⟨v5, hv5, hm⟩ := bindE hm
    refine AL.s rfl (op_appendEM (n := 0) (f := D.i) (l := ([] : List Int)) (l' := v4) sl52 (.e rfl) (.r rfl) rfl En.i hv5) ?_
    refine AL.s rfl (op_assignT (.e rfl)) ?_
    refine AL.nil ?_
    refine AW.ret ?_
    obtain rfl := Option.some.inj hm
    exact EndQ.d (.tmp (.e rfl) .nil) rfl rfl

end Go.Proofs.YtgcmhhcopeiomaaGreatDoor.Ab
