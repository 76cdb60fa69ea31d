/- The functions do what they are in plain Lean. Conditions: none. -/
import Derived.Test.YtagdgndoabomiaaDoorTy
import Derived.Test.YtagdgndoabomiaaDoorMi
import Derived.Test.YtagdgndoabomiaaDoorFb
set_option maxRecDepth 100000
namespace Go.Proofs.YtagdgndoabomiaaDoor.Ab
open Go
attribute [local irreducible] AL AD AW

set_option maxHeartbeats 20000000 in
theorem m_nat_small_ok {n : Nat} {a1 : Int} {r : (List Int)} (hm : m_nat_small n a1 = some r) : Fn Tryd.prog 61 [(.int .i64 a1)] (.sl (r.map D.i)) := by
  unfold m_nat_small at hm
  refine Fn.of_AW (fnn := Tryd.f61) Tryd.func61 rfl (Nat.le_of_ble_eq_true rfl) (fun g0 w0 hw0 => ?_)
  refine AW.reset 0 [(0, .d (.int .i64 a1))] [] (WOK.g0 hw0 (by simp)) ⟨[], rfl, rfl, rfl, ⟨(.d rfl), trivial⟩, trivial, .nil⟩ ?_
  refine AW.seqR ?_
  refine AL.s rfl (op_assignN (.e rfl)) ?_
  refine AL.nil ?_
  refine AW.seqR ?_
  refine AL.s rfl (op_assignN (.e rfl)) ?_
  refine AL.nil ?_
  refine AW.seq ?_
  refine AW.block ?_
  refine AW.tokenize (n := 0) 3 3 1 rfl rfl (by simp) ?_
  obtain ⟨t_1, hI1, hk1⟩ := bindE hm
  refine AW.loopS (σ := (Int × (List Int))) (τ := (List Int)) 0 (fun x => [(0, .d (.int .i64 x.1)), (3, .tk 0 (x.2.map D.i))]) (fun x => [.tok x.2.length 3 1]) hI1 (WOK.g0 hw0 (by simp)) ⟨[0], rfl, rfl, rfl, ⟨(.d rfl), (.tk rfl), trivial⟩, trivial, (.tok rfl .nil)⟩ ?_
  rintro n1 ⟨s2, s3⟩ hI1
  obtain ⟨y_1, hm, hI1⟩ := iterS hI1
  replace hm : m_nat_small_L1 n s2 s3 = some y_1 := hm
  unfold m_nat_small_L1 at hm
  try dsimp only at hm
  refine AW.seq ?_
  refine AW.seqR ?_
  refine AL.s rfl (op_moveD (.e rfl)) ?_
  refine AL.s rfl (op_gtr (.r rfl) (.r rfl)) ?_
  refine AL.nil ?_
  refine AW.cond (b := _) rfl (fun hc1 => ?_) (fun hc1 => ?_)
  · replace hm := iteT hc1 hm
    refine AW.skip ?_
    refine nq ?_
    refine AW.seq ?_
    refine AW.block ?_
    refine AW.region ?_
    refine AL.s rfl (op_moveT (.e rfl)) ?_
    refine AL.s rfl (op_moveD (.e rfl)) ?_
    obtain ⟨v4, hv4, hm⟩ := bindE hm
    refine AL.s rfl (op_remM (.r rfl) (.r rfl) hv4) ?_
    refine AL.s rfl (op_buildSlice (ds := ([v4] : List Int).map D.i) sl29 (.cons (.r rfl) rfl (En.i.one _) .nil) rfl (by decide)) ?_
    obtain ⟨v5, hv5, hm⟩ := bindE hm
    refine AL.s rfl (op_appendM (f := D.i) (l' := ([v4] : List Int)) sl29 (.e rfl) (.r rfl) rfl rfl En.i hv5) ?_
    refine AL.s rfl (op_assignT (.e rfl)) ?_
    refine AL.nil ?_
    refine bq_n ?_
    refine nq ?_
    refine AW.region ?_
    refine AL.s rfl (op_moveD (.e rfl)) ?_
    obtain ⟨v6, hv6, hm⟩ := bindE hm
    refine AL.s rfl (op_quoM (.r rfl) (.r rfl) hv6) ?_
    refine AL.s rfl (op_assignD (.e rfl)) ?_
    refine AL.nil ?_
    obtain rfl := Option.some.inj hm
    exact nq ⟨_, hI1, ⟨[0], rfl, rfl, rfl, ⟨(.d rfl), (.tk rfl), trivial⟩, trivial, (.tok rfl .nil)⟩⟩
  · replace hm := iteF hc1 hm
    refine AW.exit ?_
    refine tq_exit ?_
    refine tq_exit ?_
    obtain rfl := Option.some.inj hm
    obtain rfl := Option.some.inj hI1
    replace hm := hk1
    try dsimp only at hm
    refine bq_hit ?_
    refine nq ?_
    refine AW.seqR ?_
    refine AL.s rfl (op_moveT (.e rfl)) ?_
    refine AL.s rfl (op_assignT (.e rfl)) ?_
    refine AL.nil ?_
    refine AW.ret ?_
    obtain rfl := Option.some.inj hm
    exact EndQ.d (.tmp (.e rfl) .nil) rfl rfl

set_option maxHeartbeats 20000000 in
theorem m_nat_Of_ok {n : Nat} {a1 : Int} {r : ((List Int) × Int)} (hm : m_nat_Of n a1 = some r) : Fn Tryd.prog 37 [(.int .i64 a1)] (.tup [(.sl (r.1.map D.i)), (.int .i64 r.2)]) := by
  unfold m_nat_Of at hm
  refine Fn.of_AW (fnn := Tryd.f37) Tryd.func37 rfl (Nat.le_of_ble_eq_true rfl) (fun g0 w0 hw0 => ?_)
  refine AW.seqR ?_
  refine AL.s rfl (op_assignN (.e rfl)) ?_
  refine AL.s rfl (op_assignD (.e rfl)) ?_
  refine AL.nil ?_
  refine AW.seq ?_
  refine AW.seqR ?_
  refine AL.s rfl (op_moveD (.e rfl)) ?_
  refine AL.s rfl (op_lss (.r rfl) (.r rfl)) ?_
  refine AL.nil ?_
  refine AW.cond (b := _) rfl (fun hc1 => ?_) (fun hc1 => ?_)
  · replace hm := iteT hc1 hm
    refine AW.seqR ?_
    refine AL.s rfl (op_assignN (.e rfl)) ?_
    refine AL.s rfl (op_assignD (.e rfl)) ?_
    refine AL.nil ?_
    refine AW.ret ?_
    refine tq_ret ?_
    obtain rfl := Option.some.inj hm
    exact EndQ.d (.tmp (.e rfl) (.tmp (.e rfl) .nil)) rfl rfl
  · replace hm := iteF hc1 hm
    refine AW.skip ?_
    refine nq ?_
    refine AW.seqR ?_
    refine AL.s rfl (op_moveD (.e rfl)) ?_
    obtain ⟨v2, hv2, hm⟩ := bindE hm
    refine AL.s rfl (op_fn Tryd.call61 (.e rfl) (.cons (.r rfl) .nil) (m_nat_small_ok hv2)) ?_
    refine AL.s rfl (op_assignD (.e rfl)) ?_
    refine AL.s rfl (op_assignD (.e rfl)) ?_
    refine AL.nil ?_
    refine AW.ret ?_
    obtain rfl := Option.some.inj hm
    exact EndQ.d (.tmp (.e rfl) (.tmp (.e rfl) .nil)) rfl rfl

set_option maxHeartbeats 20000000 in
theorem m_math_bits_Len64_ok {n : Nat} {a1 : Int} {r : Int} (hm : m_math_bits_Len64 n a1 = some r) : Fn Tryd.prog 72 [(.int .u64 a1)] (.int .i64 r) := by
  unfold m_math_bits_Len64 at hm
  refine Fn.of_AW (fnn := Tryd.f72) Tryd.func72 rfl (Nat.le_of_ble_eq_true rfl) (fun g0 w0 hw0 => ?_)
  refine AW.reset 0 [(0, .d (.int .u64 a1))] [] (WOK.g0 hw0 (by simp)) ⟨[], rfl, rfl, rfl, ⟨(.d rfl), trivial⟩, trivial, .nil⟩ ?_
  refine AW.seqR ?_
  refine AL.s rfl (op_assignD (.e rfl)) ?_
  refine AL.nil ?_
  obtain ⟨t_j1, hm, hkj1⟩ := bindE hm
  refine AW.cutS (α := (Int × Int)) 0 (fun x => x = t_j1) (fun x => [(0, .d (.int .u64 x.1)), (2, .d (.int .i64 x.2))]) (fun x => []) (WOK.g0 hw0 (by simp)) ?_ ?_
  · skip
    refine AW.seqR ?_
    refine AL.s rfl (op_moveD (.e rfl)) ?_
    refine AL.s rfl (op_geq (.r rfl) (.r rfl)) ?_
    refine AL.nil ?_
    refine AW.cond (b := _) rfl (fun hc1 => ?_) (fun hc1 => ?_)
    · replace hm := iteT hc1 hm
      refine AW.seqR ?_
      refine AL.s rfl (op_moveD (.e rfl)) ?_
      obtain ⟨v2, hv2, hm⟩ := bindE hm
      refine AL.s rfl (op_shrM (.r rfl) (.r rfl) hv2) ?_
      refine AL.s rfl (op_assignD (.e rfl)) ?_
      refine AL.nil ?_
      refine AW.region ?_
      refine AL.s rfl (op_assignD (.e rfl)) ?_
      refine AL.nil ?_
      obtain rfl := Option.some.inj hm
      exact nq ⟨_, rfl, ⟨[], rfl, rfl, rfl, ⟨(.d rfl), (.d rfl), trivial⟩, trivial, .nil⟩⟩
    · replace hm := iteF hc1 hm
      refine AW.skip ?_
      obtain rfl := Option.some.inj hm
      exact nq ⟨_, rfl, ⟨[], rfl, rfl, rfl, ⟨(.d rfl), (.d rfl), trivial⟩, trivial, .nil⟩⟩
  · rintro ⟨s3, s4⟩ rfl
    replace hm := hkj1
    try dsimp only at hm
    obtain ⟨t_j2, hm, hkj2⟩ := bindE hm
    refine AW.cutS (α := (Int × Int)) 0 (fun x => x = t_j2) (fun x => [(0, .d (.int .u64 x.1)), (2, .d (.int .i64 x.2))]) (fun x => []) (WOK.g0 hw0 (by simp)) ?_ ?_
    · skip
      refine AW.seqR ?_
      refine AL.s rfl (op_moveD (.e rfl)) ?_
      refine AL.s rfl (op_geq (.r rfl) (.r rfl)) ?_
      refine AL.nil ?_
      refine AW.cond (b := _) rfl (fun hc2 => ?_) (fun hc2 => ?_)
      · replace hm := iteT hc2 hm
        refine AW.seqR ?_
        refine AL.s rfl (op_moveD (.e rfl)) ?_
        obtain ⟨v5, hv5, hm⟩ := bindE hm
        refine AL.s rfl (op_shrM (.r rfl) (.r rfl) hv5) ?_
        refine AL.s rfl (op_assignD (.e rfl)) ?_
        refine AL.nil ?_
        refine AW.region ?_
        refine AL.s rfl (op_moveD (.e rfl)) ?_
        refine AL.s rfl (op_addw (.r rfl) (.r rfl)) ?_
        refine AL.s rfl (op_assignD (.e rfl)) ?_
        refine AL.nil ?_
        obtain rfl := Option.some.inj hm
        exact nq ⟨_, rfl, ⟨[], rfl, rfl, rfl, ⟨(.d rfl), (.d rfl), trivial⟩, trivial, .nil⟩⟩
      · replace hm := iteF hc2 hm
        refine AW.skip ?_
        obtain rfl := Option.some.inj hm
        exact nq ⟨_, rfl, ⟨[], rfl, rfl, rfl, ⟨(.d rfl), (.d rfl), trivial⟩, trivial, .nil⟩⟩
    · rintro ⟨s6, s7⟩ rfl
      replace hm := hkj2
      try dsimp only at hm
      obtain ⟨t_j3, hm, hkj3⟩ := bindE hm
      refine AW.cutS (α := (Int × Int)) 0 (fun x => x = t_j3) (fun x => [(0, .d (.int .u64 x.1)), (2, .d (.int .i64 x.2))]) (fun x => []) (WOK.g0 hw0 (by simp)) ?_ ?_
      · skip
        refine AW.seqR ?_
        refine AL.s rfl (op_moveD (.e rfl)) ?_
        refine AL.s rfl (op_geq (.r rfl) (.r rfl)) ?_
        refine AL.nil ?_
        refine AW.cond (b := _) rfl (fun hc3 => ?_) (fun hc3 => ?_)
        · replace hm := iteT hc3 hm
          refine AW.seqR ?_
          refine AL.s rfl (op_moveD (.e rfl)) ?_
          obtain ⟨v8, hv8, hm⟩ := bindE hm
          refine AL.s rfl (op_shrM (.r rfl) (.r rfl) hv8) ?_
          refine AL.s rfl (op_assignD (.e rfl)) ?_
          refine AL.nil ?_
          refine AW.region ?_
          refine AL.s rfl (op_moveD (.e rfl)) ?_
          refine AL.s rfl (op_addw (.r rfl) (.r rfl)) ?_
          refine AL.s rfl (op_assignD (.e rfl)) ?_
          refine AL.nil ?_
          obtain rfl := Option.some.inj hm
          exact nq ⟨_, rfl, ⟨[], rfl, rfl, rfl, ⟨(.d rfl), (.d rfl), trivial⟩, trivial, .nil⟩⟩
        · replace hm := iteF hc3 hm
          refine AW.skip ?_
          obtain rfl := Option.some.inj hm
          exact nq ⟨_, rfl, ⟨[], rfl, rfl, rfl, ⟨(.d rfl), (.d rfl), trivial⟩, trivial, .nil⟩⟩
      · rintro ⟨s9, s10⟩ rfl
        replace hm := hkj3
        try dsimp only at hm
        refine AW.seqR ?_
        refine AL.s rfl (op_moveD (.e rfl)) ?_
        refine AL.s rfl (op_moveD (.e rfl)) ?_
        refine AL.s rfl (op_conv_int (.r rfl) ⟨_, Tryd.underlying90⟩ Tryd.underlying5) ?_
        obtain ⟨v11, hv11, hm⟩ := bindE hm
        refine AL.s rfl (op_indexSM (.r rfl) (.r rfl) hv11 Tryd.underlying9) ?_
        refine AL.s rfl (op_conv_int (.r rfl) ⟨_, Tryd.underlying5⟩ Tryd.underlying3) ?_
        refine AL.s rfl (op_addw (.r rfl) (.r rfl)) ?_
        refine AL.s rfl (op_assignD (.e rfl)) ?_
        refine AL.nil ?_
        refine AW.ret ?_
        obtain rfl := Option.some.inj hm
        exact EndQ.d (.tmp (.e rfl) .nil) rfl rfl

set_option maxHeartbeats 20000000 in
theorem m_math_bits_Len_ok {n : Nat} {a1 : Int} {r : Int} (hm : m_math_bits_Len n a1 = some r) : Fn Tryd.prog 60 [(.int .u64 a1)] (.int .i64 r) := by
  unfold m_math_bits_Len at hm
  refine Fn.of_AW (fnn := Tryd.f60) Tryd.func60 rfl (Nat.le_of_ble_eq_true rfl) (fun g0 w0 hw0 => ?_)
  refine AW.seqR ?_
  refine AL.s rfl (op_assignD (.e rfl)) ?_
  refine AL.nil ?_
  refine AW.seq ?_
  refine AW.cond (b := false) rfl (fun hc => by cases hc) (fun hc => ?_)
  refine AW.skip ?_
  refine nq ?_
  refine AW.seqR ?_
  refine AL.s rfl (op_moveD (.e rfl)) ?_
  obtain ⟨v2, hv2, hm⟩ := bindE hm
  refine AL.s rfl (op_fn Tryd.call72 (.e rfl) (.cons (.r rfl) .nil) (m_math_bits_Len64_ok hv2)) ?_
  refine AL.s rfl (op_assignD (.e rfl)) ?_
  refine AL.nil ?_
  refine AW.ret ?_
  obtain rfl := Option.some.inj hm
  exact EndQ.d (.tmp (.e rfl) .nil) rfl rfl

set_option maxHeartbeats 20000000 in
theorem m_nat_Bits_ok {n : Nat} {a1 : (List Int)} {r : Int} (hm : m_nat_Bits n a1 = some r) : Fn Tryd.prog 36 [(.sl (a1.map D.i))] (.int .i64 r) := by
  unfold m_nat_Bits at hm
  refine Fn.of_AW (fnn := Tryd.f36) Tryd.func36 rfl (Nat.le_of_ble_eq_true rfl) (fun g0 w0 hw0 => ?_)
  refine AW.seqR ?_
  refine AL.s rfl (op_assignD (.e rfl)) ?_
  refine AL.nil ?_
  refine AW.seq ?_
  refine AW.seqR ?_
  refine AL.s rfl (op_moveD (.e rfl)) ?_
  obtain ⟨v2, hv2, hm⟩ := bindE hm
  refine AL.s rfl (op_fn Tryd.call41 (.e rfl) (.cons (.r rfl) .nil) (m_nat_Valid_ok hv2)) ?_
  refine AL.s rfl (op_not (.r rfl)) ?_
  refine AL.s rfl (op_moveD (.e rfl)) ?_
  refine AL.sF rfl rfl rfl rfl (fun g => op_moveD (.e rfl)) ?_
  refine AL.sF rfl rfl rfl rfl (fun g => op_lenM (f := D.i) (.we (nt g) rfl rfl) sl29) ?_
  refine AL.sF rfl rfl rfl rfl (fun g => op_eql (.we (nt g) rfl rfl) (.r rfl)) ?_
  refine AL.s rfl (op_or (.r rfl) rfl (fun h => (.we (nt h) rfl rfl))) ?_
  refine AL.nil ?_
  refine AW.cond (b := _) rfl (fun hc1 => ?_) (fun hc1 => ?_)
  · replace hm := iteT hc1 hm
    refine AW.seqR ?_
    refine AL.s rfl (op_assignD (.e rfl)) ?_
    refine AL.nil ?_
    refine AW.ret ?_
    refine tq_ret ?_
    obtain rfl := Option.some.inj hm
    exact EndQ.d (.tmp (.e rfl) .nil) rfl rfl
  · replace hm := iteF hc1 hm
    refine AW.skip ?_
    refine nq ?_
    refine AW.seqR ?_
    refine AL.s rfl (op_moveD (.e rfl)) ?_
    refine AL.s rfl (op_lenM (f := D.i) (.r rfl) sl29) ?_
    refine AL.s rfl (op_subw (.r rfl) (.r rfl)) ?_
    refine AL.s rfl (op_mulw (.r rfl) (.r rfl)) ?_
    refine AL.s rfl (op_moveD (.e rfl)) ?_
    refine AL.s rfl (op_moveD (.e rfl)) ?_
    refine AL.s rfl (op_lenM (f := D.i) (.r rfl) sl29) ?_
    refine AL.s rfl (op_subw (.r rfl) (.r rfl)) ?_
    obtain ⟨v3, hv3, hm⟩ := bindE hm
    refine AL.s rfl (op_indexAddrM (f := D.i) (.r rfl) (.r rfl) hv3 En.i sl29) ?_
    refine AL.s rfl (op_load_vp1 (.e rfl) rfl sc3) ?_
    refine AL.s rfl (op_conv_int (.r rfl) ⟨_, Tryd.underlying3⟩ Tryd.underlying76) ?_
    obtain ⟨v4, hv4, hm⟩ := bindE hm
    refine AL.s rfl (op_fn Tryd.call60 (.e rfl) (.cons (.r rfl) .nil) (m_math_bits_Len_ok hv4)) ?_
    refine AL.s rfl (op_addw (.r rfl) (.r rfl)) ?_
    refine AL.s rfl (op_assignD (.e rfl)) ?_
    refine AL.nil ?_
    refine AW.ret ?_
    obtain rfl := Option.some.inj hm
    exact EndQ.d (.tmp (.e rfl) .nil) rfl rfl

set_option maxHeartbeats 20000000 in
theorem m_nat_Power_ok {n : Nat} {a1 : (List Int)} {a2 : Int} {r : ((List Int) × Int)} (hm : m_nat_Power n a1 a2 = some r) : Fn Tryd.prog 20 [(.sl (a1.map D.i)), (.int .i64 a2)] (.tup [(.sl (r.1.map D.i)), (.int .i64 r.2)]) := by
  unfold m_nat_Power at hm
  refine Fn.of_AW (fnn := Tryd.f20) Tryd.func20 rfl (Nat.le_of_ble_eq_true rfl) (fun g0 w0 hw0 => ?_)
  refine AW.reset 0 [(0, .d (.sl (a1.map D.i))), (1, .d (.int .i64 a2))] [] (WOK.g0 hw0 (by simp)) ⟨[], rfl, rfl, rfl, ⟨(.d rfl), (.d rfl), trivial⟩, trivial, .nil⟩ ?_
  refine AW.seqR ?_
  refine AL.s rfl (op_assignN (.e rfl)) ?_
  refine AL.s rfl (op_assignD (.e rfl)) ?_
  refine AL.nil ?_
  refine AW.seq ?_
  refine AW.block ?_
  refine AW.seqR ?_
  refine AL.s rfl (op_moveD (.e rfl)) ?_
  obtain ⟨v3, hv3, hm⟩ := bindE hm
  refine AL.s rfl (op_fn Tryd.call41 (.e rfl) (.cons (.r rfl) .nil) (m_nat_Valid_ok hv3)) ?_
  refine AL.s rfl (op_not (.r rfl)) ?_
  refine AL.s rfl (op_assignD (.e rfl)) ?_
  refine AL.nil ?_
  refine AW.cond (b := _) rfl (fun hc1 => ?_) (fun hc1 => ?_)
  · replace hm := iteT hc1 hm
    refine AW.seqR ?_
    refine AL.s rfl (op_assignN (.e rfl)) ?_
    refine AL.s rfl (op_assignD (.e rfl)) ?_
    refine AL.nil ?_
    refine AW.ret ?_
    refine bq_ret ?_
    refine tq_ret ?_
    obtain rfl := Option.some.inj hm
    exact EndQ.d (.tmp (.e rfl) (.tmp (.e rfl) .nil)) rfl rfl
  · replace hm := iteF hc1 hm
    refine AW.seqR ?_
    refine AL.s rfl (op_moveD (.e rfl)) ?_
    refine AL.s rfl (op_lss (.r rfl) (.r rfl)) ?_
    refine AL.s rfl (op_moveD (.e rfl)) ?_
    refine AL.sF rfl rfl rfl rfl (fun g => op_moveD (.e rfl)) ?_
    refine AL.sF rfl rfl rfl rfl (fun g => op_gtr (.we (nt g) rfl rfl) (.r rfl)) ?_
    refine AL.s rfl (op_or (.r rfl) rfl (fun h => (.we (nt h) rfl rfl))) ?_
    refine AL.s rfl (op_assignD (.e rfl)) ?_
    refine AL.nil ?_
    refine AW.cond (b := _) rfl (fun hc2 => ?_) (fun hc2 => ?_)
    · replace hm := iteT hc2 hm
      refine AW.seqR ?_
      refine AL.s rfl (op_assignN (.e rfl)) ?_
      refine AL.s rfl (op_assignD (.e rfl)) ?_
      refine AL.nil ?_
      refine AW.ret ?_
      refine bq_ret ?_
      refine tq_ret ?_
      obtain rfl := Option.some.inj hm
      exact EndQ.d (.tmp (.e rfl) (.tmp (.e rfl) .nil)) rfl rfl
    · replace hm := iteF hc2 hm
      refine AW.skip ?_
      refine bq_n ?_
      refine nq ?_
      refine AW.seqR ?_
      refine AL.s rfl (op_buildSlice (ds := ([(1 : Int)] : List Int).map D.i) sl29 (.cons (.r rfl) rfl (En.i.one _) .nil) rfl (by decide)) ?_
      refine AL.s rfl (op_assignE (.e rfl)) ?_
      refine AL.nil ?_
      refine AW.seq ?_
      refine AW.seqR ?_
      refine AL.s rfl (op_moveD (.e rfl)) ?_
      refine AL.s rfl (op_moveD (.e rfl)) ?_
      refine AL.nil ?_
      refine AW.block ?_
      obtain ⟨t_1, hI1, hk1⟩ := bindE hm
      refine AW.loopS (σ := ((List Int) × Int)) (τ := (((List Int) × Int) ⊕ (List Int))) 0 (fun x => [(0, .d (.sl (a1.map D.i))), (6, .d (.sl (x.1.map D.i))), (19, .d (.int .i64 a2)), (20, .d (.int .i64 x.2))]) (fun x => []) hI1 (WOK.g0 hw0 (by simp)) ⟨[], rfl, rfl, rfl, ⟨(.d rfl), (.d rfl), (.d rfl), (.d rfl), trivial⟩, trivial, .nil⟩ ?_
      rintro n1 ⟨s4, s5⟩ hI1
      obtain ⟨y_1, hm, hI1⟩ := iterS hI1
      replace hm : m_nat_Power_L1 n _ _ s4 s5 = some y_1 := hm
      unfold m_nat_Power_L1 at hm
      try dsimp only at hm
      refine AW.seqR ?_
      refine AL.s rfl (op_lss (.r rfl) (.r rfl)) ?_
      refine AL.nil ?_
      refine AW.seq ?_
      refine AW.cond (b := _) rfl (fun hc3 => ?_) (fun hc3 => ?_)
      · replace hm := iteT hc3 hm
        refine AW.skip ?_
        refine nq ?_
        refine AW.seq ?_
        refine AW.block ?_
        refine AW.seqR ?_
        refine AL.s rfl (op_moveD (.e rfl)) ?_
        refine AL.s rfl (op_moveD (.e rfl)) ?_
        obtain ⟨v6, hv6, hm⟩ := bindE hm
        refine AL.s rfl (op_fn Tryd.call49 (.e rfl) (.cons (.r rfl) (.cons (.r rfl) .nil)) (m_nat_times_ok hv6)) ?_
        refine AL.s rfl (op_assignD (.e rfl)) ?_
        refine AL.nil ?_
        refine AW.seqR ?_
        refine AL.s rfl (op_moveD (.e rfl)) ?_
        refine AL.s rfl (op_lenM (f := D.i) (.r rfl) sl29) ?_
        refine AL.s rfl (op_gtr (.r rfl) (.r rfl)) ?_
        refine AL.nil ?_
        refine AW.cond (b := _) rfl (fun hc4 => ?_) (fun hc4 => ?_)
        · replace hm := iteT hc4 hm
          refine AW.seqR ?_
          refine AL.s rfl (op_assignN (.e rfl)) ?_
          refine AL.s rfl (op_assignD (.e rfl)) ?_
          refine AL.nil ?_
          refine AW.ret ?_
          refine bq_ret ?_
          refine tq_ret ?_
          refine tq_ret ?_
          obtain rfl := Option.some.inj hm
          obtain rfl := Option.some.inj hI1
          replace hm := hk1
          try dsimp only at hm
          refine bq_ret ?_
          refine tq_ret ?_
          obtain rfl := Option.some.inj hm
          exact EndQ.d (.tmp (.e rfl) (.tmp (.e rfl) .nil)) rfl rfl
        · replace hm := iteF hc4 hm
          refine AW.skip ?_
          refine bq_n ?_
          refine nq ?_
          refine AW.region ?_
          refine AL.s rfl (op_addw (.r rfl) (.r rfl)) ?_
          refine AL.s rfl (op_moveD (.e rfl)) ?_
          refine AL.nil ?_
          obtain rfl := Option.some.inj hm
          exact nq ⟨_, hI1, ⟨[], rfl, rfl, rfl, ⟨(.d rfl), (.d rfl), (.d rfl), (.d rfl), trivial⟩, trivial, .nil⟩⟩
      · replace hm := iteF hc3 hm
        refine AW.exit ?_
        refine tq_exit ?_
        refine tq_exit ?_
        obtain rfl := Option.some.inj hm
        obtain rfl := Option.some.inj hI1
        replace hm := hk1
        try dsimp only at hm
        refine bq_hit ?_
        refine nq ?_
        refine AW.seqR ?_
        refine AL.s rfl (op_moveD (.e rfl)) ?_
        refine AL.s rfl (op_assignD (.e rfl)) ?_
        refine AL.s rfl (op_assignD (.e rfl)) ?_
        refine AL.nil ?_
        refine AW.ret ?_
        obtain rfl := Option.some.inj hm
        exact EndQ.d (.tmp (.e rfl) (.tmp (.e rfl) .nil)) rfl rfl

set_option maxHeartbeats 20000000 in
theorem m_nat_Show_ok {n : Nat} {a1 : (List Int)} {r : ((List UInt8) × Int)} (hm : m_nat_Show n a1 = some r) : Fn Tryd.prog 14 [(.sl (a1.map D.i))] (.tup [(.str r.1), (.int .i64 r.2)]) := by
  unfold m_nat_Show at hm
  refine Fn.of_AW (fnn := Tryd.f14) Tryd.func14 rfl (Nat.le_of_ble_eq_true rfl) (fun g0 w0 hw0 => ?_)
  refine AW.reset 0 [(0, .d (.sl (a1.map D.i)))] [] (WOK.g0 hw0 (by simp)) ⟨[], rfl, rfl, rfl, ⟨(.d rfl), trivial⟩, trivial, .nil⟩ ?_
  refine AW.seqR ?_
  refine AL.s rfl (op_assignD (.e rfl)) ?_
  refine AL.s rfl (op_assignD (.e rfl)) ?_
  refine AL.nil ?_
  refine AW.seq ?_
  refine AW.block ?_
  refine AW.seqR ?_
  refine AL.s rfl (op_moveD (.e rfl)) ?_
  obtain ⟨v2, hv2, hm⟩ := bindE hm
  refine AL.s rfl (op_fn Tryd.call41 (.e rfl) (.cons (.r rfl) .nil) (m_nat_Valid_ok hv2)) ?_
  refine AL.s rfl (op_not (.r rfl)) ?_
  refine AL.s rfl (op_assignD (.e rfl)) ?_
  refine AL.nil ?_
  refine AW.cond (b := _) rfl (fun hc1 => ?_) (fun hc1 => ?_)
  · replace hm := iteT hc1 hm
    refine AW.seqR ?_
    refine AL.s rfl (op_assignD (.e rfl)) ?_
    refine AL.s rfl (op_assignD (.e rfl)) ?_
    refine AL.nil ?_
    refine AW.ret ?_
    refine bq_ret ?_
    refine tq_ret ?_
    obtain rfl := Option.some.inj hm
    exact EndQ.d (.tmp (.e rfl) (.tmp (.e rfl) .nil)) rfl rfl
  · replace hm := iteF hc1 hm
    refine AW.seqR ?_
    refine AL.s rfl (op_moveD (.e rfl)) ?_
    refine AL.s rfl (op_lenM (f := D.i) (.r rfl) sl29) ?_
    refine AL.s rfl (op_eql (.r rfl) (.r rfl)) ?_
    refine AL.s rfl (op_assignD (.e rfl)) ?_
    refine AL.nil ?_
    refine AW.cond (b := _) rfl (fun hc2 => ?_) (fun hc2 => ?_)
    · replace hm := iteT hc2 hm
      refine AW.seqR ?_
      refine AL.s rfl (op_assignD (.e rfl)) ?_
      refine AL.s rfl (op_assignD (.e rfl)) ?_
      refine AL.nil ?_
      refine AW.ret ?_
      refine bq_ret ?_
      refine tq_ret ?_
      obtain rfl := Option.some.inj hm
      exact EndQ.d (.tmp (.e rfl) (.tmp (.e rfl) .nil)) rfl rfl
    · replace hm := iteF hc2 hm
      refine AW.skip ?_
      refine bq_n ?_
      refine nq ?_
      refine AW.seqR ?_
      refine AL.s rfl (op_assignD (.e rfl)) ?_
      refine AL.nil ?_
      refine AW.seq ?_
      refine AW.seqR ?_
      refine AL.s rfl (op_moveD (.e rfl)) ?_
      refine AL.s rfl (op_assignD (.e rfl)) ?_
      refine AL.nil ?_
      refine AW.block ?_
      obtain ⟨t_1, hI1, hk1⟩ := bindE hm
      refine AW.loopS (σ := ((List UInt8) × (List Int))) (τ := (List UInt8)) 0 (fun x => [(4, .d (.str x.1)), (5, .d (.sl (x.2.map D.i)))]) (fun x => []) hI1 (WOK.g0 hw0 (by simp)) ⟨[], rfl, rfl, rfl, ⟨(.d rfl), (.d rfl), trivial⟩, trivial, .nil⟩ ?_
      rintro n1 ⟨s3, s4⟩ hI1
      obtain ⟨y_1, hm, hI1⟩ := iterS hI1
      replace hm : m_nat_Show_L1 n s3 s4 = some y_1 := hm
      unfold m_nat_Show_L1 at hm
      try dsimp only at hm
      refine AW.seq ?_
      refine AW.seqR ?_
      refine AL.s rfl (op_moveD (.e rfl)) ?_
      refine AL.s rfl (op_lenM (f := D.i) (.r rfl) sl29) ?_
      refine AL.s rfl (op_gtr (.r rfl) (.r rfl)) ?_
      refine AL.nil ?_
      refine AW.cond (b := _) rfl (fun hc3 => ?_) (fun hc3 => ?_)
      · replace hm := iteT hc3 hm
        refine AW.skip ?_
        refine nq ?_
        refine AW.block ?_
        refine AW.seqR ?_
        refine AL.s rfl (op_moveD (.e rfl)) ?_
        refine AL.s rfl (op_buildSlice (ds := ([(10000 : Int)] : List Int).map D.i) sl29 (.cons (.r rfl) rfl (En.i.one _) .nil) rfl (by decide)) ?_
        obtain ⟨v5, hv5, hm⟩ := bindE hm
        refine AL.s rfl (op_fn Tryd.call45 (.e rfl) (.cons (.r rfl) (.cons (.r rfl) .nil)) (m_nat_divide_ok hv5)) ?_
        refine AL.s rfl (op_moveD (.e rfl)) ?_
        refine AL.s rfl (op_extractD (.e rfl) rfl) ?_
        refine AL.s rfl (op_extractD (.e rfl) rfl) ?_
        refine AL.s rfl (op_assignD (.e rfl)) ?_
        refine AL.s rfl (op_assignD (.e rfl)) ?_
        refine AL.nil ?_
        refine AW.seqR ?_
        refine AL.s rfl (op_moveD (.e rfl)) ?_
        obtain ⟨v6, hv6, hm⟩ := bindE hm
        refine AL.s rfl (op_fn Tryd.call47 (.e rfl) (.cons (.r rfl) (.cons (.r rfl) .nil)) (m_nat_digit_ok hv6)) ?_
        obtain ⟨v7, hv7, hm⟩ := bindE hm
        refine AL.s rfl (op_fn Tryd.call46 (.e rfl) (.cons (.r rfl) .nil) (itoaM_fn hv7)) ?_
        refine AL.s rfl (op_assignD (.e rfl)) ?_
        refine AL.nil ?_
        refine AW.seq ?_
        refine AW.block ?_
        obtain ⟨t_2, hI2, hk2⟩ := bindE hm
        refine AW.loopS (σ := (List UInt8)) (τ := (List UInt8)) 0 (fun x => [(4, .d (.str s3)), (6, .d (.sl (v5.1.map D.i))), (8, .d (.str x))]) (fun x => []) hI2 (WOK.g0 hw0 (by simp)) ⟨[], rfl, rfl, rfl, ⟨(.d rfl), (.d rfl), (.d rfl), trivial⟩, trivial, .nil⟩ ?_
        rintro n2 s8 hI2
        obtain ⟨y_2, hm, hI2⟩ := iterS hI2
        replace hm : m_nat_Show_L2 n _ s8 = some y_2 := hm
        unfold m_nat_Show_L2 at hm
        try dsimp only at hm
        refine AW.seq ?_
        refine AW.seqR ?_
        refine AL.s rfl (op_moveD (.e rfl)) ?_
        refine AL.s rfl (op_lenM (f := D.i) (.r rfl) sl29) ?_
        refine AL.s rfl (op_gtr (.r rfl) (.r rfl)) ?_
        refine AL.s rfl (op_moveD (.e rfl)) ?_
        refine AL.sT rfl rfl rfl rfl (fun g => op_moveD (.e rfl)) ?_
        refine AL.sT rfl rfl rfl rfl (fun g => op_lenS (.we g rfl rfl) Tryd.underlying9) ?_
        refine AL.sT rfl rfl rfl rfl (fun g => op_lss (.we g rfl rfl) (.r rfl)) ?_
        refine AL.s rfl (op_and (.r rfl) (fun h => (.we h rfl rfl)) rfl) ?_
        refine AL.nil ?_
        refine AW.cond (b := _) rfl (fun hc4 => ?_) (fun hc4 => ?_)
        · replace hm := iteT hc4 hm
          refine AW.skip ?_
          refine nq ?_
          refine AW.block ?_
          refine AW.region ?_
          refine AL.s rfl (op_moveD (.e rfl)) ?_
          obtain ⟨v9, hv9, hm⟩ := bindE hm
          refine AL.s rfl (op_addSM (.r rfl) (.r rfl) hv9) ?_
          refine AL.s rfl (op_assignD (.e rfl)) ?_
          refine AL.nil ?_
          refine bq_n ?_
          obtain rfl := Option.some.inj hm
          exact nq ⟨_, hI2, ⟨[], rfl, rfl, rfl, ⟨(.d rfl), (.d rfl), (.d rfl), trivial⟩, trivial, .nil⟩⟩
        · replace hm := iteF hc4 hm
          refine AW.exit ?_
          refine tq_exit ?_
          refine tq_exit ?_
          obtain rfl := Option.some.inj hm
          obtain rfl := Option.some.inj hI2
          replace hm := hk2
          try dsimp only at hm
          refine bq_hit ?_
          refine nq ?_
          refine AW.region ?_
          refine AL.s rfl (op_moveD (.e rfl)) ?_
          refine AL.s rfl (op_moveD (.e rfl)) ?_
          obtain ⟨v10, hv10, hm⟩ := bindE hm
          refine AL.s rfl (op_addSM (.r rfl) (.r rfl) hv10) ?_
          refine AL.s rfl (op_moveD (.e rfl)) ?_
          refine AL.s rfl (op_assignD (.e rfl)) ?_
          refine AL.s rfl (op_assignD (.e rfl)) ?_
          refine AL.nil ?_
          refine bq_n ?_
          obtain rfl := Option.some.inj hm
          exact nq ⟨_, hI1, ⟨[], rfl, rfl, rfl, ⟨(.d rfl), (.d rfl), trivial⟩, trivial, .nil⟩⟩
      · replace hm := iteF hc3 hm
        refine AW.exit ?_
        refine tq_exit ?_
        refine tq_exit ?_
        obtain rfl := Option.some.inj hm
        obtain rfl := Option.some.inj hI1
        replace hm := hk1
        try dsimp only at hm
        refine bq_hit ?_
        refine nq ?_
        refine AW.seqR ?_
        refine AL.s rfl (op_moveD (.e rfl)) ?_
        refine AL.s rfl (op_assignD (.e rfl)) ?_
        refine AL.s rfl (op_assignD (.e rfl)) ?_
        refine AL.nil ?_
        refine AW.ret ?_
        obtain rfl := Option.some.inj hm
        exact EndQ.d (.tmp (.e rfl) (.tmp (.e rfl) .nil)) rfl rfl

end Go.Proofs.YtagdgndoabomiaaDoor.Ab
