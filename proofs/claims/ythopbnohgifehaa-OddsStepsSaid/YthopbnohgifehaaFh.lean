/- The functions do what they are in plain Lean. Conditions: none. -/
import Derived.Test.YthopbnohgifehaaTy
import Derived.Test.YthopbnohgifehaaMi
import Derived.Test.YthopbnohgifehaaFg
set_option maxRecDepth 100000
namespace Go.Proofs.Ythopbnohgifehaa.Ab
open Go
attribute [local irreducible] AL AD AW

set_option maxHeartbeats 20000000 in
theorem m_law28_awake_ok {n : Nat} {r : Bool} (hm : m_law28_awake n  = some r) : Fn Try.prog 10 [] (.bool r) := by
  unfold m_law28_awake at hm
  refine Fn.of_AW (fnn := Try.f10) Try.func10 rfl (Nat.le_of_ble_eq_true rfl) (fun g0 w0 hw0 => ?_)
  refine AW.reset 0 [] [] (WOK.g0 hw0 (by simp)) ⟨[], rfl, rfl, rfl, trivial, trivial, .nil⟩ ?_
  refine AW.seqR ?_
  refine AL.s rfl (op_assignD (.e rfl)) ?_
  refine AL.nil ?_
  refine AW.seqR ?_
  refine AL.s rfl (op_build bd49 (.cons (.e rfl) rfl rfl rfl rfl (Nat.le_of_ble_eq_true rfl) (.cons (.e rfl) rfl rfl rfl rfl (Nat.le_of_ble_eq_true rfl) .nil))) ?_
  refine AL.s rfl (op_build bd49 (.cons (.e rfl) rfl rfl rfl rfl (Nat.le_of_ble_eq_true rfl) (.cons (.e rfl) rfl rfl rfl rfl (Nat.le_of_ble_eq_true rfl) .nil))) ?_
  refine AL.s rfl (op_buildSlice (ds := ([(⟨(3 : Int), (2 : Int)⟩ : SRatio), (⟨(4 : Int), (6 : Int)⟩ : SRatio)] : List SRatio).map SRatio.e) sl30 (.cons (.r rfl) rfl (enSRatio.one _) (.cons (.r rfl) rfl (enSRatio.one _) .nil)) rfl (by decide)) ?_
  obtain ⟨v1, hv1, hm⟩ := bindE hm
  refine AL.s rfl (op_fn Try.call12 (.e rfl) (.cons (.r rfl) .nil) (m_odds_Product_ok hv1)) ?_
  refine AL.s rfl (op_moveD (.e rfl)) ?_
  refine AL.s rfl (op_extractD (.e rfl) rfl) ?_
  refine AL.s rfl (op_extractD (.e rfl) rfl) ?_
  refine AL.s rfl (op_extractD (.e rfl) rfl) ?_
  refine AL.s rfl (op_assignD (.e rfl)) ?_
  refine AL.s rfl (op_assignD (.e rfl)) ?_
  refine AL.s rfl (op_assignD (.e rfl)) ?_
  refine AL.nil ?_
  refine AW.seqR ?_
  refine AL.s rfl (op_build bd49 (.cons (.e rfl) rfl rfl rfl rfl (Nat.le_of_ble_eq_true rfl) (.cons (.e rfl) rfl rfl rfl rfl (Nat.le_of_ble_eq_true rfl) .nil))) ?_
  refine AL.s rfl (op_buildSlice (ds := ([(⟨(3 : Int), (1 : Int)⟩ : SRatio)] : List SRatio).map SRatio.e) sl30 (.cons (.r rfl) rfl (enSRatio.one _) .nil) rfl (by decide)) ?_
  obtain ⟨v2, hv2, hm⟩ := bindE hm
  refine AL.s rfl (op_fn Try.call14 (.e rfl) (.cons (.r rfl) .nil) (m_odds_Weight_ok hv2)) ?_
  refine AL.s rfl (op_moveD (.e rfl)) ?_
  refine AL.s rfl (op_extractD (.e rfl) rfl) ?_
  refine AL.s rfl (op_extractD (.e rfl) rfl) ?_
  refine AL.s rfl (op_assignD (.e rfl)) ?_
  refine AL.s rfl (op_assignD (.e rfl)) ?_
  refine AL.nil ?_
  refine AW.seqR ?_
  refine AL.s rfl (op_build bd49 (.cons (.e rfl) rfl rfl rfl rfl (Nat.le_of_ble_eq_true rfl) (.cons (.e rfl) rfl rfl rfl rfl (Nat.le_of_ble_eq_true rfl) .nil))) ?_
  refine AL.s rfl (op_buildSlice (ds := ([(⟨(1 : Int), (3 : Int)⟩ : SRatio)] : List SRatio).map SRatio.e) sl30 (.cons (.r rfl) rfl (enSRatio.one _) .nil) rfl (by decide)) ?_
  obtain ⟨v3, hv3, hm⟩ := bindE hm
  refine AL.s rfl (op_fn Try.call14 (.e rfl) (.cons (.r rfl) .nil) (m_odds_Weight_ok hv3)) ?_
  refine AL.s rfl (op_moveD (.e rfl)) ?_
  refine AL.s rfl (op_extractD (.e rfl) rfl) ?_
  refine AL.s rfl (op_extractD (.e rfl) rfl) ?_
  refine AL.s rfl (op_assignD (.e rfl)) ?_
  refine AL.s rfl (op_assignD (.e rfl)) ?_
  refine AL.nil ?_
  refine AW.seqR ?_
  refine AL.s rfl (op_moveD (.e rfl)) ?_
  refine AL.s rfl (op_eql (.r rfl) (.r rfl)) ?_
  refine AL.s rfl (op_moveD (.e rfl)) ?_
  refine AL.sT rfl rfl rfl rfl (fun g => op_moveD (.e rfl)) ?_
  refine AL.sT rfl rfl rfl rfl (fun g => op_eql (.we g rfl rfl) (.r rfl)) ?_
  refine AL.s rfl (op_and (.r rfl) (fun h => (.we h rfl rfl)) rfl) ?_
  refine AL.s rfl (op_moveD (.e rfl)) ?_
  refine AL.sT rfl rfl rfl rfl (fun g => op_moveD (.e rfl)) ?_
  refine AL.sT rfl rfl rfl rfl (fun g => op_eql (.we g rfl rfl) (.r rfl)) ?_
  refine AL.s rfl (op_and (.r rfl) (fun h => (.we h rfl rfl)) rfl) ?_
  refine AL.s rfl (op_moveD (.e rfl)) ?_
  refine AL.sT rfl rfl rfl rfl (fun g => op_moveD (.e rfl)) ?_
  refine AL.sT rfl rfl rfl rfl (fun g => op_buildSlice (ds := ([(1 : Int)] : List Int).map D.i) sl25 (.cons (.r rfl) rfl (En.i.one _) .nil) rfl (by decide)) ?_
  obtain ⟨v4, hv4, hm⟩ := bindE hm
  refine AL.sT rfl rfl rfl rfl (fun g => op_fn Try.call20 (.e rfl) (.cons (.we g rfl rfl) (.cons (.we g rfl rfl) .nil)) (m_ref03_Same_ok (iteT g hv4))) ?_
  refine AL.s rfl (op_and (.r rfl) (fun h => (.we h rfl rfl)) rfl) ?_
  refine AL.s rfl (op_moveD (.e rfl)) ?_
  refine AL.sT rfl rfl rfl rfl (fun g => op_moveD (.e rfl)) ?_
  refine AL.sT rfl rfl rfl rfl (fun g => op_buildSlice (ds := ([(1 : Int)] : List Int).map D.i) sl25 (.cons (.r rfl) rfl (En.i.one _) .nil) rfl (by decide)) ?_
  obtain ⟨v5, hv5, hm⟩ := bindE hm
  refine AL.sT rfl rfl rfl rfl (fun g => op_fn Try.call20 (.e rfl) (.cons (.we g rfl rfl) (.cons (.we g rfl rfl) .nil)) (m_ref03_Same_ok (iteT g hv5))) ?_
  refine AL.s rfl (op_and (.r rfl) (fun h => (.we h rfl rfl)) rfl) ?_
  refine AL.s rfl (op_moveD (.e rfl)) ?_
  refine AL.sT rfl rfl rfl rfl (fun g => op_moveD (.e rfl)) ?_
  refine AL.sT rfl rfl rfl rfl (fun g => op_eql (.we g rfl rfl) (.r rfl)) ?_
  refine AL.s rfl (op_and (.r rfl) (fun h => (.we h rfl rfl)) rfl) ?_
  refine AL.s rfl (op_moveD (.e rfl)) ?_
  refine AL.sT rfl rfl rfl rfl (fun g => op_moveD (.e rfl)) ?_
  refine AL.sT rfl rfl rfl rfl (fun g => op_eql (.we g rfl rfl) (.r rfl)) ?_
  refine AL.s rfl (op_and (.r rfl) (fun h => (.we h rfl rfl)) rfl) ?_
  refine AL.s rfl (op_moveD (.e rfl)) ?_
  obtain ⟨v6, hv6, hm⟩ := bindE hm
  refine AL.sT rfl rfl rfl rfl (fun g => op_fn Try.call21 (.e rfl) (.cons (.r rfl) .nil) (m_odds_Valid_ok (iteT g hv6))) ?_
  refine AL.s rfl (op_and (.r rfl) (fun h => (.we h rfl rfl)) rfl) ?_
  refine AL.s rfl (op_assignD (.e rfl)) ?_
  refine AL.nil ?_
  refine AW.ret ?_
  obtain rfl := Option.some.inj hm
  exact EndQ.d (.tmp (.e rfl) .nil) rfl rfl

set_option maxHeartbeats 20000000 in
theorem m_law28_Own_ok {n : Nat} {a1 : (List SRatio)} {r : (List SRatio)} (hm : m_law28_Own n a1 = some r) : Fn Try.prog 13 [(.sl (a1.map SRatio.e))] (.sl (r.map SRatio.e)) := by
  unfold m_law28_Own at hm
  refine Fn.of_AW (fnn := Try.f13) Try.func13 rfl (Nat.le_of_ble_eq_true rfl) (fun g0 w0 hw0 => ?_)
  refine AW.reset 0 [(0, .d (.sl (a1.map SRatio.e)))] [] (WOK.g0 hw0 (by simp)) ⟨[], rfl, rfl, rfl, ⟨(.d rfl), trivial⟩, trivial, .nil⟩ ?_
  refine AW.seqR ?_
  refine AL.s rfl (op_assignN (.e rfl)) ?_
  refine AL.nil ?_
  refine AW.seqR ?_
  refine AL.s rfl (op_assignN (.e rfl)) ?_
  refine AL.nil ?_
  refine AW.seq ?_
  refine AW.seqR ?_
  refine AL.s rfl (op_moveD (.e rfl)) ?_
  refine AL.s rfl (op_lenM (f := SRatio.e) (.r rfl) sl22) ?_
  refine AL.s rfl (op_moveD (.e rfl)) ?_
  refine AL.nil ?_
  refine AW.block ?_
  refine AW.lstize (n := 0) 3 49 2 rfl rfl ?_
  obtain ⟨t_1, hI1, hk1⟩ := bindE hm
  refine AW.loopS (σ := (Int × (List SRatio))) (τ := (List SRatio)) 0 (fun x => [(3, .hs 0 0 x.2.length 2), (6, .d (.sl (a1.map SRatio.e))), (7, .d (.int .i64 (a1.length : Int))), (8, .d (.int .i64 x.1))]) (fun x => [.lst (x.2.map SRatio.e) 49 2]) hI1 (WOK.g0 hw0 (by simp)) ⟨[0], rfl, rfl, rfl, ⟨(.hs rfl rfl), (.d rfl), (.d rfl), (.d rfl), trivial⟩, trivial, (.lst rfl .nil)⟩ ?_
  rintro n1 ⟨s2, s3⟩ hI1
  obtain ⟨y_1, hm, hI1⟩ := iterS hI1
  replace hm : m_law28_Own_L1 n _ s2 s3 = some y_1 := hm
  unfold m_law28_Own_L1 at hm
  try dsimp only at hm
  refine AW.seqR ?_
  refine AL.s rfl (op_lss (.r rfl) (.r rfl)) ?_
  refine AL.nil ?_
  refine AW.seq ?_
  refine AW.cond (b := _) rfl (fun hc1 => ?_) (fun hc1 => ?_)
  · replace hm := iteT hc1 hm
    refine AW.skip ?_
    refine nq ?_
    refine AW.seq ?_
    refine AW.block ?_
    refine AW.seqR ?_
    obtain ⟨v4, hv4, hm⟩ := bindE hm
    refine AL.s rfl (op_indexAddrM (f := SRatio.e) (.r rfl) (.r rfl) hv4 enSRatio sl22) ?_
    refine AL.s rfl (op_loadA (.e rfl) rfl ag54) ?_
    refine AL.s rfl (op_alloc (n := 1) zr54 rfl) ?_
    refine AL.s rfl (op_store (.e rfl) (.e rfl) rfl rfl rfl ⟨_, rfl, rfl⟩ rfl (Nat.le_of_ble_eq_true rfl)) ?_
    refine AL.nil ?_
    refine AW.region ?_
    refine AL.s rfl (op_moveH (.e rfl)) ?_
    refine AL.s rfl (op_load_ptrA (.e rfl) rfl rfl rfl ag54) ?_
    refine AL.s rfl (op_buildSlice (ds := ([(⟨v4.fNum, v4.fDen⟩ : SRatio)] : List SRatio).map SRatio.e) sl30 (.cons (.r rfl) rfl (enSRatio.one _) .nil) rfl (by decide)) ?_
    obtain ⟨v5, hv5, hm⟩ := bindE hm
    refine AL.s rfl (op_appendHM (n := 2) (f := SRatio.e) (l := s3) (l' := ([(⟨v4.fNum, v4.fDen⟩ : SRatio)] : List SRatio)) sl30 (.e rfl) (.r rfl) rfl rfl rfl enSRatio hv5) ?_
    refine AL.s rfl (op_assignH (.e rfl)) ?_
    refine AL.nil ?_
    refine bq_n ?_
    refine nq ?_
    refine AW.region ?_
    refine AL.s rfl (op_addw (.r rfl) (.r rfl)) ?_
    refine AL.s rfl (op_moveD (.e rfl)) ?_
    refine AL.nil ?_
    obtain rfl := Option.some.inj hm
    exact nq ⟨_, hI1, ⟨[2], rfl, rfl, rfl, ⟨(.hs rfl rfl), (.d rfl), (.d rfl), (.d rfl), trivial⟩, trivial, (.lst rfl .nil)⟩⟩
  · replace hm := iteF hc1 hm
    refine AW.exit ?_
    refine tq_exit ?_
    refine tq_exit ?_
    obtain rfl := Option.some.inj hm
    obtain rfl := Option.some.inj hI1
    replace hm := hk1
    try dsimp only at hm
    refine bq_hit ?_
    refine nq ?_
    refine AW.seqR ?_
    refine AL.s rfl (op_moveH (.e rfl)) ?_
    refine AL.s rfl (op_assignH (.e rfl)) ?_
    refine AL.nil ?_
    refine AW.freeze (f := SRatio.e) (l := s3) 0 [2, 3, 17] rfl rfl enSRatio ⟨rfl, rfl, rfl, trivial⟩ ?_
    refine AW.ret ?_
    obtain rfl := Option.some.inj hm
    exact EndQ.d (.tmp (.e rfl) .nil) rfl rfl

set_option maxHeartbeats 20000000 in
theorem m_law28_OddsMeans_ok {n : Nat} {a1 : (List SRatio)} {r : Bool} (hm : m_law28_OddsMeans n a1 = some r) : Fn Try.prog 3 [(.sl (a1.map SRatio.e))] (.bool r) := by
  unfold m_law28_OddsMeans at hm
  refine Fn.of_AW (fnn := Try.f3) Try.func3 rfl (Nat.le_of_ble_eq_true rfl) (fun g0 w0 hw0 => ?_)
  refine AW.reset 0 [(0, .d (.sl (a1.map SRatio.e)))] [] (WOK.g0 hw0 (by simp)) ⟨[], rfl, rfl, rfl, ⟨(.d rfl), trivial⟩, trivial, .nil⟩ ?_
  refine AW.seqR ?_
  refine AL.s rfl (op_assignD (.e rfl)) ?_
  refine AL.nil ?_
  refine AW.seq ?_
  refine AW.seqR ?_
  obtain ⟨v2, hv2, hm⟩ := bindE hm
  refine AL.s rfl (op_fn Try.call10 (.e rfl) .nil (m_law28_awake_ok hv2)) ?_
  refine AL.s rfl (op_not (.r rfl)) ?_
  refine AL.s rfl (op_moveD (.e rfl)) ?_
  refine AL.sF rfl rfl rfl rfl (fun g => op_moveD (.e rfl)) ?_
  obtain ⟨v3, hv3, hm⟩ := bindE hm
  refine AL.sF rfl rfl rfl rfl (fun g => op_fn Try.call11 (.e rfl) (.cons (.we (nt g) rfl rfl) .nil) (m_ref28_Valid_ok (iteT (nt g) hv3))) ?_
  refine AL.sF rfl rfl rfl rfl (fun g => op_not (.we (nt g) rfl rfl)) ?_
  refine AL.s rfl (op_or (.r rfl) rfl (fun h => (.we (nt h) rfl rfl))) ?_
  refine AL.nil ?_
  refine AW.cond (b := _) rfl (fun hc1 => ?_) (fun hc1 => ?_)
  · replace hm := iteT hc1 hm
    refine AW.seqR ?_
    obtain ⟨v4, hv4, hm⟩ := bindE hm
    refine AL.s rfl (op_fn Try.call10 (.e rfl) .nil (m_law28_awake_ok hv4)) ?_
    refine AL.s rfl (op_assignD (.e rfl)) ?_
    refine AL.nil ?_
    refine AW.ret ?_
    refine tq_ret ?_
    obtain rfl := Option.some.inj hm
    exact EndQ.d (.tmp (.e rfl) .nil) rfl rfl
  · replace hm := iteF hc1 hm
    refine AW.skip ?_
    refine nq ?_
    refine AW.seqR ?_
    refine AL.s rfl (op_moveD (.e rfl)) ?_
    obtain ⟨v5, hv5, hm⟩ := bindE hm
    refine AL.s rfl (op_fn Try.call13 (.e rfl) (.cons (.r rfl) .nil) (m_law28_Own_ok hv5)) ?_
    obtain ⟨v6, hv6, hm⟩ := bindE hm
    refine AL.s rfl (op_fn Try.call12 (.e rfl) (.cons (.r rfl) .nil) (m_odds_Product_ok hv6)) ?_
    refine AL.s rfl (op_moveD (.e rfl)) ?_
    refine AL.s rfl (op_extractD (.e rfl) rfl) ?_
    refine AL.s rfl (op_extractD (.e rfl) rfl) ?_
    refine AL.s rfl (op_extractD (.e rfl) rfl) ?_
    refine AL.s rfl (op_assignD (.e rfl)) ?_
    refine AL.s rfl (op_assignD (.e rfl)) ?_
    refine AL.s rfl (op_assignD (.e rfl)) ?_
    refine AL.nil ?_
    refine AW.seqR ?_
    refine AL.s rfl (op_moveD (.e rfl)) ?_
    obtain ⟨v7, hv7, hm⟩ := bindE hm
    refine AL.s rfl (op_fn Try.call13 (.e rfl) (.cons (.r rfl) .nil) (m_law28_Own_ok hv7)) ?_
    obtain ⟨v8, hv8, hm⟩ := bindE hm
    refine AL.s rfl (op_fn Try.call14 (.e rfl) (.cons (.r rfl) .nil) (m_odds_Weight_ok hv8)) ?_
    refine AL.s rfl (op_moveD (.e rfl)) ?_
    refine AL.s rfl (op_extractD (.e rfl) rfl) ?_
    refine AL.s rfl (op_extractD (.e rfl) rfl) ?_
    refine AL.s rfl (op_assignD (.e rfl)) ?_
    refine AL.s rfl (op_assignD (.e rfl)) ?_
    refine AL.nil ?_
    refine AW.seqR ?_
    refine AL.s rfl (op_moveD (.e rfl)) ?_
    obtain ⟨v9, hv9, hm⟩ := bindE hm
    refine AL.s rfl (op_fn Try.call15 (.e rfl) (.cons (.r rfl) (.cons (.r rfl) .nil)) (m_nat_Power_ok hv9)) ?_
    refine AL.s rfl (op_moveD (.e rfl)) ?_
    refine AL.s rfl (op_extractD (.e rfl) rfl) ?_
    refine AL.s rfl (op_extractD (.e rfl) rfl) ?_
    refine AL.s rfl (op_assignD (.e rfl)) ?_
    refine AL.s rfl (op_assignD (.e rfl)) ?_
    refine AL.nil ?_
    refine AW.seqR ?_
    refine AL.s rfl (op_moveD (.e rfl)) ?_
    obtain ⟨v10, hv10, hm⟩ := bindE hm
    refine AL.s rfl (op_fn Try.call15 (.e rfl) (.cons (.r rfl) (.cons (.r rfl) .nil)) (m_nat_Power_ok hv10)) ?_
    refine AL.s rfl (op_moveD (.e rfl)) ?_
    refine AL.s rfl (op_extractD (.e rfl) rfl) ?_
    refine AL.s rfl (op_extractD (.e rfl) rfl) ?_
    refine AL.s rfl (op_assignD (.e rfl)) ?_
    refine AL.s rfl (op_assignD (.e rfl)) ?_
    refine AL.nil ?_
    refine AW.seq ?_
    refine AW.reset 0 [(5, .d (.int .i64 v6.2.2)), (6, .d (.int .i64 v8.1)), (7, .d (.int .i64 v8.2)), (8, .d (.sl (v9.1.map D.i))), (9, .d (.int .i64 v9.2)), (10, .d (.sl (v10.1.map D.i))), (11, .d (.int .i64 v10.2))] [] (WOK.g0 hw0 (by simp)) ⟨[], rfl, rfl, rfl, ⟨(.d rfl), (.d rfl), (.d rfl), (.d rfl), (.d rfl), (.d rfl), (.d rfl), trivial⟩, trivial, .nil⟩ ?_
    refine AW.seqR ?_
    refine AL.s rfl (op_moveD (.e rfl)) ?_
    refine AL.s rfl (op_neq (.r rfl) (.r rfl)) ?_
    refine AL.s rfl (op_moveD (.e rfl)) ?_
    refine AL.sF rfl rfl rfl rfl (fun g => op_moveD (.e rfl)) ?_
    refine AL.sF rfl rfl rfl rfl (fun g => op_neq (.we (nt g) rfl rfl) (.r rfl)) ?_
    refine AL.s rfl (op_or (.r rfl) rfl (fun h => (.we (nt h) rfl rfl))) ?_
    refine AL.s rfl (op_moveD (.e rfl)) ?_
    refine AL.sF rfl rfl rfl rfl (fun g => op_moveD (.e rfl)) ?_
    refine AL.sF rfl rfl rfl rfl (fun g => op_neq (.we (nt g) rfl rfl) (.r rfl)) ?_
    refine AL.s rfl (op_or (.r rfl) rfl (fun h => (.we (nt h) rfl rfl))) ?_
    refine AL.s rfl (op_moveD (.e rfl)) ?_
    refine AL.sF rfl rfl rfl rfl (fun g => op_moveD (.e rfl)) ?_
    refine AL.sF rfl rfl rfl rfl (fun g => op_neq (.we (nt g) rfl rfl) (.r rfl)) ?_
    refine AL.s rfl (op_or (.r rfl) rfl (fun h => (.we (nt h) rfl rfl))) ?_
    refine AL.s rfl (op_moveD (.e rfl)) ?_
    refine AL.sF rfl rfl rfl rfl (fun g => op_moveD (.e rfl)) ?_
    refine AL.sF rfl rfl rfl rfl (fun g => op_lss (.we (nt g) rfl rfl) (.r rfl)) ?_
    refine AL.s rfl (op_or (.r rfl) rfl (fun h => (.we (nt h) rfl rfl))) ?_
    refine AL.s rfl (op_moveD (.e rfl)) ?_
    refine AL.sF rfl rfl rfl rfl (fun g => op_moveD (.e rfl)) ?_
    refine AL.sF rfl rfl rfl rfl (fun g => op_gtr (.we (nt g) rfl rfl) (.r rfl)) ?_
    refine AL.s rfl (op_or (.r rfl) rfl (fun h => (.we (nt h) rfl rfl))) ?_
    refine AL.nil ?_
    refine AW.cond (b := _) rfl (fun hc2 => ?_) (fun hc2 => ?_)
    · replace hm := iteT hc2 hm
      refine AW.seqR ?_
      refine AL.s rfl (op_assignD (.e rfl)) ?_
      refine AL.nil ?_
      refine AW.ret ?_
      refine tq_ret ?_
      obtain rfl := Option.some.inj hm
      exact EndQ.d (.tmp (.e rfl) .nil) rfl rfl
    · replace hm := iteF hc2 hm
      refine AW.skip ?_
      refine nq ?_
      refine AW.seqR ?_
      refine AL.s rfl (op_moveD (.e rfl)) ?_
      refine AL.s rfl (op_moveD (.e rfl)) ?_
      refine AL.s rfl (op_assignD (.e rfl)) ?_
      refine AL.s rfl (op_assignD (.e rfl)) ?_
      refine AL.nil ?_
      obtain ⟨t_j1, hm, hkj1⟩ := bindE hm
      refine AW.cutS (α := (Int × (List Int) × (List Int))) 0 (fun x => x = t_j1) (fun x => [(5, .d (.int .i64 x.1)), (12, .d (.sl (x.2.1.map D.i))), (13, .d (.sl (x.2.2.map D.i)))]) (fun x => []) (WOK.g0 hw0 (by simp)) ?_ ?_
      · skip
        refine AW.seqR ?_
        refine AL.s rfl (op_moveD (.e rfl)) ?_
        refine AL.s rfl (op_geq (.r rfl) (.r rfl)) ?_
        refine AL.nil ?_
        refine AW.cond (b := _) rfl (fun hc3 => ?_) (fun hc3 => ?_)
        · replace hm := iteT hc3 hm
          refine AW.region ?_
          refine AL.s rfl (op_moveD (.e rfl)) ?_
          refine AL.s rfl (op_moveD (.e rfl)) ?_
          obtain ⟨v11, hv11, hm⟩ := bindE hm
          refine AL.s rfl (op_fn Try.call16 (.e rfl) (.cons (.r rfl) (.cons (.r rfl) .nil)) (m_nat_Shift_ok hv11)) ?_
          refine AL.s rfl (op_moveD (.e rfl)) ?_
          refine AL.s rfl (op_extractD (.e rfl) rfl) ?_
          refine AL.s rfl (op_extractD (.e rfl) rfl) ?_
          refine AL.s rfl (op_assignD (.e rfl)) ?_
          refine AL.s rfl (op_assignD (.e rfl)) ?_
          refine AL.nil ?_
          obtain rfl := Option.some.inj hm
          exact nq ⟨_, rfl, ⟨[], rfl, rfl, rfl, ⟨(.d rfl), (.d rfl), (.d rfl), trivial⟩, trivial, .nil⟩⟩
        · replace hm := iteF hc3 hm
          refine AW.region ?_
          refine AL.s rfl (op_moveD (.e rfl)) ?_
          refine AL.s rfl (op_moveD (.e rfl)) ?_
          refine AL.s rfl (op_negw (.r rfl)) ?_
          obtain ⟨v12, hv12, hm⟩ := bindE hm
          refine AL.s rfl (op_fn Try.call16 (.e rfl) (.cons (.r rfl) (.cons (.r rfl) .nil)) (m_nat_Shift_ok hv12)) ?_
          refine AL.s rfl (op_moveD (.e rfl)) ?_
          refine AL.s rfl (op_extractD (.e rfl) rfl) ?_
          refine AL.s rfl (op_extractD (.e rfl) rfl) ?_
          refine AL.s rfl (op_assignD (.e rfl)) ?_
          refine AL.s rfl (op_assignD (.e rfl)) ?_
          refine AL.nil ?_
          obtain rfl := Option.some.inj hm
          exact nq ⟨_, rfl, ⟨[], rfl, rfl, rfl, ⟨(.d rfl), (.d rfl), (.d rfl), trivial⟩, trivial, .nil⟩⟩
      · rintro ⟨s13, s14, s15⟩ rfl
        replace hm := hkj1
        try dsimp only at hm
        refine AW.seqR ?_
        refine AL.s rfl (op_moveD (.e rfl)) ?_
        obtain ⟨v16, hv16, hm⟩ := bindE hm
        refine AL.s rfl (op_fn Try.call16 (.e rfl) (.cons (.r rfl) (.cons (.r rfl) .nil)) (m_nat_Shift_ok hv16)) ?_
        refine AL.s rfl (op_moveD (.e rfl)) ?_
        refine AL.s rfl (op_extractD (.e rfl) rfl) ?_
        refine AL.s rfl (op_extractD (.e rfl) rfl) ?_
        refine AL.s rfl (op_assignD (.e rfl)) ?_
        refine AL.s rfl (op_assignD (.e rfl)) ?_
        refine AL.nil ?_
        refine AW.seqR ?_
        refine AL.s rfl (op_moveD (.e rfl)) ?_
        refine AL.s rfl (op_eql (.r rfl) (.r rfl)) ?_
        refine AL.s rfl (op_moveD (.e rfl)) ?_
        refine AL.sT rfl rfl rfl rfl (fun g => op_moveD (.e rfl)) ?_
        refine AL.sT rfl rfl rfl rfl (fun g => op_eql (.we g rfl rfl) (.r rfl)) ?_
        refine AL.s rfl (op_and (.r rfl) (fun h => (.we h rfl rfl)) rfl) ?_
        refine AL.s rfl (op_moveD (.e rfl)) ?_
        refine AL.sT rfl rfl rfl rfl (fun g => op_moveD (.e rfl)) ?_
        refine AL.sT rfl rfl rfl rfl (fun g => op_moveD (.e rfl)) ?_
        obtain ⟨v17, hv17, hm⟩ := bindE hm
        refine AL.sT rfl rfl rfl rfl (fun g => op_fn Try.call17 (.e rfl) (.cons (.we g rfl rfl) (.cons (.we g rfl rfl) .nil)) (m_nat_Compare_ok (iteT g hv17))) ?_
        refine AL.sT rfl rfl rfl rfl (fun g => op_leq (.we g rfl rfl) (.r rfl)) ?_
        refine AL.s rfl (op_and (.r rfl) (fun h => (.we h rfl rfl)) rfl) ?_
        refine AL.s rfl (op_moveD (.e rfl)) ?_
        refine AL.sT rfl rfl rfl rfl (fun g => op_moveD (.e rfl)) ?_
        refine AL.sT rfl rfl rfl rfl (fun g => op_moveD (.e rfl)) ?_
        obtain ⟨v18, hv18, hm⟩ := bindE hm
        refine AL.sT rfl rfl rfl rfl (fun g => op_fn Try.call17 (.e rfl) (.cons (.we g rfl rfl) (.cons (.we g rfl rfl) .nil)) (m_nat_Compare_ok (iteT g hv18))) ?_
        refine AL.sT rfl rfl rfl rfl (fun g => op_lss (.we g rfl rfl) (.r rfl)) ?_
        refine AL.s rfl (op_and (.r rfl) (fun h => (.we h rfl rfl)) rfl) ?_
        refine AL.s rfl (op_assignD (.e rfl)) ?_
        refine AL.nil ?_
        refine AW.ret ?_
        obtain rfl := Option.some.inj hm
        exact EndQ.d (.tmp (.e rfl) .nil) rfl rfl

set_option maxHeartbeats 20000000 in
theorem m_law28_Own_f2_ok {n : Nat} {a1 : (List SRatio)} {r : (List SRatio)} (hm : m_law28_Own n a1 = some r) : ACall Try.prog 13 [.d (.sl (a1.map SRatio.e))] [] fun r' H' => r' = resOf [.hs 0 0 r.length 2] ∧ H' = [.lst (r.map SRatio.e) 49 2] := by
  unfold m_law28_Own at hm
  refine ACall.of_AWG (fnn := Try.f13) Try.func13 rfl (Nat.le_of_ble_eq_true rfl) (fun g0 w0 hw0 => ?_)
  refine AW.reset 0 [(0, .d (.sl (a1.map SRatio.e)))] [] (WOK.g0 hw0 (by simp)) ⟨[], rfl, rfl, rfl, ⟨(.d rfl), trivial⟩, trivial, .nil⟩ ?_
  refine AW.seqR ?_
  refine AL.s rfl (op_assignN (.e rfl)) ?_
  refine AL.nil ?_
  refine AW.seqR ?_
  refine AL.s rfl (op_assignN (.e rfl)) ?_
  refine AL.nil ?_
  refine AW.seq ?_
  refine AW.seqR ?_
  refine AL.s rfl (op_moveD (.e rfl)) ?_
  refine AL.s rfl (op_lenM (f := SRatio.e) (.r rfl) sl22) ?_
  refine AL.s rfl (op_moveD (.e rfl)) ?_
  refine AL.nil ?_
  refine AW.block ?_
  refine AW.lstize (n := 0) 3 49 2 rfl rfl ?_
  obtain ⟨t_1, hI1, hk1⟩ := bindE hm
  refine AW.loopS (σ := (Int × (List SRatio))) (τ := (List SRatio)) 0 (fun x => [(3, .hs 0 0 x.2.length 2), (6, .d (.sl (a1.map SRatio.e))), (7, .d (.int .i64 (a1.length : Int))), (8, .d (.int .i64 x.1))]) (fun x => [.lst (x.2.map SRatio.e) 49 2]) hI1 (WOK.g0 hw0 (by simp)) ⟨[0], rfl, rfl, rfl, ⟨(.hs rfl rfl), (.d rfl), (.d rfl), (.d rfl), trivial⟩, trivial, (.lst rfl .nil)⟩ ?_
  rintro n1 ⟨s2, s3⟩ hI1
  obtain ⟨y_1, hm, hI1⟩ := iterS hI1
  replace hm : m_law28_Own_L1 n _ s2 s3 = some y_1 := hm
  unfold m_law28_Own_L1 at hm
  try dsimp only at hm
  refine AW.seqR ?_
  refine AL.s rfl (op_lss (.r rfl) (.r rfl)) ?_
  refine AL.nil ?_
  refine AW.seq ?_
  refine AW.cond (b := _) rfl (fun hc1 => ?_) (fun hc1 => ?_)
  · replace hm := iteT hc1 hm
    refine AW.skip ?_
    refine nq ?_
    refine AW.seq ?_
    refine AW.block ?_
    refine AW.seqR ?_
    obtain ⟨v4, hv4, hm⟩ := bindE hm
    refine AL.s rfl (op_indexAddrM (f := SRatio.e) (.r rfl) (.r rfl) hv4 enSRatio sl22) ?_
    refine AL.s rfl (op_loadA (.e rfl) rfl ag54) ?_
    refine AL.s rfl (op_alloc (n := 1) zr54 rfl) ?_
    refine AL.s rfl (op_store (.e rfl) (.e rfl) rfl rfl rfl ⟨_, rfl, rfl⟩ rfl (Nat.le_of_ble_eq_true rfl)) ?_
    refine AL.nil ?_
    refine AW.region ?_
    refine AL.s rfl (op_moveH (.e rfl)) ?_
    refine AL.s rfl (op_load_ptrA (.e rfl) rfl rfl rfl ag54) ?_
    refine AL.s rfl (op_buildSlice (ds := ([(⟨v4.fNum, v4.fDen⟩ : SRatio)] : List SRatio).map SRatio.e) sl30 (.cons (.r rfl) rfl (enSRatio.one _) .nil) rfl (by decide)) ?_
    obtain ⟨v5, hv5, hm⟩ := bindE hm
    refine AL.s rfl (op_appendHM (n := 2) (f := SRatio.e) (l := s3) (l' := ([(⟨v4.fNum, v4.fDen⟩ : SRatio)] : List SRatio)) sl30 (.e rfl) (.r rfl) rfl rfl rfl enSRatio hv5) ?_
    refine AL.s rfl (op_assignH (.e rfl)) ?_
    refine AL.nil ?_
    refine bq_n ?_
    refine nq ?_
    refine AW.region ?_
    refine AL.s rfl (op_addw (.r rfl) (.r rfl)) ?_
    refine AL.s rfl (op_moveD (.e rfl)) ?_
    refine AL.nil ?_
    obtain rfl := Option.some.inj hm
    exact nq ⟨_, hI1, ⟨[2], rfl, rfl, rfl, ⟨(.hs rfl rfl), (.d rfl), (.d rfl), (.d rfl), trivial⟩, trivial, (.lst rfl .nil)⟩⟩
  · replace hm := iteF hc1 hm
    refine AW.exit ?_
    refine tq_exit ?_
    refine tq_exit ?_
    obtain rfl := Option.some.inj hm
    obtain rfl := Option.some.inj hI1
    replace hm := hk1
    try dsimp only at hm
    refine bq_hit ?_
    refine nq ?_
    refine AW.seqR ?_
    refine AL.s rfl (op_moveH (.e rfl)) ?_
    refine AL.s rfl (op_assignH (.e rfl)) ?_
    refine AL.nil ?_
    refine AW.ret ?_
    obtain rfl := Option.some.inj hm
    exact ⟨_, [0], (.tmp (.e rfl) .nil), rfl, rfl, (.cons (.hs rfl rfl) .nil), (.lst rfl .nil)⟩

set_option maxHeartbeats 20000000 in
theorem m_law28_OddsSums_ok {n : Nat} {a1 : (List SRatio)} {a2 : (List SRatio)} {r : Bool} (hm : m_law28_OddsSums n a1 a2 = some r) : Fn Try.prog 4 [(.sl (a1.map SRatio.e)), (.sl (a2.map SRatio.e))] (.bool r) := by
  unfold m_law28_OddsSums at hm
  refine Fn.of_AW (fnn := Try.f4) Try.func4 rfl (Nat.le_of_ble_eq_true rfl) (fun g0 w0 hw0 => ?_)
  refine AW.reset 0 [(0, .d (.sl (a1.map SRatio.e))), (1, .d (.sl (a2.map SRatio.e)))] [] (WOK.g0 hw0 (by simp)) ⟨[], rfl, rfl, rfl, ⟨(.d rfl), (.d rfl), trivial⟩, trivial, .nil⟩ ?_
  refine AW.seqR ?_
  refine AL.s rfl (op_assignD (.e rfl)) ?_
  refine AL.nil ?_
  refine AW.seq ?_
  refine AW.seqR ?_
  obtain ⟨v3, hv3, hm⟩ := bindE hm
  refine AL.s rfl (op_fn Try.call10 (.e rfl) .nil (m_law28_awake_ok hv3)) ?_
  refine AL.s rfl (op_not (.r rfl)) ?_
  refine AL.s rfl (op_moveD (.e rfl)) ?_
  refine AL.sF rfl rfl rfl rfl (fun g => op_moveD (.e rfl)) ?_
  obtain ⟨v4, hv4, hm⟩ := bindE hm
  refine AL.sF rfl rfl rfl rfl (fun g => op_fn Try.call11 (.e rfl) (.cons (.we (nt g) rfl rfl) .nil) (m_ref28_Valid_ok (iteT (nt g) hv4))) ?_
  refine AL.sF rfl rfl rfl rfl (fun g => op_not (.we (nt g) rfl rfl)) ?_
  refine AL.s rfl (op_or (.r rfl) rfl (fun h => (.we (nt h) rfl rfl))) ?_
  refine AL.s rfl (op_moveD (.e rfl)) ?_
  refine AL.sF rfl rfl rfl rfl (fun g => op_moveD (.e rfl)) ?_
  obtain ⟨v5, hv5, hm⟩ := bindE hm
  refine AL.sF rfl rfl rfl rfl (fun g => op_fn Try.call11 (.e rfl) (.cons (.we (nt g) rfl rfl) .nil) (m_ref28_Valid_ok (iteT (nt g) hv5))) ?_
  refine AL.sF rfl rfl rfl rfl (fun g => op_not (.we (nt g) rfl rfl)) ?_
  refine AL.s rfl (op_or (.r rfl) rfl (fun h => (.we (nt h) rfl rfl))) ?_
  refine AL.s rfl (op_moveD (.e rfl)) ?_
  refine AL.sF rfl rfl rfl rfl (fun g => op_moveD (.e rfl)) ?_
  refine AL.sF rfl rfl rfl rfl (fun g => op_lenM (f := SRatio.e) (.we (nt g) rfl rfl) sl22) ?_
  refine AL.sF rfl rfl rfl rfl (fun g => op_moveD (.e rfl)) ?_
  refine AL.sF rfl rfl rfl rfl (fun g => op_lenM (f := SRatio.e) (.we (nt g) rfl rfl) sl22) ?_
  refine AL.sF rfl rfl rfl rfl (fun g => op_addw (.we (nt g) rfl rfl) (.we (nt g) rfl rfl)) ?_
  refine AL.sF rfl rfl rfl rfl (fun g => op_gtr (.we (nt g) rfl rfl) (.r rfl)) ?_
  refine AL.s rfl (op_or (.r rfl) rfl (fun h => (.we (nt h) rfl rfl))) ?_
  refine AL.nil ?_
  refine AW.cond (b := _) rfl (fun hc1 => ?_) (fun hc1 => ?_)
  · replace hm := iteT hc1 hm
    refine AW.seqR ?_
    obtain ⟨v6, hv6, hm⟩ := bindE hm
    refine AL.s rfl (op_fn Try.call10 (.e rfl) .nil (m_law28_awake_ok hv6)) ?_
    refine AL.s rfl (op_assignD (.e rfl)) ?_
    refine AL.nil ?_
    refine AW.ret ?_
    refine tq_ret ?_
    obtain rfl := Option.some.inj hm
    exact EndQ.d (.tmp (.e rfl) .nil) rfl rfl
  · replace hm := iteF hc1 hm
    refine AW.skip ?_
    refine nq ?_
    refine AW.seqR ?_
    refine AL.s rfl (op_moveD (.e rfl)) ?_
    obtain ⟨v7, hv7, hm⟩ := bindE hm
    refine AL.s rfl (op_fn Try.call13 (.e rfl) (.cons (.r rfl) .nil) (m_law28_Own_ok hv7)) ?_
    obtain ⟨v8, hv8, hm⟩ := bindE hm
    refine AL.s rfl (op_fn Try.call14 (.e rfl) (.cons (.r rfl) .nil) (m_odds_Weight_ok hv8)) ?_
    refine AL.s rfl (op_moveD (.e rfl)) ?_
    refine AL.s rfl (op_extractD (.e rfl) rfl) ?_
    refine AL.s rfl (op_extractD (.e rfl) rfl) ?_
    refine AL.s rfl (op_assignD (.e rfl)) ?_
    refine AL.s rfl (op_assignD (.e rfl)) ?_
    refine AL.nil ?_
    refine AW.seqR ?_
    refine AL.s rfl (op_moveD (.e rfl)) ?_
    obtain ⟨v9, hv9, hm⟩ := bindE hm
    refine AL.s rfl (op_fn Try.call13 (.e rfl) (.cons (.r rfl) .nil) (m_law28_Own_ok hv9)) ?_
    obtain ⟨v10, hv10, hm⟩ := bindE hm
    refine AL.s rfl (op_fn Try.call14 (.e rfl) (.cons (.r rfl) .nil) (m_odds_Weight_ok hv10)) ?_
    refine AL.s rfl (op_moveD (.e rfl)) ?_
    refine AL.s rfl (op_extractD (.e rfl) rfl) ?_
    refine AL.s rfl (op_extractD (.e rfl) rfl) ?_
    refine AL.s rfl (op_assignD (.e rfl)) ?_
    refine AL.s rfl (op_assignD (.e rfl)) ?_
    refine AL.nil ?_
    refine AW.seqR ?_
    refine AL.s rfl (op_moveD (.e rfl)) ?_
    obtain ⟨v11, hv11, hm⟩ := bindE hm
    refine AL.s rfl (op_callF (v := .hs 0 0 v11.length 2) (H' := [.lst (v11.map SRatio.e) 49 2]) [] Try.call13 (.e rfl) (.cons (.e rfl) .nil) (m_law28_Own_f2_ok hv11) rfl .nil rfl rfl rfl rfl rfl rfl rfl rfl) ?_
    refine AL.s rfl (op_moveD (.e rfl)) ?_
    obtain ⟨v12, hv12, hm⟩ := bindE hm
    refine AL.s rfl (op_fn Try.call13 (.e rfl) (.cons (.r rfl) .nil) (m_law28_Own_ok hv12)) ?_
    obtain ⟨v13, hv13, hm⟩ := bindE hm
    refine AL.s rfl (op_appendHM (n := 1) (f := SRatio.e) (l := v11) (l' := v12) sl30 (.e rfl) (.r rfl) rfl rfl rfl enSRatio hv13) ?_
    obtain ⟨v14, hv14, hm⟩ := bindE hm
    refine AL.s rfl (op_lend [1] Try.call14 (.e rfl) (.l (f := SRatio.e) (l := v13) (.e rfl) rfl rfl enSRatio rfl .nil) (m_odds_Weight_ok hv14) rfl) ?_
    refine AL.s rfl (op_moveD (.e rfl)) ?_
    refine AL.s rfl (op_extractD (.e rfl) rfl) ?_
    refine AL.s rfl (op_extractD (.e rfl) rfl) ?_
    refine AL.s rfl (op_assignD (.e rfl)) ?_
    refine AL.s rfl (op_assignD (.e rfl)) ?_
    refine AL.nil ?_
    refine AW.reset 0 [(5, .d (.int .i64 v8.1)), (6, .d (.int .i64 v8.2)), (7, .d (.int .i64 v10.1)), (8, .d (.int .i64 v10.2)), (9, .d (.int .i64 v14.1)), (10, .d (.int .i64 v14.2))] [.dead, .lst (v13.map SRatio.e) 49 2] (WOK.g0 hw0 (by simp)) ⟨[0, 1], rfl, rfl, rfl, ⟨(.d rfl), (.d rfl), (.d rfl), (.d rfl), (.d rfl), (.d rfl), trivial⟩, trivial, (.dead (.lst rfl .nil))⟩ ?_
    refine AW.seqR ?_
    refine AL.s rfl (op_moveD (.e rfl)) ?_
    refine AL.s rfl (op_eql (.r rfl) (.r rfl)) ?_
    refine AL.s rfl (op_moveD (.e rfl)) ?_
    refine AL.sT rfl rfl rfl rfl (fun g => op_moveD (.e rfl)) ?_
    refine AL.sT rfl rfl rfl rfl (fun g => op_eql (.we g rfl rfl) (.r rfl)) ?_
    refine AL.s rfl (op_and (.r rfl) (fun h => (.we h rfl rfl)) rfl) ?_
    refine AL.s rfl (op_moveD (.e rfl)) ?_
    refine AL.sT rfl rfl rfl rfl (fun g => op_moveD (.e rfl)) ?_
    refine AL.sT rfl rfl rfl rfl (fun g => op_eql (.we g rfl rfl) (.r rfl)) ?_
    refine AL.s rfl (op_and (.r rfl) (fun h => (.we h rfl rfl)) rfl) ?_
    refine AL.s rfl (op_moveD (.e rfl)) ?_
    refine AL.sT rfl rfl rfl rfl (fun g => op_moveD (.e rfl)) ?_
    refine AL.sT rfl rfl rfl rfl (fun g => op_moveD (.e rfl)) ?_
    refine AL.sT rfl rfl rfl rfl (fun g => op_moveD (.e rfl)) ?_
    refine AL.sT rfl rfl rfl rfl (fun g => op_addw (.we g rfl rfl) (.we g rfl rfl)) ?_
    refine AL.sT rfl rfl rfl rfl (fun g => op_eql (.we g rfl rfl) (.we g rfl rfl)) ?_
    refine AL.sT rfl rfl rfl rfl (fun g => op_moveD (.we g rfl)) ?_
    refine AL.sFF rfl rfl rfl rfl (fun gp g => op_moveD (.e rfl)) ?_
    refine AL.sFF rfl rfl rfl rfl (fun gp g => op_moveD (.e rfl)) ?_
    refine AL.sFF rfl rfl rfl rfl (fun gp g => op_moveD (.e rfl)) ?_
    refine AL.sFF rfl rfl rfl rfl (fun gp g => op_addw (.we (an gp (nt g)) rfl rfl) (.we (an gp (nt g)) rfl rfl)) ?_
    refine AL.sFF rfl rfl rfl rfl (fun gp g => op_addw (.we (an gp (nt g)) rfl rfl) (.r rfl)) ?_
    refine AL.sFF rfl rfl rfl rfl (fun gp g => op_eql (.we (an gp (nt g)) rfl rfl) (.we (an gp (nt g)) rfl rfl)) ?_
    refine AL.sT rfl rfl rfl rfl (fun g => op_or (.we g rfl rfl) rfl (fun h => (.we (an g (nt h)) rfl rfl))) ?_
    refine AL.s rfl (op_and (.r rfl) (fun h => (.we h rfl rfl)) rfl) ?_
    refine AL.s rfl (op_assignD (.e rfl)) ?_
    refine AL.nil ?_
    refine AW.ret ?_
    obtain rfl := Option.some.inj hm
    exact EndQ.d (.tmp (.e rfl) .nil) rfl rfl

set_option maxHeartbeats 20000000 in
theorem m_law28_theirs_ok {n : Nat} {a1 : (List SRatio)} {r : (List SRatio)} (hm : m_law28_theirs n a1 = some r) : Fn Try.prog 23 [(.sl (a1.map SRatio.e))] (.sl (r.map SRatio.e)) := by
  unfold m_law28_theirs at hm
  refine Fn.of_AW (fnn := Try.f23) Try.func23 rfl (Nat.le_of_ble_eq_true rfl) (fun g0 w0 hw0 => ?_)
  refine AW.reset 0 [(0, .d (.sl (a1.map SRatio.e)))] [] (WOK.g0 hw0 (by simp)) ⟨[], rfl, rfl, rfl, ⟨(.d rfl), trivial⟩, trivial, .nil⟩ ?_
  refine AW.seqR ?_
  refine AL.s rfl (op_assignN (.e rfl)) ?_
  refine AL.nil ?_
  refine AW.seqR ?_
  refine AL.s rfl (op_assignN (.e rfl)) ?_
  refine AL.nil ?_
  refine AW.seq ?_
  refine AW.seqR ?_
  refine AL.s rfl (op_moveD (.e rfl)) ?_
  refine AL.s rfl (op_lenM (f := SRatio.e) (.r rfl) sl30) ?_
  refine AL.s rfl (op_moveD (.e rfl)) ?_
  refine AL.nil ?_
  refine AW.block ?_
  refine AW.tokenize (n := 0) 3 54 2 rfl rfl (by simp) ?_
  obtain ⟨t_1, hI1, hk1⟩ := bindE hm
  refine AW.loopS (σ := ((List SRatio) × Int)) (τ := (List SRatio)) 0 (fun x => [(3, .tk 0 (x.1.map SRatio.e)), (6, .d (.sl (a1.map SRatio.e))), (7, .d (.int .i64 (a1.length : Int))), (8, .d (.int .i64 x.2))]) (fun x => [.tok x.1.length 54 2]) hI1 (WOK.g0 hw0 (by simp)) ⟨[0], rfl, rfl, rfl, ⟨(.tk rfl), (.d rfl), (.d rfl), (.d rfl), trivial⟩, trivial, (.tok rfl .nil)⟩ ?_
  rintro n1 ⟨s2, s3⟩ hI1
  obtain ⟨y_1, hm, hI1⟩ := iterS hI1
  replace hm : m_law28_theirs_L1 n _ s2 s3 = some y_1 := hm
  unfold m_law28_theirs_L1 at hm
  try dsimp only at hm
  refine AW.seqR ?_
  refine AL.s rfl (op_lss (.r rfl) (.r rfl)) ?_
  refine AL.nil ?_
  refine AW.seq ?_
  refine AW.cond (b := _) rfl (fun hc1 => ?_) (fun hc1 => ?_)
  · replace hm := iteT hc1 hm
    refine AW.skip ?_
    refine nq ?_
    refine AW.seq ?_
    refine AW.block ?_
    refine AW.seqR ?_
    obtain ⟨v4, hv4, hm⟩ := bindE hm
    refine AL.s rfl (op_indexAddrM (f := SRatio.e) (.r rfl) (.r rfl) hv4 enSRatio sl30) ?_
    refine AL.s rfl (op_loadA (.e rfl) rfl ag49) ?_
    refine AL.s rfl (op_alloc (n := 1) zr49 rfl) ?_
    refine AL.s rfl (op_store (.e rfl) (.e rfl) rfl rfl rfl ⟨_, rfl, rfl⟩ rfl (Nat.le_of_ble_eq_true rfl)) ?_
    refine AL.nil ?_
    refine AW.region ?_
    refine AL.s rfl (op_moveT (.e rfl)) ?_
    refine AL.s rfl (op_load_ptrA (.e rfl) rfl rfl rfl ag49) ?_
    refine AL.s rfl (op_buildSlice (ds := ([(⟨v4.fNum, v4.fDen⟩ : SRatio)] : List SRatio).map SRatio.e) sl22 (.cons (.r rfl) rfl (enSRatio.one _) .nil) rfl (by decide)) ?_
    obtain ⟨v5, hv5, hm⟩ := bindE hm
    refine AL.s rfl (op_appendM (f := SRatio.e) (l' := ([(⟨v4.fNum, v4.fDen⟩ : SRatio)] : List SRatio)) sl22 (.e rfl) (.r rfl) rfl rfl enSRatio hv5) ?_
    refine AL.s rfl (op_assignT (.e rfl)) ?_
    refine AL.nil ?_
    refine bq_n ?_
    refine nq ?_
    refine AW.region ?_
    refine AL.s rfl (op_addw (.r rfl) (.r rfl)) ?_
    refine AL.s rfl (op_moveD (.e rfl)) ?_
    refine AL.nil ?_
    obtain rfl := Option.some.inj hm
    exact nq ⟨_, hI1, ⟨[0], rfl, rfl, rfl, ⟨(.tk rfl), (.d rfl), (.d rfl), (.d rfl), trivial⟩, trivial, (.tok rfl .nil)⟩⟩
  · replace hm := iteF hc1 hm
    refine AW.exit ?_
    refine tq_exit ?_
    refine tq_exit ?_
    obtain rfl := Option.some.inj hm
    obtain rfl := Option.some.inj hI1
    replace hm := hk1
    try dsimp only at hm
    refine bq_hit ?_
    refine nq ?_
    refine AW.seqR ?_
    refine AL.s rfl (op_moveT (.e rfl)) ?_
    refine AL.s rfl (op_assignT (.e rfl)) ?_
    refine AL.nil ?_
    refine AW.ret ?_
    obtain rfl := Option.some.inj hm
    exact EndQ.d (.tmp (.e rfl) .nil) rfl rfl

set_option maxHeartbeats 20000000 in
theorem m_law28_OddsProduct_ok {n : Nat} {a1 : (List SRatio)} {r : Bool} (hm : m_law28_OddsProduct n a1 = some r) : Fn Try.prog 5 [(.sl (a1.map SRatio.e))] (.bool r) := by
  unfold m_law28_OddsProduct at hm
  refine Fn.of_AW (fnn := Try.f5) Try.func5 rfl (Nat.le_of_ble_eq_true rfl) (fun g0 w0 hw0 => ?_)
  refine AW.reset 0 [(0, .d (.sl (a1.map SRatio.e)))] [] (WOK.g0 hw0 (by simp)) ⟨[], rfl, rfl, rfl, ⟨(.d rfl), trivial⟩, trivial, .nil⟩ ?_
  refine AW.seqR ?_
  refine AL.s rfl (op_assignD (.e rfl)) ?_
  refine AL.nil ?_
  refine AW.seq ?_
  refine AW.seqR ?_
  obtain ⟨v2, hv2, hm⟩ := bindE hm
  refine AL.s rfl (op_fn Try.call10 (.e rfl) .nil (m_law28_awake_ok hv2)) ?_
  refine AL.s rfl (op_not (.r rfl)) ?_
  refine AL.s rfl (op_moveD (.e rfl)) ?_
  refine AL.sF rfl rfl rfl rfl (fun g => op_moveD (.e rfl)) ?_
  refine AL.sF rfl rfl rfl rfl (fun g => op_lenM (f := SRatio.e) (.we (nt g) rfl rfl) sl22) ?_
  refine AL.sF rfl rfl rfl rfl (fun g => op_gtr (.we (nt g) rfl rfl) (.r rfl)) ?_
  refine AL.s rfl (op_or (.r rfl) rfl (fun h => (.we (nt h) rfl rfl))) ?_
  refine AL.nil ?_
  refine AW.cond (b := _) rfl (fun hc1 => ?_) (fun hc1 => ?_)
  · replace hm := iteT hc1 hm
    refine AW.seqR ?_
    obtain ⟨v3, hv3, hm⟩ := bindE hm
    refine AL.s rfl (op_fn Try.call10 (.e rfl) .nil (m_law28_awake_ok hv3)) ?_
    refine AL.s rfl (op_assignD (.e rfl)) ?_
    refine AL.nil ?_
    refine AW.ret ?_
    refine tq_ret ?_
    obtain rfl := Option.some.inj hm
    exact EndQ.d (.tmp (.e rfl) .nil) rfl rfl
  · replace hm := iteF hc1 hm
    refine AW.skip ?_
    refine nq ?_
    refine AW.seqR ?_
    refine AL.s rfl (op_moveD (.e rfl)) ?_
    obtain ⟨v4, hv4, hm⟩ := bindE hm
    refine AL.s rfl (op_fn Try.call13 (.e rfl) (.cons (.r rfl) .nil) (m_law28_Own_ok hv4)) ?_
    obtain ⟨v5, hv5, hm⟩ := bindE hm
    refine AL.s rfl (op_fn Try.call12 (.e rfl) (.cons (.r rfl) .nil) (m_odds_Product_ok hv5)) ?_
    refine AL.s rfl (op_moveD (.e rfl)) ?_
    refine AL.s rfl (op_extractD (.e rfl) rfl) ?_
    refine AL.s rfl (op_extractD (.e rfl) rfl) ?_
    refine AL.s rfl (op_extractD (.e rfl) rfl) ?_
    refine AL.s rfl (op_assignD (.e rfl)) ?_
    refine AL.s rfl (op_assignD (.e rfl)) ?_
    refine AL.s rfl (op_assignD (.e rfl)) ?_
    refine AL.nil ?_
    refine AW.seqR ?_
    refine AL.s rfl (op_moveD (.e rfl)) ?_
    obtain ⟨v6, hv6, hm⟩ := bindE hm
    refine AL.s rfl (op_fn Try.call18 (.e rfl) (.cons (.r rfl) .nil) (m_ref28_Product_ok hv6)) ?_
    refine AL.s rfl (op_moveD (.e rfl)) ?_
    refine AL.s rfl (op_extractD (.e rfl) rfl) ?_
    refine AL.s rfl (op_extractD (.e rfl) rfl) ?_
    refine AL.s rfl (op_extractD (.e rfl) rfl) ?_
    refine AL.s rfl (op_assignD (.e rfl)) ?_
    refine AL.s rfl (op_assignD (.e rfl)) ?_
    refine AL.s rfl (op_assignD (.e rfl)) ?_
    refine AL.nil ?_
    refine AW.seqR ?_
    refine AL.s rfl (op_moveD (.e rfl)) ?_
    obtain ⟨v7, hv7, hm⟩ := bindE hm
    refine AL.s rfl (op_fn Try.call13 (.e rfl) (.cons (.r rfl) .nil) (m_law28_Own_ok hv7)) ?_
    obtain ⟨v8, hv8, hm⟩ := bindE hm
    refine AL.s rfl (op_fn Try.call14 (.e rfl) (.cons (.r rfl) .nil) (m_odds_Weight_ok hv8)) ?_
    refine AL.s rfl (op_moveD (.e rfl)) ?_
    refine AL.s rfl (op_extractD (.e rfl) rfl) ?_
    refine AL.s rfl (op_extractD (.e rfl) rfl) ?_
    refine AL.s rfl (op_assignD (.e rfl)) ?_
    refine AL.s rfl (op_assignD (.e rfl)) ?_
    refine AL.nil ?_
    refine AW.seqR ?_
    refine AL.s rfl (op_moveD (.e rfl)) ?_
    obtain ⟨v9, hv9, hm⟩ := bindE hm
    refine AL.s rfl (op_fn Try.call19 (.e rfl) (.cons (.r rfl) .nil) (m_ref28_Weight_ok hv9)) ?_
    refine AL.s rfl (op_moveD (.e rfl)) ?_
    refine AL.s rfl (op_extractD (.e rfl) rfl) ?_
    refine AL.s rfl (op_extractD (.e rfl) rfl) ?_
    refine AL.s rfl (op_assignD (.e rfl)) ?_
    refine AL.s rfl (op_assignD (.e rfl)) ?_
    refine AL.nil ?_
    refine AW.reset 0 [(0, .d (.sl (a1.map SRatio.e))), (3, .d (.sl (v5.1.map D.i))), (4, .d (.sl (v5.2.1.map D.i))), (5, .d (.int .i64 v5.2.2)), (6, .d (.sl (v6.1.map D.i))), (7, .d (.sl (v6.2.1.map D.i))), (8, .d (.int .i64 v6.2.2)), (9, .d (.int .i64 v8.1)), (10, .d (.int .i64 v8.2)), (11, .d (.int .i64 v9.1)), (12, .d (.int .i64 v9.2))] [] (WOK.g0 hw0 (by simp)) ⟨[], rfl, rfl, rfl, ⟨(.d rfl), (.d rfl), (.d rfl), (.d rfl), (.d rfl), (.d rfl), (.d rfl), (.d rfl), (.d rfl), (.d rfl), (.d rfl), trivial⟩, trivial, .nil⟩ ?_
    refine AW.seqR ?_
    refine AL.s rfl (op_moveD (.e rfl)) ?_
    refine AL.s rfl (op_moveD (.e rfl)) ?_
    obtain ⟨v10, hv10, hm⟩ := bindE hm
    refine AL.s rfl (op_fn Try.call20 (.e rfl) (.cons (.r rfl) (.cons (.r rfl) .nil)) (m_ref03_Same_ok hv10)) ?_
    refine AL.s rfl (op_moveD (.e rfl)) ?_
    refine AL.sT rfl rfl rfl rfl (fun g => op_moveD (.e rfl)) ?_
    refine AL.sT rfl rfl rfl rfl (fun g => op_moveD (.e rfl)) ?_
    obtain ⟨v11, hv11, hm⟩ := bindE hm
    refine AL.sT rfl rfl rfl rfl (fun g => op_fn Try.call20 (.e rfl) (.cons (.we g rfl rfl) (.cons (.we g rfl rfl) .nil)) (m_ref03_Same_ok (iteT g hv11))) ?_
    refine AL.s rfl (op_and (.r rfl) (fun h => (.we h rfl rfl)) rfl) ?_
    refine AL.s rfl (op_moveD (.e rfl)) ?_
    refine AL.sT rfl rfl rfl rfl (fun g => op_moveD (.e rfl)) ?_
    refine AL.sT rfl rfl rfl rfl (fun g => op_moveD (.e rfl)) ?_
    refine AL.sT rfl rfl rfl rfl (fun g => op_eql (.we g rfl rfl) (.we g rfl rfl)) ?_
    refine AL.s rfl (op_and (.r rfl) (fun h => (.we h rfl rfl)) rfl) ?_
    refine AL.s rfl (op_moveD (.e rfl)) ?_
    refine AL.sT rfl rfl rfl rfl (fun g => op_moveD (.e rfl)) ?_
    refine AL.sT rfl rfl rfl rfl (fun g => op_moveD (.e rfl)) ?_
    refine AL.sT rfl rfl rfl rfl (fun g => op_eql (.we g rfl rfl) (.we g rfl rfl)) ?_
    refine AL.s rfl (op_and (.r rfl) (fun h => (.we h rfl rfl)) rfl) ?_
    refine AL.s rfl (op_moveD (.e rfl)) ?_
    refine AL.sT rfl rfl rfl rfl (fun g => op_moveD (.e rfl)) ?_
    refine AL.sT rfl rfl rfl rfl (fun g => op_moveD (.e rfl)) ?_
    refine AL.sT rfl rfl rfl rfl (fun g => op_eql (.we g rfl rfl) (.we g rfl rfl)) ?_
    refine AL.s rfl (op_and (.r rfl) (fun h => (.we h rfl rfl)) rfl) ?_
    refine AL.s rfl (op_moveD (.e rfl)) ?_
    refine AL.sT rfl rfl rfl rfl (fun g => op_moveD (.e rfl)) ?_
    obtain ⟨v12, hv12, hm⟩ := bindE hm
    refine AL.sT rfl rfl rfl rfl (fun g => op_fn Try.call13 (.e rfl) (.cons (.we g rfl rfl) .nil) (m_law28_Own_ok (iteT g hv12))) ?_
    obtain ⟨v13, hv13, hm⟩ := bindE hm
    refine AL.sT rfl rfl rfl rfl (fun g => op_fn Try.call21 (.e rfl) (.cons (.we g rfl rfl) .nil) (m_odds_Valid_ok (iteT g hv13))) ?_
    refine AL.sT rfl rfl rfl rfl (fun g => op_moveD (.e rfl)) ?_
    obtain ⟨v14, hv14, hm⟩ := bindE hm
    refine AL.sT rfl rfl rfl rfl (fun g => op_fn Try.call11 (.e rfl) (.cons (.we g rfl rfl) .nil) (m_ref28_Valid_ok (iteT g hv14))) ?_
    refine AL.sT rfl rfl rfl rfl (fun g => op_eqlB (.we g rfl rfl) (.we g rfl rfl) Try.underlying4) ?_
    refine AL.s rfl (op_and (.r rfl) (fun h => (.we h rfl rfl)) rfl) ?_
    refine AL.s rfl (op_moveD (.e rfl)) ?_
    refine AL.sT rfl rfl rfl rfl (fun g => op_moveD (.e rfl)) ?_
    obtain ⟨v15, hv15, hm⟩ := bindE hm
    refine AL.sT rfl rfl rfl rfl (fun g => op_fn Try.call13 (.e rfl) (.cons (.we g rfl rfl) .nil) (m_law28_Own_ok (iteT g hv15))) ?_
    obtain ⟨v16, hv16, hm⟩ := bindE hm
    refine AL.sT rfl rfl rfl rfl (fun g => op_fn Try.call24 (.e rfl) (.cons (.we g rfl rfl) .nil) (m_odds_Inverse_ok (iteT g hv16))) ?_
    obtain ⟨v17, hv17, hm⟩ := bindE hm
    refine AL.sT rfl rfl rfl rfl (fun g => op_fn Try.call23 (.e rfl) (.cons (.we g rfl rfl) .nil) (m_law28_theirs_ok (iteT g hv17))) ?_
    refine AL.sT rfl rfl rfl rfl (fun g => op_moveD (.e rfl)) ?_
    obtain ⟨v18, hv18, hm⟩ := bindE hm
    refine AL.sT rfl rfl rfl rfl (fun g => op_fn Try.call25 (.e rfl) (.cons (.we g rfl rfl) .nil) (m_ref28_Inverse_ok (iteT g hv18))) ?_
    obtain ⟨v19, hv19, hm⟩ := bindE hm
    refine AL.sT rfl rfl rfl rfl (fun g => op_fn Try.call22 (.e rfl) (.cons (.we g rfl rfl) (.cons (.we g rfl rfl) .nil)) (m_ref28_Same_ok (iteT g hv19))) ?_
    refine AL.s rfl (op_and (.r rfl) (fun h => (.we h rfl rfl)) rfl) ?_
    refine AL.s rfl (op_assignD (.e rfl)) ?_
    refine AL.nil ?_
    refine AW.ret ?_
    obtain rfl := Option.some.inj hm
    exact EndQ.d (.tmp (.e rfl) .nil) rfl rfl

set_option maxHeartbeats 20000000 in
theorem m_law28_OddsInverse_ok {n : Nat} {a1 : (List SRatio)} {r : Bool} (hm : m_law28_OddsInverse n a1 = some r) : Fn Try.prog 6 [(.sl (a1.map SRatio.e))] (.bool r) := by
  unfold m_law28_OddsInverse at hm
  refine Fn.of_AW (fnn := Try.f6) Try.func6 rfl (Nat.le_of_ble_eq_true rfl) (fun g0 w0 hw0 => ?_)
  refine AW.reset 0 [(0, .d (.sl (a1.map SRatio.e)))] [] (WOK.g0 hw0 (by simp)) ⟨[], rfl, rfl, rfl, ⟨(.d rfl), trivial⟩, trivial, .nil⟩ ?_
  refine AW.seqR ?_
  refine AL.s rfl (op_assignD (.e rfl)) ?_
  refine AL.nil ?_
  refine AW.seq ?_
  refine AW.seqR ?_
  obtain ⟨v2, hv2, hm⟩ := bindE hm
  refine AL.s rfl (op_fn Try.call10 (.e rfl) .nil (m_law28_awake_ok hv2)) ?_
  refine AL.s rfl (op_not (.r rfl)) ?_
  refine AL.s rfl (op_moveD (.e rfl)) ?_
  refine AL.sF rfl rfl rfl rfl (fun g => op_moveD (.e rfl)) ?_
  obtain ⟨v3, hv3, hm⟩ := bindE hm
  refine AL.sF rfl rfl rfl rfl (fun g => op_fn Try.call11 (.e rfl) (.cons (.we (nt g) rfl rfl) .nil) (m_ref28_Valid_ok (iteT (nt g) hv3))) ?_
  refine AL.sF rfl rfl rfl rfl (fun g => op_not (.we (nt g) rfl rfl)) ?_
  refine AL.s rfl (op_or (.r rfl) rfl (fun h => (.we (nt h) rfl rfl))) ?_
  refine AL.nil ?_
  refine AW.cond (b := _) rfl (fun hc1 => ?_) (fun hc1 => ?_)
  · replace hm := iteT hc1 hm
    refine AW.seqR ?_
    obtain ⟨v4, hv4, hm⟩ := bindE hm
    refine AL.s rfl (op_fn Try.call10 (.e rfl) .nil (m_law28_awake_ok hv4)) ?_
    refine AL.s rfl (op_assignD (.e rfl)) ?_
    refine AL.nil ?_
    refine AW.ret ?_
    refine tq_ret ?_
    obtain rfl := Option.some.inj hm
    exact EndQ.d (.tmp (.e rfl) .nil) rfl rfl
  · replace hm := iteF hc1 hm
    refine AW.skip ?_
    refine nq ?_
    refine AW.seqR ?_
    refine AL.s rfl (op_moveD (.e rfl)) ?_
    obtain ⟨v5, hv5, hm⟩ := bindE hm
    refine AL.s rfl (op_fn Try.call13 (.e rfl) (.cons (.r rfl) .nil) (m_law28_Own_ok hv5)) ?_
    obtain ⟨v6, hv6, hm⟩ := bindE hm
    refine AL.s rfl (op_fn Try.call14 (.e rfl) (.cons (.r rfl) .nil) (m_odds_Weight_ok hv6)) ?_
    refine AL.s rfl (op_moveD (.e rfl)) ?_
    refine AL.s rfl (op_extractD (.e rfl) rfl) ?_
    refine AL.s rfl (op_extractD (.e rfl) rfl) ?_
    refine AL.s rfl (op_assignD (.e rfl)) ?_
    refine AL.s rfl (op_assignD (.e rfl)) ?_
    refine AL.nil ?_
    refine AW.seqR ?_
    refine AL.s rfl (op_moveD (.e rfl)) ?_
    obtain ⟨v7, hv7, hm⟩ := bindE hm
    refine AL.s rfl (op_fn Try.call13 (.e rfl) (.cons (.r rfl) .nil) (m_law28_Own_ok hv7)) ?_
    obtain ⟨v8, hv8, hm⟩ := bindE hm
    refine AL.s rfl (op_fn Try.call24 (.e rfl) (.cons (.r rfl) .nil) (m_odds_Inverse_ok hv8)) ?_
    obtain ⟨v9, hv9, hm⟩ := bindE hm
    refine AL.s rfl (op_fn Try.call14 (.e rfl) (.cons (.r rfl) .nil) (m_odds_Weight_ok hv9)) ?_
    refine AL.s rfl (op_moveD (.e rfl)) ?_
    refine AL.s rfl (op_extractD (.e rfl) rfl) ?_
    refine AL.s rfl (op_extractD (.e rfl) rfl) ?_
    refine AL.s rfl (op_assignD (.e rfl)) ?_
    refine AL.s rfl (op_assignD (.e rfl)) ?_
    refine AL.nil ?_
    refine AW.seqR ?_
    refine AL.s rfl (op_moveD (.e rfl)) ?_
    obtain ⟨v10, hv10, hm⟩ := bindE hm
    refine AL.s rfl (op_fn Try.call13 (.e rfl) (.cons (.r rfl) .nil) (m_law28_Own_ok hv10)) ?_
    obtain ⟨v11, hv11, hm⟩ := bindE hm
    refine AL.s rfl (op_fn Try.call12 (.e rfl) (.cons (.r rfl) .nil) (m_odds_Product_ok hv11)) ?_
    refine AL.s rfl (op_moveD (.e rfl)) ?_
    refine AL.s rfl (op_extractD (.e rfl) rfl) ?_
    refine AL.s rfl (op_extractD (.e rfl) rfl) ?_
    refine AL.s rfl (op_extractD (.e rfl) rfl) ?_
    refine AL.s rfl (op_assignD (.e rfl)) ?_
    refine AL.s rfl (op_assignD (.e rfl)) ?_
    refine AL.s rfl (op_assignD (.e rfl)) ?_
    refine AL.nil ?_
    refine AW.seqR ?_
    refine AL.s rfl (op_moveD (.e rfl)) ?_
    obtain ⟨v12, hv12, hm⟩ := bindE hm
    refine AL.s rfl (op_fn Try.call15 (.e rfl) (.cons (.r rfl) (.cons (.r rfl) .nil)) (m_nat_Power_ok hv12)) ?_
    refine AL.s rfl (op_moveD (.e rfl)) ?_
    refine AL.s rfl (op_extractD (.e rfl) rfl) ?_
    refine AL.s rfl (op_extractD (.e rfl) rfl) ?_
    refine AL.s rfl (op_assignD (.e rfl)) ?_
    refine AL.s rfl (op_assignD (.e rfl)) ?_
    refine AL.nil ?_
    refine AW.reset 0 [(0, .d (.sl (a1.map SRatio.e))), (3, .d (.int .i64 v6.1)), (4, .d (.int .i64 v6.2)), (5, .d (.int .i64 v9.1)), (6, .d (.int .i64 v9.2)), (7, .d (.sl (v11.1.map D.i))), (8, .d (.sl (v11.2.1.map D.i))), (9, .d (.int .i64 v11.2.2)), (10, .d (.sl (v12.1.map D.i))), (11, .d (.int .i64 v12.2))] [] (WOK.g0 hw0 (by simp)) ⟨[], rfl, rfl, rfl, ⟨(.d rfl), (.d rfl), (.d rfl), (.d rfl), (.d rfl), (.d rfl), (.d rfl), (.d rfl), (.d rfl), (.d rfl), trivial⟩, trivial, .nil⟩ ?_
    refine AW.seqR ?_
    refine AL.s rfl (op_moveD (.e rfl)) ?_
    obtain ⟨v13, hv13, hm⟩ := bindE hm
    refine AL.s rfl (op_fn Try.call15 (.e rfl) (.cons (.r rfl) (.cons (.r rfl) .nil)) (m_nat_Power_ok hv13)) ?_
    refine AL.s rfl (op_moveD (.e rfl)) ?_
    refine AL.s rfl (op_extractD (.e rfl) rfl) ?_
    refine AL.s rfl (op_extractD (.e rfl) rfl) ?_
    refine AL.s rfl (op_assignD (.e rfl)) ?_
    refine AL.s rfl (op_assignD (.e rfl)) ?_
    refine AL.nil ?_
    refine AW.seq ?_
    refine AW.seqR ?_
    refine AL.s rfl (op_moveD (.e rfl)) ?_
    refine AL.s rfl (op_neq (.r rfl) (.r rfl)) ?_
    refine AL.s rfl (op_moveD (.e rfl)) ?_
    refine AL.sF rfl rfl rfl rfl (fun g => op_moveD (.e rfl)) ?_
    refine AL.sF rfl rfl rfl rfl (fun g => op_neq (.we (nt g) rfl rfl) (.r rfl)) ?_
    refine AL.s rfl (op_or (.r rfl) rfl (fun h => (.we (nt h) rfl rfl))) ?_
    refine AL.s rfl (op_moveD (.e rfl)) ?_
    refine AL.sF rfl rfl rfl rfl (fun g => op_moveD (.e rfl)) ?_
    refine AL.sF rfl rfl rfl rfl (fun g => op_neq (.we (nt g) rfl rfl) (.r rfl)) ?_
    refine AL.s rfl (op_or (.r rfl) rfl (fun h => (.we (nt h) rfl rfl))) ?_
    refine AL.s rfl (op_moveD (.e rfl)) ?_
    refine AL.sF rfl rfl rfl rfl (fun g => op_moveD (.e rfl)) ?_
    refine AL.sF rfl rfl rfl rfl (fun g => op_neq (.we (nt g) rfl rfl) (.r rfl)) ?_
    refine AL.s rfl (op_or (.r rfl) rfl (fun h => (.we (nt h) rfl rfl))) ?_
    refine AL.s rfl (op_moveD (.e rfl)) ?_
    refine AL.sF rfl rfl rfl rfl (fun g => op_moveD (.e rfl)) ?_
    refine AL.sF rfl rfl rfl rfl (fun g => op_neq (.we (nt g) rfl rfl) (.r rfl)) ?_
    refine AL.s rfl (op_or (.r rfl) rfl (fun h => (.we (nt h) rfl rfl))) ?_
    refine AL.nil ?_
    refine AW.cond (b := _) rfl (fun hc2 => ?_) (fun hc2 => ?_)
    · replace hm := iteT hc2 hm
      refine AW.seqR ?_
      refine AL.s rfl (op_assignD (.e rfl)) ?_
      refine AL.nil ?_
      refine AW.ret ?_
      refine tq_ret ?_
      obtain rfl := Option.some.inj hm
      exact EndQ.d (.tmp (.e rfl) .nil) rfl rfl
    · replace hm := iteF hc2 hm
      refine AW.skip ?_
      refine nq ?_
      obtain ⟨t_j1, hm, hkj1⟩ := bindE hm
      refine AW.cutS (α := (Int × (List Int) × (List Int))) 0 (fun x => x = t_j1) (fun x => [(0, .d (.sl (a1.map SRatio.e))), (3, .d (.int .i64 v6.1)), (4, .d (.int .i64 x.1)), (5, .d (.int .i64 v9.1)), (7, .d (.sl (v11.1.map D.i))), (8, .d (.sl (v11.2.1.map D.i))), (10, .d (.sl (x.2.1.map D.i))), (12, .d (.sl (x.2.2.map D.i)))]) (fun x => []) (WOK.g0 hw0 (by simp)) ?_ ?_
      · skip
        refine AW.seqR ?_
        refine AL.s rfl (op_moveD (.e rfl)) ?_
        refine AL.s rfl (op_geq (.r rfl) (.r rfl)) ?_
        refine AL.nil ?_
        refine AW.cond (b := _) rfl (fun hc3 => ?_) (fun hc3 => ?_)
        · replace hm := iteT hc3 hm
          refine AW.region ?_
          refine AL.s rfl (op_moveD (.e rfl)) ?_
          refine AL.s rfl (op_moveD (.e rfl)) ?_
          obtain ⟨v14, hv14, hm⟩ := bindE hm
          refine AL.s rfl (op_fn Try.call16 (.e rfl) (.cons (.r rfl) (.cons (.r rfl) .nil)) (m_nat_Shift_ok hv14)) ?_
          refine AL.s rfl (op_moveD (.e rfl)) ?_
          refine AL.s rfl (op_extractD (.e rfl) rfl) ?_
          refine AL.s rfl (op_extractD (.e rfl) rfl) ?_
          refine AL.s rfl (op_assignD (.e rfl)) ?_
          refine AL.s rfl (op_assignD (.e rfl)) ?_
          refine AL.nil ?_
          obtain rfl := Option.some.inj hm
          exact nq ⟨_, rfl, ⟨[], rfl, rfl, rfl, ⟨(.d rfl), (.d rfl), (.d rfl), (.d rfl), (.d rfl), (.d rfl), (.d rfl), (.d rfl), trivial⟩, trivial, .nil⟩⟩
        · replace hm := iteF hc3 hm
          refine AW.reset 0 [(0, .d (.sl (a1.map SRatio.e))), (3, .d (.int .i64 v6.1)), (5, .d (.int .i64 v9.1)), (7, .d (.sl (v11.1.map D.i))), (8, .d (.sl (v11.2.1.map D.i))), (10, .d (.sl (v12.1.map D.i))), (12, .d (.sl (v13.1.map D.i)))] [] (WOK.g0 hw0 (by simp)) ⟨[], rfl, rfl, rfl, ⟨(.d rfl), (.d rfl), (.d rfl), (.d rfl), (.d rfl), (.d rfl), (.d rfl), trivial⟩, trivial, .nil⟩ ?_
          refine AW.region ?_
          refine AL.s rfl (op_moveD (.e rfl)) ?_
          refine AL.s rfl (op_moveD (.e rfl)) ?_
          refine AL.s rfl (op_negw (.r rfl)) ?_
          obtain ⟨v15, hv15, hm⟩ := bindE hm
          refine AL.s rfl (op_fn Try.call16 (.e rfl) (.cons (.r rfl) (.cons (.r rfl) .nil)) (m_nat_Shift_ok hv15)) ?_
          refine AL.s rfl (op_moveD (.e rfl)) ?_
          refine AL.s rfl (op_extractD (.e rfl) rfl) ?_
          refine AL.s rfl (op_extractD (.e rfl) rfl) ?_
          refine AL.s rfl (op_assignD (.e rfl)) ?_
          refine AL.s rfl (op_assignD (.e rfl)) ?_
          refine AL.nil ?_
          obtain rfl := Option.some.inj hm
          exact nq ⟨_, rfl, ⟨[], rfl, rfl, rfl, ⟨(.d rfl), (.d rfl), (.d rfl), (.d rfl), (.d rfl), (.d rfl), (.d rfl), (.d rfl), trivial⟩, trivial, .nil⟩⟩
      · rintro ⟨s16, s17, s18⟩ rfl
        replace hm := hkj1
        try dsimp only at hm
        refine AW.seqR ?_
        refine AL.s rfl (op_moveD (.e rfl)) ?_
        obtain ⟨v19, hv19, hm⟩ := bindE hm
        refine AL.s rfl (op_fn Try.call13 (.e rfl) (.cons (.r rfl) .nil) (m_law28_Own_ok hv19)) ?_
        obtain ⟨v20, hv20, hm⟩ := bindE hm
        refine AL.s rfl (op_fn Try.call24 (.e rfl) (.cons (.r rfl) .nil) (m_odds_Inverse_ok hv20)) ?_
        obtain ⟨v21, hv21, hm⟩ := bindE hm
        refine AL.s rfl (op_fn Try.call12 (.e rfl) (.cons (.r rfl) .nil) (m_odds_Product_ok hv21)) ?_
        refine AL.s rfl (op_moveD (.e rfl)) ?_
        refine AL.s rfl (op_extractD (.e rfl) rfl) ?_
        refine AL.s rfl (op_extractD (.e rfl) rfl) ?_
        refine AL.s rfl (op_extractD (.e rfl) rfl) ?_
        refine AL.s rfl (op_assignD (.e rfl)) ?_
        refine AL.s rfl (op_assignD (.e rfl)) ?_
        refine AL.s rfl (op_assignD (.e rfl)) ?_
        refine AL.nil ?_
        refine AW.seq ?_
        refine AW.seqR ?_
        refine AL.s rfl (op_moveD (.e rfl)) ?_
        refine AL.s rfl (op_neq (.r rfl) (.r rfl)) ?_
        refine AL.s rfl (op_moveD (.e rfl)) ?_
        refine AL.sF rfl rfl rfl rfl (fun g => op_moveD (.e rfl)) ?_
        refine AL.sF rfl rfl rfl rfl (fun g => op_neq (.we (nt g) rfl rfl) (.r rfl)) ?_
        refine AL.s rfl (op_or (.r rfl) rfl (fun h => (.we (nt h) rfl rfl))) ?_
        refine AL.s rfl (op_moveD (.e rfl)) ?_
        refine AL.sF rfl rfl rfl rfl (fun g => op_moveD (.e rfl)) ?_
        refine AL.sF rfl rfl rfl rfl (fun g => op_moveD (.e rfl)) ?_
        obtain ⟨v22, hv22, hm⟩ := bindE hm
        refine AL.sF rfl rfl rfl rfl (fun g => op_fn Try.call20 (.e rfl) (.cons (.we (nt g) rfl rfl) (.cons (.we (nt g) rfl rfl) .nil)) (m_ref03_Same_ok (iteT (nt g) hv22))) ?_
        refine AL.sF rfl rfl rfl rfl (fun g => op_not (.we (nt g) rfl rfl)) ?_
        refine AL.s rfl (op_or (.r rfl) rfl (fun h => (.we (nt h) rfl rfl))) ?_
        refine AL.s rfl (op_moveD (.e rfl)) ?_
        refine AL.sF rfl rfl rfl rfl (fun g => op_moveD (.e rfl)) ?_
        refine AL.sF rfl rfl rfl rfl (fun g => op_moveD (.e rfl)) ?_
        obtain ⟨v23, hv23, hm⟩ := bindE hm
        refine AL.sF rfl rfl rfl rfl (fun g => op_fn Try.call20 (.e rfl) (.cons (.we (nt g) rfl rfl) (.cons (.we (nt g) rfl rfl) .nil)) (m_ref03_Same_ok (iteT (nt g) hv23))) ?_
        refine AL.sF rfl rfl rfl rfl (fun g => op_not (.we (nt g) rfl rfl)) ?_
        refine AL.s rfl (op_or (.r rfl) rfl (fun h => (.we (nt h) rfl rfl))) ?_
        refine AL.nil ?_
        refine AW.cond (b := _) rfl (fun hc4 => ?_) (fun hc4 => ?_)
        · replace hm := iteT hc4 hm
          refine AW.seqR ?_
          refine AL.s rfl (op_assignD (.e rfl)) ?_
          refine AL.nil ?_
          refine AW.ret ?_
          refine tq_ret ?_
          obtain rfl := Option.some.inj hm
          exact EndQ.d (.tmp (.e rfl) .nil) rfl rfl
        · replace hm := iteF hc4 hm
          refine AW.skip ?_
          refine nq ?_
          refine AW.seq ?_
          refine AW.seqR ?_
          refine AL.s rfl (op_moveD (.e rfl)) ?_
          refine AL.s rfl (op_moveD (.e rfl)) ?_
          obtain ⟨v24, hv24, hm⟩ := bindE hm
          refine AL.s rfl (op_fn Try.call17 (.e rfl) (.cons (.r rfl) (.cons (.r rfl) .nil)) (m_nat_Compare_ok hv24)) ?_
          refine AL.s rfl (op_eql (.r rfl) (.r rfl)) ?_
          refine AL.nil ?_
          refine AW.cond (b := _) rfl (fun hc5 => ?_) (fun hc5 => ?_)
          · replace hm := iteT hc5 hm
            refine AW.seqR ?_
            refine AL.s rfl (op_moveD (.e rfl)) ?_
            refine AL.s rfl (op_moveD (.e rfl)) ?_
            refine AL.s rfl (op_negw (.r rfl)) ?_
            refine AL.s rfl (op_eql (.r rfl) (.r rfl)) ?_
            refine AL.s rfl (op_assignD (.e rfl)) ?_
            refine AL.nil ?_
            refine AW.ret ?_
            refine tq_ret ?_
            obtain rfl := Option.some.inj hm
            exact EndQ.d (.tmp (.e rfl) .nil) rfl rfl
          · replace hm := iteF hc5 hm
            refine AW.skip ?_
            refine nq ?_
            refine AW.seqR ?_
            refine AL.s rfl (op_moveD (.e rfl)) ?_
            refine AL.s rfl (op_moveD (.e rfl)) ?_
            refine AL.s rfl (op_negw (.r rfl)) ?_
            refine AL.s rfl (op_subw (.r rfl) (.r rfl)) ?_
            refine AL.s rfl (op_eql (.r rfl) (.r rfl)) ?_
            refine AL.s rfl (op_assignD (.e rfl)) ?_
            refine AL.nil ?_
            refine AW.ret ?_
            obtain rfl := Option.some.inj hm
            exact EndQ.d (.tmp (.e rfl) .nil) rfl rfl

set_option maxHeartbeats 20000000 in
theorem m_law28_OddsCompare_ok {n : Nat} {a1 : (List SRatio)} {a2 : (List SRatio)} {r : Bool} (hm : m_law28_OddsCompare n a1 a2 = some r) : Fn Try.prog 7 [(.sl (a1.map SRatio.e)), (.sl (a2.map SRatio.e))] (.bool r) := by
  unfold m_law28_OddsCompare at hm
  refine Fn.of_AW (fnn := Try.f7) Try.func7 rfl (Nat.le_of_ble_eq_true rfl) (fun g0 w0 hw0 => ?_)
  refine AW.reset 0 [(0, .d (.sl (a1.map SRatio.e))), (1, .d (.sl (a2.map SRatio.e)))] [] (WOK.g0 hw0 (by simp)) ⟨[], rfl, rfl, rfl, ⟨(.d rfl), (.d rfl), trivial⟩, trivial, .nil⟩ ?_
  refine AW.seqR ?_
  refine AL.s rfl (op_assignD (.e rfl)) ?_
  refine AL.nil ?_
  refine AW.seq ?_
  refine AW.seqR ?_
  obtain ⟨v3, hv3, hm⟩ := bindE hm
  refine AL.s rfl (op_fn Try.call10 (.e rfl) .nil (m_law28_awake_ok hv3)) ?_
  refine AL.s rfl (op_not (.r rfl)) ?_
  refine AL.s rfl (op_moveD (.e rfl)) ?_
  refine AL.sF rfl rfl rfl rfl (fun g => op_moveD (.e rfl)) ?_
  refine AL.sF rfl rfl rfl rfl (fun g => op_lenM (f := SRatio.e) (.we (nt g) rfl rfl) sl22) ?_
  refine AL.sF rfl rfl rfl rfl (fun g => op_gtr (.we (nt g) rfl rfl) (.r rfl)) ?_
  refine AL.s rfl (op_or (.r rfl) rfl (fun h => (.we (nt h) rfl rfl))) ?_
  refine AL.s rfl (op_moveD (.e rfl)) ?_
  refine AL.sF rfl rfl rfl rfl (fun g => op_moveD (.e rfl)) ?_
  refine AL.sF rfl rfl rfl rfl (fun g => op_lenM (f := SRatio.e) (.we (nt g) rfl rfl) sl22) ?_
  refine AL.sF rfl rfl rfl rfl (fun g => op_gtr (.we (nt g) rfl rfl) (.r rfl)) ?_
  refine AL.s rfl (op_or (.r rfl) rfl (fun h => (.we (nt h) rfl rfl))) ?_
  refine AL.nil ?_
  refine AW.cond (b := _) rfl (fun hc1 => ?_) (fun hc1 => ?_)
  · replace hm := iteT hc1 hm
    refine AW.seqR ?_
    obtain ⟨v4, hv4, hm⟩ := bindE hm
    refine AL.s rfl (op_fn Try.call10 (.e rfl) .nil (m_law28_awake_ok hv4)) ?_
    refine AL.s rfl (op_assignD (.e rfl)) ?_
    refine AL.nil ?_
    refine AW.ret ?_
    refine tq_ret ?_
    obtain rfl := Option.some.inj hm
    exact EndQ.d (.tmp (.e rfl) .nil) rfl rfl
  · replace hm := iteF hc1 hm
    refine AW.skip ?_
    refine nq ?_
    refine AW.seqR ?_
    refine AL.s rfl (op_moveD (.e rfl)) ?_
    obtain ⟨v5, hv5, hm⟩ := bindE hm
    refine AL.s rfl (op_fn Try.call13 (.e rfl) (.cons (.r rfl) .nil) (m_law28_Own_ok hv5)) ?_
    refine AL.s rfl (op_moveD (.e rfl)) ?_
    obtain ⟨v6, hv6, hm⟩ := bindE hm
    refine AL.s rfl (op_fn Try.call13 (.e rfl) (.cons (.r rfl) .nil) (m_law28_Own_ok hv6)) ?_
    obtain ⟨v7, hv7, hm⟩ := bindE hm
    refine AL.s rfl (op_fn Try.call26 (.e rfl) (.cons (.r rfl) (.cons (.r rfl) .nil)) (m_odds_Compare_ok hv7)) ?_
    refine AL.s rfl (op_moveD (.e rfl)) ?_
    refine AL.s rfl (op_extractD (.e rfl) rfl) ?_
    refine AL.s rfl (op_extractD (.e rfl) rfl) ?_
    refine AL.s rfl (op_assignD (.e rfl)) ?_
    refine AL.s rfl (op_assignD (.e rfl)) ?_
    refine AL.nil ?_
    refine AW.seqR ?_
    refine AL.s rfl (op_moveD (.e rfl)) ?_
    refine AL.s rfl (op_moveD (.e rfl)) ?_
    obtain ⟨v8, hv8, hm⟩ := bindE hm
    refine AL.s rfl (op_fn Try.call27 (.e rfl) (.cons (.r rfl) (.cons (.r rfl) .nil)) (m_ref28_Compare_ok hv8)) ?_
    refine AL.s rfl (op_moveD (.e rfl)) ?_
    refine AL.s rfl (op_extractD (.e rfl) rfl) ?_
    refine AL.s rfl (op_extractD (.e rfl) rfl) ?_
    refine AL.s rfl (op_assignD (.e rfl)) ?_
    refine AL.s rfl (op_assignD (.e rfl)) ?_
    refine AL.nil ?_
    refine AW.seqR ?_
    refine AL.s rfl (op_moveD (.e rfl)) ?_
    refine AL.s rfl (op_moveD (.e rfl)) ?_
    refine AL.s rfl (op_eql (.r rfl) (.r rfl)) ?_
    refine AL.s rfl (op_moveD (.e rfl)) ?_
    refine AL.sT rfl rfl rfl rfl (fun g => op_moveD (.e rfl)) ?_
    refine AL.sT rfl rfl rfl rfl (fun g => op_moveD (.e rfl)) ?_
    refine AL.sT rfl rfl rfl rfl (fun g => op_eql (.we g rfl rfl) (.we g rfl rfl)) ?_
    refine AL.s rfl (op_and (.r rfl) (fun h => (.we h rfl rfl)) rfl) ?_
    refine AL.s rfl (op_assignD (.e rfl)) ?_
    refine AL.nil ?_
    refine AW.ret ?_
    obtain rfl := Option.some.inj hm
    exact EndQ.d (.tmp (.e rfl) .nil) rfl rfl

set_option maxHeartbeats 20000000 in
theorem m_law28_OddsOrder_ok {n : Nat} {a1 : (List SRatio)} {a2 : (List SRatio)} {a3 : Int} {r : Bool} (hm : m_law28_OddsOrder n a1 a2 a3 = some r) : Fn Try.prog 8 [(.sl (a1.map SRatio.e)), (.sl (a2.map SRatio.e)), (.int .u8 a3)] (.bool r) := by
  unfold m_law28_OddsOrder at hm
  refine Fn.of_AW (fnn := Try.f8) Try.func8 rfl (Nat.le_of_ble_eq_true rfl) (fun g0 w0 hw0 => ?_)
  refine AW.reset 0 [(0, .d (.sl (a1.map SRatio.e))), (1, .d (.sl (a2.map SRatio.e))), (2, .d (.int .u8 a3))] [] (WOK.g0 hw0 (by simp)) ⟨[], rfl, rfl, rfl, ⟨(.d rfl), (.d rfl), (.d rfl), trivial⟩, trivial, .nil⟩ ?_
  refine AW.seqR ?_
  refine AL.s rfl (op_assignD (.e rfl)) ?_
  refine AL.nil ?_
  refine AW.seq ?_
  refine AW.seqR ?_
  obtain ⟨v4, hv4, hm⟩ := bindE hm
  refine AL.s rfl (op_fn Try.call10 (.e rfl) .nil (m_law28_awake_ok hv4)) ?_
  refine AL.s rfl (op_not (.r rfl)) ?_
  refine AL.s rfl (op_moveD (.e rfl)) ?_
  refine AL.sF rfl rfl rfl rfl (fun g => op_moveD (.e rfl)) ?_
  obtain ⟨v5, hv5, hm⟩ := bindE hm
  refine AL.sF rfl rfl rfl rfl (fun g => op_fn Try.call11 (.e rfl) (.cons (.we (nt g) rfl rfl) .nil) (m_ref28_Valid_ok (iteT (nt g) hv5))) ?_
  refine AL.sF rfl rfl rfl rfl (fun g => op_not (.we (nt g) rfl rfl)) ?_
  refine AL.s rfl (op_or (.r rfl) rfl (fun h => (.we (nt h) rfl rfl))) ?_
  refine AL.s rfl (op_moveD (.e rfl)) ?_
  refine AL.sF rfl rfl rfl rfl (fun g => op_moveD (.e rfl)) ?_
  obtain ⟨v6, hv6, hm⟩ := bindE hm
  refine AL.sF rfl rfl rfl rfl (fun g => op_fn Try.call11 (.e rfl) (.cons (.we (nt g) rfl rfl) .nil) (m_ref28_Valid_ok (iteT (nt g) hv6))) ?_
  refine AL.sF rfl rfl rfl rfl (fun g => op_not (.we (nt g) rfl rfl)) ?_
  refine AL.s rfl (op_or (.r rfl) rfl (fun h => (.we (nt h) rfl rfl))) ?_
  refine AL.s rfl (op_moveD (.e rfl)) ?_
  refine AL.sF rfl rfl rfl rfl (fun g => op_moveD (.e rfl)) ?_
  refine AL.sF rfl rfl rfl rfl (fun g => op_lenM (f := SRatio.e) (.we (nt g) rfl rfl) sl22) ?_
  refine AL.sF rfl rfl rfl rfl (fun g => op_gtr (.we (nt g) rfl rfl) (.r rfl)) ?_
  refine AL.s rfl (op_or (.r rfl) rfl (fun h => (.we (nt h) rfl rfl))) ?_
  refine AL.nil ?_
  refine AW.cond (b := _) rfl (fun hc1 => ?_) (fun hc1 => ?_)
  · replace hm := iteT hc1 hm
    refine AW.seqR ?_
    obtain ⟨v7, hv7, hm⟩ := bindE hm
    refine AL.s rfl (op_fn Try.call10 (.e rfl) .nil (m_law28_awake_ok hv7)) ?_
    refine AL.s rfl (op_assignD (.e rfl)) ?_
    refine AL.nil ?_
    refine AW.ret ?_
    refine tq_ret ?_
    obtain rfl := Option.some.inj hm
    exact EndQ.d (.tmp (.e rfl) .nil) rfl rfl
  · replace hm := iteF hc1 hm
    refine AW.skip ?_
    refine nq ?_
    refine AW.seqR ?_
    refine AL.s rfl (op_moveD (.e rfl)) ?_
    obtain ⟨v8, hv8, hm⟩ := bindE hm
    refine AL.s rfl (op_fn Try.call13 (.e rfl) (.cons (.r rfl) .nil) (m_law28_Own_ok hv8)) ?_
    refine AL.s rfl (op_moveD (.e rfl)) ?_
    obtain ⟨v9, hv9, hm⟩ := bindE hm
    refine AL.s rfl (op_fn Try.call13 (.e rfl) (.cons (.r rfl) .nil) (m_law28_Own_ok hv9)) ?_
    obtain ⟨v10, hv10, hm⟩ := bindE hm
    refine AL.s rfl (op_fn Try.call26 (.e rfl) (.cons (.r rfl) (.cons (.r rfl) .nil)) (m_odds_Compare_ok hv10)) ?_
    refine AL.s rfl (op_moveD (.e rfl)) ?_
    refine AL.s rfl (op_extractD (.e rfl) rfl) ?_
    refine AL.s rfl (op_extractD (.e rfl) rfl) ?_
    refine AL.s rfl (op_assignD (.e rfl)) ?_
    refine AL.s rfl (op_assignD (.e rfl)) ?_
    refine AL.nil ?_
    refine AW.seqR ?_
    refine AL.s rfl (op_moveD (.e rfl)) ?_
    obtain ⟨v11, hv11, hm⟩ := bindE hm
    refine AL.s rfl (op_fn Try.call13 (.e rfl) (.cons (.r rfl) .nil) (m_law28_Own_ok hv11)) ?_
    refine AL.s rfl (op_moveD (.e rfl)) ?_
    obtain ⟨v12, hv12, hm⟩ := bindE hm
    refine AL.s rfl (op_fn Try.call13 (.e rfl) (.cons (.r rfl) .nil) (m_law28_Own_ok hv12)) ?_
    obtain ⟨v13, hv13, hm⟩ := bindE hm
    refine AL.s rfl (op_fn Try.call26 (.e rfl) (.cons (.r rfl) (.cons (.r rfl) .nil)) (m_odds_Compare_ok hv13)) ?_
    refine AL.s rfl (op_moveD (.e rfl)) ?_
    refine AL.s rfl (op_extractD (.e rfl) rfl) ?_
    refine AL.s rfl (op_extractD (.e rfl) rfl) ?_
    refine AL.s rfl (op_assignD (.e rfl)) ?_
    refine AL.s rfl (op_assignD (.e rfl)) ?_
    refine AL.nil ?_
    refine AW.seqR ?_
    refine AL.s rfl (op_moveD (.e rfl)) ?_
    obtain ⟨v14, hv14, hm⟩ := bindE hm
    refine AL.s rfl (op_fn Try.call13 (.e rfl) (.cons (.r rfl) .nil) (m_law28_Own_ok hv14)) ?_
    obtain ⟨v15, hv15, hm⟩ := bindE hm
    refine AL.s rfl (op_fn Try.call14 (.e rfl) (.cons (.r rfl) .nil) (m_odds_Weight_ok hv15)) ?_
    refine AL.s rfl (op_moveD (.e rfl)) ?_
    refine AL.s rfl (op_extractD (.e rfl) rfl) ?_
    refine AL.s rfl (op_extractD (.e rfl) rfl) ?_
    refine AL.s rfl (op_assignD (.e rfl)) ?_
    refine AL.s rfl (op_assignD (.e rfl)) ?_
    refine AL.nil ?_
    refine AW.reset 0 [(0, .d (.sl (a1.map SRatio.e))), (1, .d (.sl (a2.map SRatio.e))), (2, .d (.int .u8 a3)), (7, .d (.int .i64 v10.1)), (8, .d (.int .i64 v10.2)), (9, .d (.int .i64 v13.1)), (10, .d (.int .i64 v13.2)), (11, .d (.int .i64 v15.1)), (12, .d (.int .i64 v15.2))] [] (WOK.g0 hw0 (by simp)) ⟨[], rfl, rfl, rfl, ⟨(.d rfl), (.d rfl), (.d rfl), (.d rfl), (.d rfl), (.d rfl), (.d rfl), (.d rfl), (.d rfl), trivial⟩, trivial, .nil⟩ ?_
    refine AW.seqR ?_
    refine AL.s rfl (op_moveD (.e rfl)) ?_
    obtain ⟨v16, hv16, hm⟩ := bindE hm
    refine AL.s rfl (op_fn Try.call13 (.e rfl) (.cons (.r rfl) .nil) (m_law28_Own_ok hv16)) ?_
    obtain ⟨v17, hv17, hm⟩ := bindE hm
    refine AL.s rfl (op_fn Try.call14 (.e rfl) (.cons (.r rfl) .nil) (m_odds_Weight_ok hv17)) ?_
    refine AL.s rfl (op_moveD (.e rfl)) ?_
    refine AL.s rfl (op_extractD (.e rfl) rfl) ?_
    refine AL.s rfl (op_extractD (.e rfl) rfl) ?_
    refine AL.s rfl (op_assignD (.e rfl)) ?_
    refine AL.s rfl (op_assignD (.e rfl)) ?_
    refine AL.nil ?_
    refine AW.seq ?_
    refine AW.seqR ?_
    refine AL.s rfl (op_moveD (.e rfl)) ?_
    refine AL.s rfl (op_neq (.r rfl) (.r rfl)) ?_
    refine AL.s rfl (op_moveD (.e rfl)) ?_
    refine AL.sF rfl rfl rfl rfl (fun g => op_moveD (.e rfl)) ?_
    refine AL.sF rfl rfl rfl rfl (fun g => op_neq (.we (nt g) rfl rfl) (.r rfl)) ?_
    refine AL.s rfl (op_or (.r rfl) rfl (fun h => (.we (nt h) rfl rfl))) ?_
    refine AL.s rfl (op_moveD (.e rfl)) ?_
    refine AL.sF rfl rfl rfl rfl (fun g => op_moveD (.e rfl)) ?_
    refine AL.sF rfl rfl rfl rfl (fun g => op_neq (.we (nt g) rfl rfl) (.r rfl)) ?_
    refine AL.s rfl (op_or (.r rfl) rfl (fun h => (.we (nt h) rfl rfl))) ?_
    refine AL.s rfl (op_moveD (.e rfl)) ?_
    refine AL.sF rfl rfl rfl rfl (fun g => op_moveD (.e rfl)) ?_
    refine AL.sF rfl rfl rfl rfl (fun g => op_neq (.we (nt g) rfl rfl) (.r rfl)) ?_
    refine AL.s rfl (op_or (.r rfl) rfl (fun h => (.we (nt h) rfl rfl))) ?_
    refine AL.s rfl (op_moveD (.e rfl)) ?_
    refine AL.sF rfl rfl rfl rfl (fun g => op_moveD (.e rfl)) ?_
    refine AL.sF rfl rfl rfl rfl (fun g => op_moveD (.e rfl)) ?_
    refine AL.sF rfl rfl rfl rfl (fun g => op_negw (.we (nt g) rfl rfl)) ?_
    refine AL.sF rfl rfl rfl rfl (fun g => op_neq (.we (nt g) rfl rfl) (.we (nt g) rfl rfl)) ?_
    refine AL.s rfl (op_or (.r rfl) rfl (fun h => (.we (nt h) rfl rfl))) ?_
    refine AL.s rfl (op_moveD (.e rfl)) ?_
    refine AL.sF rfl rfl rfl rfl (fun g => op_moveD (.e rfl)) ?_
    refine AL.sF rfl rfl rfl rfl (fun g => op_eql (.we (nt g) rfl rfl) (.r rfl)) ?_
    refine AL.sF rfl rfl rfl rfl (fun g => op_moveD (.we (nt g) rfl)) ?_
    refine AL.sTT rfl rfl rfl rfl (fun gp g => op_moveD (.e rfl)) ?_
    refine AL.sTT rfl rfl rfl rfl (fun gp g => op_moveD (.e rfl)) ?_
    refine AL.sTT rfl rfl rfl rfl (fun gp g => op_neq (.we (an gp g) rfl rfl) (.we (an gp g) rfl rfl)) ?_
    refine AL.sF rfl rfl rfl rfl (fun g => op_and (.we (nt g) rfl rfl) (fun h => (.we (an (nt g) h) rfl rfl)) rfl) ?_
    refine AL.s rfl (op_or (.r rfl) rfl (fun h => (.we (nt h) rfl rfl))) ?_
    refine AL.s rfl (op_moveD (.e rfl)) ?_
    refine AL.sF rfl rfl rfl rfl (fun g => op_moveD (.e rfl)) ?_
    refine AL.sF rfl rfl rfl rfl (fun g => op_gtr (.we (nt g) rfl rfl) (.r rfl)) ?_
    refine AL.sF rfl rfl rfl rfl (fun g => op_moveD (.we (nt g) rfl)) ?_
    refine AL.sTT rfl rfl rfl rfl (fun gp g => op_moveD (.e rfl)) ?_
    refine AL.sTT rfl rfl rfl rfl (fun gp g => op_moveD (.e rfl)) ?_
    refine AL.sTT rfl rfl rfl rfl (fun gp g => op_lss (.we (an gp g) rfl rfl) (.we (an gp g) rfl rfl)) ?_
    refine AL.sF rfl rfl rfl rfl (fun g => op_and (.we (nt g) rfl rfl) (fun h => (.we (an (nt g) h) rfl rfl)) rfl) ?_
    refine AL.s rfl (op_or (.r rfl) rfl (fun h => (.we (nt h) rfl rfl))) ?_
    refine AL.nil ?_
    refine AW.cond (b := _) rfl (fun hc2 => ?_) (fun hc2 => ?_)
    · replace hm := iteT hc2 hm
      refine AW.seqR ?_
      refine AL.s rfl (op_assignD (.e rfl)) ?_
      refine AL.nil ?_
      refine AW.ret ?_
      refine tq_ret ?_
      obtain rfl := Option.some.inj hm
      exact EndQ.d (.tmp (.e rfl) .nil) rfl rfl
    · replace hm := iteF hc2 hm
      refine AW.skip ?_
      refine nq ?_
      refine AW.seqR ?_
      refine AL.s rfl (op_assignD (.e rfl)) ?_
      refine AL.nil ?_
      obtain ⟨t_j1, hm, hkj1⟩ := bindE hm
      refine AW.cutS (α := Int) 0 (fun x => x = t_j1) (fun x => [(0, .d (.sl (a1.map SRatio.e))), (2, .d (.int .u8 a3)), (11, .d (.int .i64 v15.1)), (15, .d (.int .i64 x))]) (fun x => []) (WOK.g0 hw0 (by simp)) ?_ ?_
      · skip
        refine AW.reset 0 [(0, .d (.sl (a1.map SRatio.e))), (2, .d (.int .u8 a3)), (11, .d (.int .i64 v15.1)), (15, .d (.int .i64 (0 : Int)))] [] (WOK.g0 hw0 (by simp)) ⟨[], rfl, rfl, rfl, ⟨(.d rfl), (.d rfl), (.d rfl), (.d rfl), trivial⟩, trivial, .nil⟩ ?_
        refine AW.seqR ?_
        refine AL.s rfl (op_moveD (.e rfl)) ?_
        refine AL.s rfl (op_lenM (f := SRatio.e) (.r rfl) sl22) ?_
        refine AL.s rfl (op_gtr (.r rfl) (.r rfl)) ?_
        refine AL.nil ?_
        refine AW.cond (b := _) rfl (fun hc3 => ?_) (fun hc3 => ?_)
        · replace hm := iteT hc3 hm
          refine AW.region ?_
          refine AL.s rfl (op_moveD (.e rfl)) ?_
          refine AL.s rfl (op_conv_int (.r rfl) ⟨_, Try.underlying5⟩ Try.underlying3) ?_
          refine AL.s rfl (op_moveD (.e rfl)) ?_
          refine AL.s rfl (op_lenM (f := SRatio.e) (.r rfl) sl22) ?_
          obtain ⟨v18, hv18, hm⟩ := bindE hm
          refine AL.s rfl (op_remM (.r rfl) (.r rfl) hv18) ?_
          refine AL.s rfl (op_assignD (.e rfl)) ?_
          refine AL.nil ?_
          obtain rfl := Option.some.inj hm
          exact nq ⟨_, rfl, ⟨[], rfl, rfl, rfl, ⟨(.d rfl), (.d rfl), (.d rfl), (.d rfl), trivial⟩, trivial, .nil⟩⟩
        · replace hm := iteF hc3 hm
          refine AW.skip ?_
          obtain rfl := Option.some.inj hm
          exact nq ⟨_, rfl, ⟨[], rfl, rfl, rfl, ⟨(.d rfl), (.d rfl), (.d rfl), (.d rfl), trivial⟩, trivial, .nil⟩⟩
      · rintro s19 rfl
        replace hm := hkj1
        try dsimp only at hm
        refine AW.free ?_
        refine AW.free ?_
        refine AW.free ?_
        refine AW.seqD [([], []), ([], []), ([], []), ([], [0]), ([], []), ([], []), ([], []), ([], []), ([0], [0, 1]), ([], [])] mo (by decide +kernel) ?_
        refine AD.s (ws := []) rfl rfl (fun H' _ hH => op_moveD (.e rfl)) ?_
        refine AD.s (ws := []) rfl rfl (fun H' _ hH => op_moveD (.e rfl)) ?_
        obtain ⟨v20, hv20, hm⟩ := bindE hm
        refine AD.s (ws := []) rfl rfl (fun H' _ hH => op_sliceM (f := SRatio.e) (.r rfl) sl22 (.r rfl) rfl enSRatio hv20) ?_
        obtain ⟨v21, hv21, hm⟩ := bindE hm
        refine AD.s (ws := [(0, _)]) rfl rfl (fun H' _ hH => op_callNew (res := 0) Try.call13 (.e rfl) (.cons (.r rfl) .nil) (m_law28_Own_f2_ok hv21) ((hH _ (by simp)).trans rfl)) ?_
        refine AD.s (ws := []) rfl rfl (fun H' _ hH => op_moveD (.e rfl)) ?_
        refine AD.s (ws := []) rfl rfl (fun H' _ hH => op_moveD (.e rfl)) ?_
        obtain ⟨v22, hv22, hm⟩ := bindE hm
        refine AD.s (ws := []) rfl rfl (fun H' _ hH => op_sliceM (f := SRatio.e) (.r rfl) sl22 rfl (.r rfl) enSRatio hv22) ?_
        obtain ⟨v23, hv23, hm⟩ := bindE hm
        refine AD.s (ws := []) rfl rfl (fun H' _ hH => op_fn Try.call13 (.e rfl) (.cons (.r rfl) .nil) (m_law28_Own_ok hv23)) ?_
        obtain ⟨v24, hv24, hm⟩ := bindE hm
        refine AD.s (ws := [(0, _), (1, _)]) rfl rfl (fun H' _ hH => op_appendHRD (res := 1) (f := SRatio.e) (l := v21) (l' := v23) sl30 (.e rfl) (.r rfl) ((hH _ (by simp)).trans rfl) rfl ((hH _ (by simp)).trans rfl) enSRatio hv24) ?_
        refine AD.s (ws := []) rfl rfl (fun H' _ hH => op_assignD (.e rfl)) ?_
        refine AD.nil ?_
        refine AW.seqR ?_
        refine AL.s rfl (op_moveD (.e rfl)) ?_
        refine AL.s rfl (op_conv_int (.r rfl) ⟨_, Try.underlying5⟩ Try.underlying3) ?_
        refine AL.s rfl (op_addw (.r rfl) (.r rfl)) ?_
        refine AL.s rfl (op_build bd49 (.cons (.e rfl) rfl rfl rfl rfl (Nat.le_of_ble_eq_true rfl) (.cons (.e rfl) rfl rfl rfl rfl (Nat.le_of_ble_eq_true rfl) .nil))) ?_
        refine AL.s rfl (op_alloc (n := 3) zr49 rfl) ?_
        refine AL.s rfl (op_storeA (.e rfl) (.e rfl) rfl rfl ⟨_, rfl, rfl⟩ rfl (Nat.le_of_ble_eq_true rfl)) ?_
        refine AL.nil ?_
        refine AW.free ?_
        refine AW.free ?_
        refine AW.seqD [([3], []), ([], []), ([], []), ([], [2]), ([], []), ([3], []), ([], []), ([3], []), ([], []), ([], []), ([2], [2]), ([], [])] mo (by decide +kernel) ?_
        refine AD.s (ws := []) rfl rfl (fun H' _ hH => op_load_ptrA (.e rfl) ((hH _ (by simp)).trans rfl) rfl rfl ag49) ?_
        refine AD.s (ws := []) rfl rfl (fun H' _ hH => op_buildSlice (ds := ([(⟨(IntKind.i64.wrap ((1 : Int) + (IntKind.i64.wrap a3))), (7 : Int)⟩ : SRatio)] : List SRatio).map SRatio.e) sl30 (.cons (.r rfl) rfl (enSRatio.one _) .nil) rfl (by decide)) ?_
        refine AD.s (ws := []) rfl rfl (fun H' _ hH => op_moveD (.e rfl)) ?_
        obtain ⟨v25, hv25, hm⟩ := bindE hm
        refine AD.s (ws := [(2, _)]) rfl rfl (fun H' _ hH => op_appendERM (res := 2) (f := SRatio.e) (l := ([(⟨(IntKind.i64.wrap ((1 : Int) + (IntKind.i64.wrap a3))), (7 : Int)⟩ : SRatio)] : List SRatio)) (l' := v24) sl30 (.e rfl) (.r rfl) ((hH _ (by simp)).trans rfl) enSRatio hv25) ?_
        refine AD.s (ws := []) rfl rfl (fun H' _ hH => op_field_ptr (.e rfl) fd49_1) ?_
        refine AD.s (ws := []) rfl rfl (fun H' _ hH => op_load_ptr1 (.e rfl) ((hH _ (by simp)).trans rfl) rfl sc3) ?_
        refine AD.s (ws := []) rfl rfl (fun H' _ hH => op_field_ptr (.e rfl) fd49_0) ?_
        refine AD.s (ws := []) rfl rfl (fun H' _ hH => op_load_ptr1 (.e rfl) ((hH _ (by simp)).trans rfl) rfl sc3) ?_
        refine AD.s (ws := []) rfl rfl (fun H' _ hH => op_build bd49 (.cons (.e rfl) rfl rfl rfl rfl (Nat.le_of_ble_eq_true rfl) (.cons (.e rfl) rfl rfl rfl rfl (Nat.le_of_ble_eq_true rfl) .nil))) ?_
        refine AD.s (ws := []) rfl rfl (fun H' _ hH => op_buildSlice (ds := ([(⟨(7 : Int), (IntKind.i64.wrap ((1 : Int) + (IntKind.i64.wrap a3)))⟩ : SRatio)] : List SRatio).map SRatio.e) sl30 (.cons (.r rfl) rfl (enSRatio.one _) .nil) rfl (by decide)) ?_
        obtain ⟨v26, hv26, hm⟩ := bindE hm
        refine AD.s (ws := [(2, _)]) rfl rfl (fun H' _ hH => op_appendM (f := SRatio.e) (l' := ([(⟨(7 : Int), (IntKind.i64.wrap ((1 : Int) + (IntKind.i64.wrap a3)))⟩ : SRatio)] : List SRatio)) sl30 (.e rfl) (.r rfl) ((hH _ (by simp)).trans rfl) rfl enSRatio hv26) ?_
        refine AD.s (ws := []) rfl rfl (fun H' _ hH => op_assignT (.e rfl)) ?_
        refine AD.nil ?_
        refine AW.seqR ?_
        refine AL.s rfl (op_moveD (.e rfl)) ?_
        obtain ⟨v27, hv27, hm⟩ := bindE hm
        refine AL.s rfl (op_fn Try.call13 (.e rfl) (.cons (.r rfl) .nil) (m_law28_Own_ok hv27)) ?_
        refine AL.s rfl (op_moveT (.e rfl)) ?_
        obtain ⟨v28, hv28, hm⟩ := bindE hm
        refine AL.s rfl (op_fn Try.call26 (.e rfl) (.cons (.r rfl) (.cons (.r rfl) .nil)) (m_odds_Compare_ok hv28)) ?_
        refine AL.s rfl (op_moveD (.e rfl)) ?_
        refine AL.s rfl (op_extractD (.e rfl) rfl) ?_
        refine AL.s rfl (op_extractD (.e rfl) rfl) ?_
        refine AL.s rfl (op_assignD (.e rfl)) ?_
        refine AL.s rfl (op_assignD (.e rfl)) ?_
        refine AL.nil ?_
        refine AW.seqR ?_
        refine AL.s rfl (op_moveT (.e rfl)) ?_
        obtain ⟨v29, hv29, hm⟩ := bindE hm
        refine AL.s rfl (op_fn Try.call14 (.e rfl) (.cons (.r rfl) .nil) (m_odds_Weight_ok hv29)) ?_
        refine AL.s rfl (op_moveD (.e rfl)) ?_
        refine AL.s rfl (op_extractD (.e rfl) rfl) ?_
        refine AL.s rfl (op_extractD (.e rfl) rfl) ?_
        refine AL.s rfl (op_assignD (.e rfl)) ?_
        refine AL.s rfl (op_assignD (.e rfl)) ?_
        refine AL.nil ?_
        refine AW.reset 0 [(11, .d (.int .i64 v15.1)), (18, .d (.int .i64 v28.1)), (19, .d (.int .i64 v28.2)), (20, .d (.int .i64 v29.1)), (21, .d (.int .i64 v29.2))] [.dead, .dead, .tok v26.length 49 2, .row [.d (.int .i64 (IntKind.i64.wrap ((1 : Int) + (IntKind.i64.wrap a3)))), .d (.int .i64 (7 : Int))], .dead, .dead] (WOK.g0 hw0 (by simp)) ⟨[0, 1, 2, 3, 4, 5], rfl, rfl, rfl, ⟨(.d rfl), (.d rfl), (.d rfl), (.d rfl), (.d rfl), trivial⟩, trivial, (.dead (.dead (.tok rfl (.row rfl (.cons (.d rfl) (.cons (.d rfl) .nil)) (.dead (.dead .nil))))))⟩ ?_
        refine AW.seqR ?_
        refine AL.s rfl (op_moveD (.e rfl)) ?_
        refine AL.s rfl (op_eql (.r rfl) (.r rfl)) ?_
        refine AL.s rfl (op_moveD (.e rfl)) ?_
        refine AL.sT rfl rfl rfl rfl (fun g => op_moveD (.e rfl)) ?_
        refine AL.sT rfl rfl rfl rfl (fun g => op_eql (.we g rfl rfl) (.r rfl)) ?_
        refine AL.s rfl (op_and (.r rfl) (fun h => (.we h rfl rfl)) rfl) ?_
        refine AL.s rfl (op_moveD (.e rfl)) ?_
        refine AL.sT rfl rfl rfl rfl (fun g => op_moveD (.e rfl)) ?_
        refine AL.sT rfl rfl rfl rfl (fun g => op_eql (.we g rfl rfl) (.r rfl)) ?_
        refine AL.s rfl (op_and (.r rfl) (fun h => (.we h rfl rfl)) rfl) ?_
        refine AL.s rfl (op_moveD (.e rfl)) ?_
        refine AL.sT rfl rfl rfl rfl (fun g => op_moveD (.e rfl)) ?_
        refine AL.sT rfl rfl rfl rfl (fun g => op_moveD (.e rfl)) ?_
        refine AL.sT rfl rfl rfl rfl (fun g => op_eql (.we g rfl rfl) (.we g rfl rfl)) ?_
        refine AL.s rfl (op_and (.r rfl) (fun h => (.we h rfl rfl)) rfl) ?_
        refine AL.s rfl (op_assignD (.e rfl)) ?_
        refine AL.nil ?_
        refine AW.ret ?_
        obtain rfl := Option.some.inj hm
        exact EndQ.d (.tmp (.e rfl) .nil) rfl rfl

end Go.Proofs.Ythopbnohgifehaa.Ab
