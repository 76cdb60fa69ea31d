/- The functions do what they are in plain Lean. Conditions: none. -/
import Derived.Test.YtlbiooppadlolaaGreatDoorOk
import Derived.Test.YtlbiooppadlolaaGreatDoorMi
import Derived.Test.YtlbiooppadlolaaGreatDoorFa
set_option maxRecDepth 100000
namespace Go.Proofs.YtlbiooppadlolaaGreatDoor.Ab
open Go
attribute [local irreducible] AL AD AW nlO nlV nlD

set_option maxHeartbeats 20000000 in
theorem m_ref35_ascending_ok {n : Nat} {a1 : (List Int)} {r : Bool} (hm : m_ref35_ascending n a1 = some r) : Fn Tryz.prog 24 [(.sl (a1.map D.i))] (.bool r) := by
  unfold m_ref35_ascending at hm
  refine Fn.of_AW (fnn := Tryz.f24) Tryz.func24 rfl (Nat.le_of_ble_eq_true rfl) (fun g0 w0 hw0 => ?_)
  refine AW.reset 0 [(0, .d (.sl (a1.map D.i)))] [] (WOK.g0 hw0 (by simp)) ⟨[], rfl, rfl, rfl, ⟨(.d rfl), trivial⟩, trivial, .nil⟩ ?_
  refine AW.seqR ?_
  refine AL.s rfl (op_assignD (.e rfl)) ?_
  refine AL.nil ?_
  refine AW.seq ?_
  refine AW.seqR ?_
  refine AL.s rfl (op_assignD (.e rfl)) ?_
  refine AL.nil ?_
  refine AW.block ?_
  obtain ⟨t_1, hI1, hk1⟩ := bindE hm
  refine AW.loopS (σ := Int) (τ := (Bool ⊕ Unit)) 0 (fun x => [(0, .d (.sl (a1.map D.i))), (3, .d (.int .i64 x))]) (fun x => []) hI1 (WOK.g0 hw0 (by simp)) ⟨[], rfl, rfl, rfl, ⟨(.d rfl), (.d rfl), trivial⟩, trivial, .nil⟩ ?_
  rintro n1 s2 hI1
  obtain ⟨y_1, hm, hI1⟩ := iterS hI1
  replace hm : m_ref35_ascending_L1 n _ s2 = some y_1 := hm
  unfold m_ref35_ascending_L1 at hm
  try dsimp only at hm
  refine AW.seq ?_
  refine AW.seqR ?_
  refine AL.s rfl (op_moveD (.e rfl)) ?_
  refine AL.s rfl (op_moveD (.e rfl)) ?_
  refine AL.s rfl (op_lenM (f := D.i) (.r rfl) sl25) ?_
  refine AL.s rfl (op_lss (.r rfl) (.r rfl)) ?_
  refine AL.nil ?_
  refine AW.cond (b := _) rfl (fun hc1 => ?_) (fun hc1 => ?_)
  · replace hm := iteT hc1 hm
    refine AW.skip ?_
    refine nq ?_
    refine AW.seq ?_
    refine AW.block ?_
    refine AW.seqD [([], []), ([], []), ([], []), ([], []), ([], []), ([], []), ([], []), ([], []), ([], []), ([], []), ([], []), ([], []), ([], []), ([], []), ([], []), ([], []), ([], []), ([], []), ([], []), ([], []), ([], []), ([], []), ([], []), ([], []), ([], []), ([], []), ([], []), ([], [])] mo (by decide +kernel) ?_
    refine AD.s (ws := []) rfl rfl (fun H' _ hH => op_moveD (.e rfl)) ?_
    refine AD.s (ws := []) rfl rfl (fun H' _ hH => op_moveD (.e rfl)) ?_
    obtain ⟨v3, hv3, hm⟩ := bindE hm
    refine AD.s (ws := []) rfl rfl (fun H' _ hH => op_indexAddrM (f := D.i) (.r rfl) (.r rfl) hv3 En.i sl25) ?_
    refine AD.s (ws := []) rfl rfl (fun H' _ hH => op_load_vp1 (.e rfl) rfl sc3) ?_
    refine AD.s (ws := []) rfl rfl (fun H' _ hH => op_lss (.r rfl) (.r rfl)) ?_
    refine AD.s (ws := []) rfl rfl (fun H' _ hH => op_moveD (.e rfl)) ?_
    refine AD.sF rfl rfl rfl rfl (fun g H' _ hH => op_moveD (.e rfl)) ?_
    refine AD.sF rfl rfl rfl rfl (fun g H' _ hH => op_moveD (.e rfl)) ?_
    obtain ⟨v4, hv4, hm⟩ := bindE hm
    refine AD.sF rfl rfl rfl rfl (fun g H' _ hH => op_indexAddrM (f := D.i) (.we (nt g) rfl rfl) (.we (nt g) rfl rfl) (iteT (nt g) hv4) En.i sl25) ?_
    refine AD.sF rfl rfl rfl rfl (fun g H' _ hH => op_load_vp1 (.we (nt g) rfl) rfl sc3) ?_
    refine AD.sF rfl rfl rfl rfl (fun g H' _ hH => op_gtr (.we (nt g) rfl rfl) (.r rfl)) ?_
    refine AD.s (ws := []) rfl rfl (fun H' _ hH => op_or (.r rfl) rfl (fun h => (.we (nt h) rfl rfl))) ?_
    refine AD.s (ws := []) rfl rfl (fun H' _ hH => op_moveD (.e rfl)) ?_
    refine AD.sF rfl rfl rfl rfl (fun g H' _ hH => op_moveD (.e rfl)) ?_
    refine AD.sF rfl rfl rfl rfl (fun g H' _ hH => op_gtr (.we (nt g) rfl rfl) (.r rfl)) ?_
    refine AD.sF rfl rfl rfl rfl (fun g H' _ hH => op_moveD (.we (nt g) rfl)) ?_
    refine AD.sTT rfl rfl rfl rfl (fun gp g H' _ hH => op_moveD (.e rfl)) ?_
    refine AD.sTT rfl rfl rfl rfl (fun gp g H' _ hH => op_moveD (.e rfl)) ?_
    refine AD.sTT rfl rfl rfl rfl (fun gp g H' _ hH => op_subw (.we (an gp g) rfl rfl) (.r rfl)) ?_
    obtain ⟨v5, hv5, hm⟩ := bindE hm
    refine AD.sTT rfl rfl rfl rfl (fun gp g H' _ hH => op_indexAddrM (f := D.i) (.we (an gp g) rfl rfl) (.we (an gp g) rfl rfl) (iteT (an gp g) hv5) En.i sl25) ?_
    refine AD.sTT rfl rfl rfl rfl (fun gp g H' _ hH => op_load_vp1 (.we (an gp g) rfl) rfl sc3) ?_
    refine AD.sTT rfl rfl rfl rfl (fun gp g H' _ hH => op_moveD (.e rfl)) ?_
    refine AD.sTT rfl rfl rfl rfl (fun gp g H' _ hH => op_moveD (.e rfl)) ?_
    obtain ⟨v6, hv6, hm⟩ := bindE hm
    refine AD.sTT rfl rfl rfl rfl (fun gp g H' _ hH => op_indexAddrM (f := D.i) (.we (an gp g) rfl rfl) (.we (an gp g) rfl rfl) (iteT (an gp g) hv6) En.i sl25) ?_
    refine AD.sTT rfl rfl rfl rfl (fun gp g H' _ hH => op_load_vp1 (.we (an gp g) rfl) rfl sc3) ?_
    refine AD.sTT rfl rfl rfl rfl (fun gp g H' _ hH => op_geq (.we (an gp g) rfl rfl) (.we (an gp g) rfl rfl)) ?_
    refine AD.sF rfl rfl rfl rfl (fun g H' _ hH => op_and (.we (nt g) rfl rfl) (fun h => (.we (an (nt g) h) rfl rfl)) rfl) ?_
    refine AD.s (ws := []) rfl rfl (fun H' _ hH => op_or (.r rfl) rfl (fun h => (.we (nt h) rfl rfl))) ?_
    refine AD.nil ?_
    refine AW.cond (b := _) rfl (fun hc2 => ?_) (fun hc2 => ?_)
    · replace hm := iteT hc2 hm
      refine AW.seqR ?_
      refine AL.s rfl (op_assignD (.e rfl)) ?_
      refine AL.nil ?_
      refine AW.ret ?_
      refine bq_ret ?_
      refine tq_ret ?_
      refine tq_ret ?_
      obtain rfl := Option.some.inj hm
      obtain rfl := Option.some.inj hI1
      replace hm := hk1
      try dsimp only at hm
      refine bq_ret ?_
      refine tq_ret ?_
      obtain rfl := Option.some.inj hm
      exact EndQ.d (.tmp (.e rfl) .nil) rfl rfl
    · replace hm := iteF hc2 hm
      refine AW.skip ?_
      refine bq_n ?_
      refine nq ?_
      refine AW.region ?_
      refine AL.s rfl (op_moveD (.e rfl)) ?_
      refine AL.s rfl (op_addw (.r rfl) (.r rfl)) ?_
      refine AL.s rfl (op_assignD (.e rfl)) ?_
      refine AL.nil ?_
      obtain rfl := Option.some.inj hm
      exact nq ⟨_, hI1, ⟨[], rfl, rfl, rfl, ⟨(.d rfl), (.d rfl), trivial⟩, trivial, .nil⟩⟩
  · replace hm := iteF hc1 hm
    refine AW.exit ?_
    refine tq_exit ?_
    refine tq_exit ?_
    obtain rfl := Option.some.inj hm
    obtain rfl := Option.some.inj hI1
    replace hm := hk1
    try dsimp only at hm
    refine bq_hit ?_
    refine nq ?_
    refine AW.seqR ?_
    refine AL.s rfl (op_moveD (.e rfl)) ?_
    refine AL.s rfl (op_lenM (f := D.i) (.r rfl) sl25) ?_
    refine AL.s rfl (op_gtr (.r rfl) (.r rfl)) ?_
    refine AL.s rfl (op_assignD (.e rfl)) ?_
    refine AL.nil ?_
    refine AW.ret ?_
    obtain rfl := Option.some.inj hm
    exact EndQ.d (.tmp (.e rfl) .nil) rfl rfl

set_option maxHeartbeats 20000000 in
theorem m_ref35_has_ok {n : Nat} {a1 : (List Int)} {a2 : Int} {r : Bool} (hm : m_ref35_has n a1 a2 = some r) : Fn Tryz.prog 21 [(.sl (a1.map D.i)), (.int .i64 a2)] (.bool r) := by
  unfold m_ref35_has at hm
  refine Fn.of_AW (fnn := Tryz.f21) Tryz.func21 rfl (Nat.le_of_ble_eq_true rfl) (fun g0 w0 hw0 => ?_)
  refine AW.reset 0 [(0, .d (.sl (a1.map D.i))), (1, .d (.int .i64 a2))] [] (WOK.g0 hw0 (by simp)) ⟨[], rfl, rfl, rfl, ⟨(.d rfl), (.d rfl), trivial⟩, trivial, .nil⟩ ?_
  refine AW.seqR ?_
  refine AL.s rfl (op_assignD (.e rfl)) ?_
  refine AL.nil ?_
  refine AW.seq ?_
  refine AW.seqR ?_
  refine AL.s rfl (op_assignD (.e rfl)) ?_
  refine AL.nil ?_
  refine AW.block ?_
  obtain ⟨t_1, hI1, hk1⟩ := bindE hm
  refine AW.loopS (σ := Int) (τ := (Bool ⊕ Unit)) 0 (fun x => [(0, .d (.sl (a1.map D.i))), (1, .d (.int .i64 a2)), (5, .d (.int .i64 x))]) (fun x => []) hI1 (WOK.g0 hw0 (by simp)) ⟨[], rfl, rfl, rfl, ⟨(.d rfl), (.d rfl), (.d rfl), trivial⟩, trivial, .nil⟩ ?_
  rintro n1 s3 hI1
  obtain ⟨y_1, hm, hI1⟩ := iterS hI1
  replace hm : m_ref35_has_L1 n _ _ s3 = some y_1 := hm
  unfold m_ref35_has_L1 at hm
  try dsimp only at hm
  refine AW.seq ?_
  refine AW.seqR ?_
  refine AL.s rfl (op_moveD (.e rfl)) ?_
  refine AL.s rfl (op_moveD (.e rfl)) ?_
  refine AL.s rfl (op_lenM (f := D.i) (.r rfl) sl25) ?_
  refine AL.s rfl (op_lss (.r rfl) (.r rfl)) ?_
  refine AL.nil ?_
  refine AW.cond (b := _) rfl (fun hc1 => ?_) (fun hc1 => ?_)
  · replace hm := iteT hc1 hm
    refine AW.skip ?_
    refine nq ?_
    refine AW.seq ?_
    refine AW.block ?_
    refine AW.seqR ?_
    refine AL.s rfl (op_moveD (.e rfl)) ?_
    refine AL.s rfl (op_moveD (.e rfl)) ?_
    obtain ⟨v4, hv4, hm⟩ := bindE hm
    refine AL.s rfl (op_indexAddrM (f := D.i) (.r rfl) (.r rfl) hv4 En.i sl25) ?_
    refine AL.s rfl (op_load_vp1 (.e rfl) rfl sc3) ?_
    refine AL.s rfl (op_moveD (.e rfl)) ?_
    refine AL.s rfl (op_eql (.r rfl) (.r rfl)) ?_
    refine AL.nil ?_
    refine AW.cond (b := _) rfl (fun hc2 => ?_) (fun hc2 => ?_)
    · replace hm := iteT hc2 hm
      refine AW.seqR ?_
      refine AL.s rfl (op_assignD (.e rfl)) ?_
      refine AL.nil ?_
      refine AW.ret ?_
      refine bq_ret ?_
      refine tq_ret ?_
      refine tq_ret ?_
      obtain rfl := Option.some.inj hm
      obtain rfl := Option.some.inj hI1
      replace hm := hk1
      try dsimp only at hm
      refine bq_ret ?_
      refine tq_ret ?_
      obtain rfl := Option.some.inj hm
      exact EndQ.d (.tmp (.e rfl) .nil) rfl rfl
    · replace hm := iteF hc2 hm
      refine AW.skip ?_
      refine bq_n ?_
      refine nq ?_
      refine AW.region ?_
      refine AL.s rfl (op_moveD (.e rfl)) ?_
      refine AL.s rfl (op_addw (.r rfl) (.r rfl)) ?_
      refine AL.s rfl (op_assignD (.e rfl)) ?_
      refine AL.nil ?_
      obtain rfl := Option.some.inj hm
      exact nq ⟨_, hI1, ⟨[], rfl, rfl, rfl, ⟨(.d rfl), (.d rfl), (.d rfl), trivial⟩, trivial, .nil⟩⟩
  · replace hm := iteF hc1 hm
    refine AW.exit ?_
    refine tq_exit ?_
    refine tq_exit ?_
    obtain rfl := Option.some.inj hm
    obtain rfl := Option.some.inj hI1
    replace hm := hk1
    try dsimp only at hm
    refine bq_hit ?_
    refine nq ?_
    refine AW.seqR ?_
    refine AL.s rfl (op_assignD (.e rfl)) ?_
    refine AL.nil ?_
    refine AW.ret ?_
    obtain rfl := Option.some.inj hm
    exact EndQ.d (.tmp (.e rfl) .nil) rfl rfl

set_option maxHeartbeats 20000000 in
theorem m_ref35_Valid_ok {n : Nat} {a1 : (List SWork)} {r : Bool} (hm : m_ref35_Valid n a1 = some r) : Fn Tryz.prog 14 [(.sl (a1.map SWork.e))] (.bool r) := by
  unfold m_ref35_Valid at hm
  refine Fn.of_AW (fnn := Tryz.f14) Tryz.func14 rfl (Nat.le_of_ble_eq_true rfl) (fun g0 w0 hw0 => ?_)
  refine AW.reset 0 [(0, .d (.sl (a1.map SWork.e)))] [] (WOK.g0 hw0 (by simp)) ⟨[], rfl, rfl, rfl, ⟨(.d rfl), trivial⟩, trivial, .nil⟩ ?_
  refine AW.seqR ?_
  refine AL.s rfl (op_assignD (.e rfl)) ?_
  refine AL.nil ?_
  refine AW.seqR ?_
  refine AL.s rfl (op_assignN (.e rfl)) ?_
  refine AL.nil ?_
  refine AW.seq ?_
  refine AW.seqR ?_
  refine AL.s rfl (op_assignD (.e rfl)) ?_
  refine AL.nil ?_
  refine AW.block ?_
  refine AW.tokenize (n := 0) 3 3 1 rfl rfl (by simp) ?_
  obtain ⟨t_1, hI1, hk1⟩ := bindE hm
  refine AW.loopS (σ := ((List Int) × Int)) (τ := (Bool ⊕ (List Int))) 0 (fun x => [(0, .d (.sl (a1.map SWork.e))), (3, .tk 0 (x.1.map D.i)), (4, .d (.int .i64 x.2))]) (fun x => [.tok x.1.length 3 1]) hI1 (WOK.g0 hw0 (by simp)) ⟨[0], rfl, rfl, rfl, ⟨(.d rfl), (.tk rfl), (.d rfl), trivial⟩, trivial, (.tok rfl .nil)⟩ ?_
  rintro n1 ⟨s2, s3⟩ hI1
  obtain ⟨y_1, hm, hI1⟩ := iterS hI1
  replace hm : m_ref35_Valid_L1 n _ s2 s3 = some y_1 := hm
  unfold m_ref35_Valid_L1 at hm
  try dsimp only at hm
  refine AW.seq ?_
  refine AW.seqR ?_
  refine AL.s rfl (op_moveD (.e rfl)) ?_
  refine AL.s rfl (op_moveD (.e rfl)) ?_
  refine AL.s rfl (op_lenM (f := SWork.e) (.r rfl) sl22) ?_
  refine AL.s rfl (op_lss (.r rfl) (.r rfl)) ?_
  refine AL.nil ?_
  refine AW.cond (b := _) rfl (fun hc1 => ?_) (fun hc1 => ?_)
  · replace hm := iteT hc1 hm
    refine AW.skip ?_
    refine nq ?_
    refine AW.seq ?_
    refine AW.block ?_
    refine AW.seq ?_
    refine AW.seqD [([], []), ([], []), ([], []), ([], []), ([], []), ([], []), ([], []), ([], []), ([], []), ([], []), ([], []), ([], []), ([], []), ([], []), ([], []), ([], []), ([], []), ([], []), ([], []), ([], []), ([], []), ([], []), ([], []), ([], []), ([], []), ([], []), ([], []), ([], []), ([], []), ([], []), ([], []), ([], []), ([], []), ([], []), ([], []), ([], []), ([], []), ([], []), ([], []), ([], [])] mo (by decide +kernel) ?_
    refine AD.s (ws := []) rfl rfl (fun H' _ hH => op_moveD (.e rfl)) ?_
    refine AD.s (ws := []) rfl rfl (fun H' _ hH => op_moveD (.e rfl)) ?_
    obtain ⟨v4, hv4, hm⟩ := bindE hm
    refine AD.s (ws := []) rfl rfl (fun H' _ hH => op_indexAddrM (f := SWork.e) (.r rfl) (.r rfl) hv4 enSWork sl22) ?_
    refine AD.s (ws := []) rfl rfl (fun H' _ hH => op_field_vp (.e rfl) fd33_1) ?_
    refine AD.s (ws := []) rfl rfl (fun H' _ hH => op_load_vp1 (.e rfl) rfl sc25) ?_
    obtain ⟨v5, hv5, hm⟩ := bindE hm
    refine AD.s (ws := []) rfl rfl (fun H' _ hH => op_fn Tryz.call24 (.e rfl) (.cons (.r rfl) .nil) (m_ref35_ascending_ok hv5)) ?_
    refine AD.s (ws := []) rfl rfl (fun H' _ hH => op_not (.r rfl)) ?_
    refine AD.s (ws := []) rfl rfl (fun H' _ hH => op_moveD (.e rfl)) ?_
    refine AD.sF rfl rfl rfl rfl (fun g H' _ hH => op_moveD (.e rfl)) ?_
    refine AD.sF rfl rfl rfl rfl (fun g H' _ hH => op_moveD (.e rfl)) ?_
    obtain ⟨v6, hv6, hm⟩ := bindE hm
    refine AD.sF rfl rfl rfl rfl (fun g H' _ hH => op_indexAddrM (f := SWork.e) (.we (nt g) rfl rfl) (.we (nt g) rfl rfl) (iteT (nt g) hv6) enSWork sl22) ?_
    refine AD.sF rfl rfl rfl rfl (fun g H' _ hH => op_field_vp (.we (nt g) rfl) fd33_0) ?_
    refine AD.sF rfl rfl rfl rfl (fun g H' _ hH => op_load_vp1 (.we (nt g) rfl) rfl sc3) ?_
    refine AD.sF rfl rfl rfl rfl (fun g H' _ hH => op_moveD (.e rfl)) ?_
    refine AD.sF rfl rfl rfl rfl (fun g H' _ hH => op_moveD (.e rfl)) ?_
    obtain ⟨v7, hv7, hm⟩ := bindE hm
    refine AD.sF rfl rfl rfl rfl (fun g H' _ hH => op_indexAddrM (f := SWork.e) (.we (nt g) rfl rfl) (.we (nt g) rfl rfl) (iteT (nt g) hv7) enSWork sl22) ?_
    refine AD.sF rfl rfl rfl rfl (fun g H' _ hH => op_field_vp (.we (nt g) rfl) fd33_1) ?_
    refine AD.sF rfl rfl rfl rfl (fun g H' _ hH => op_load_vp1 (.we (nt g) rfl) rfl sc25) ?_
    obtain ⟨v8, hv8, hm⟩ := bindE hm
    refine AD.sF rfl rfl rfl rfl (fun g H' _ hH => op_indexAddrM (f := D.i) (.we (nt g) rfl rfl) (.r rfl) (iteT (nt g) hv8) En.i sl25) ?_
    refine AD.sF rfl rfl rfl rfl (fun g H' _ hH => op_load_vp1 (.we (nt g) rfl) rfl sc3) ?_
    refine AD.sF rfl rfl rfl rfl (fun g H' _ hH => op_neq (.we (nt g) rfl rfl) (.we (nt g) rfl rfl)) ?_
    refine AD.s (ws := []) rfl rfl (fun H' _ hH => op_or (.r rfl) rfl (fun h => (.we (nt h) rfl rfl))) ?_
    refine AD.s (ws := []) rfl rfl (fun H' _ hH => op_moveD (.e rfl)) ?_
    refine AD.sF rfl rfl rfl rfl (fun g H' _ hH => op_moveD (.e rfl)) ?_
    refine AD.sF rfl rfl rfl rfl (fun g H' _ hH => op_gtr (.we (nt g) rfl rfl) (.r rfl)) ?_
    refine AD.sF rfl rfl rfl rfl (fun g H' _ hH => op_moveD (.we (nt g) rfl)) ?_
    refine AD.sTT rfl rfl rfl rfl (fun gp g H' _ hH => op_moveD (.e rfl)) ?_
    refine AD.sTT rfl rfl rfl rfl (fun gp g H' _ hH => op_moveD (.e rfl)) ?_
    refine AD.sTT rfl rfl rfl rfl (fun gp g H' _ hH => op_subw (.we (an gp g) rfl rfl) (.r rfl)) ?_
    obtain ⟨v9, hv9, hm⟩ := bindE hm
    refine AD.sTT rfl rfl rfl rfl (fun gp g H' _ hH => op_indexAddrM (f := SWork.e) (.we (an gp g) rfl rfl) (.we (an gp g) rfl rfl) (iteT (an gp g) hv9) enSWork sl22) ?_
    refine AD.sTT rfl rfl rfl rfl (fun gp g H' _ hH => op_field_vp (.we (an gp g) rfl) fd33_0) ?_
    refine AD.sTT rfl rfl rfl rfl (fun gp g H' _ hH => op_load_vp1 (.we (an gp g) rfl) rfl sc3) ?_
    refine AD.sTT rfl rfl rfl rfl (fun gp g H' _ hH => op_moveD (.e rfl)) ?_
    refine AD.sTT rfl rfl rfl rfl (fun gp g H' _ hH => op_moveD (.e rfl)) ?_
    obtain ⟨v10, hv10, hm⟩ := bindE hm
    refine AD.sTT rfl rfl rfl rfl (fun gp g H' _ hH => op_indexAddrM (f := SWork.e) (.we (an gp g) rfl rfl) (.we (an gp g) rfl rfl) (iteT (an gp g) hv10) enSWork sl22) ?_
    refine AD.sTT rfl rfl rfl rfl (fun gp g H' _ hH => op_field_vp (.we (an gp g) rfl) fd33_0) ?_
    refine AD.sTT rfl rfl rfl rfl (fun gp g H' _ hH => op_load_vp1 (.we (an gp g) rfl) rfl sc3) ?_
    refine AD.sTT rfl rfl rfl rfl (fun gp g H' _ hH => op_geq (.we (an gp g) rfl rfl) (.we (an gp g) rfl rfl)) ?_
    refine AD.sF rfl rfl rfl rfl (fun g H' _ hH => op_and (.we (nt g) rfl rfl) (fun h => (.we (an (nt g) h) rfl rfl)) rfl) ?_
    refine AD.s (ws := []) rfl rfl (fun H' _ hH => op_or (.r rfl) rfl (fun h => (.we (nt h) rfl rfl))) ?_
    refine AD.nil ?_
    refine AW.cond (b := _) rfl (fun hc2 => ?_) (fun hc2 => ?_)
    · replace hm := iteT hc2 hm
      refine AW.reset 0 [] [.tok s2.length 3 1] (WOK.g0 hw0 (by simp)) ⟨[0], rfl, rfl, rfl, trivial, trivial, (.tok rfl .nil)⟩ ?_
      refine AW.seqR ?_
      refine AL.s rfl (op_assignD (.e rfl)) ?_
      refine AL.nil ?_
      refine AW.ret ?_
      refine tq_ret ?_
      refine bq_ret ?_
      refine tq_ret ?_
      refine tq_ret ?_
      obtain rfl := Option.some.inj hm
      obtain rfl := Option.some.inj hI1
      replace hm := hk1
      try dsimp only at hm
      refine bq_ret ?_
      refine tq_ret ?_
      obtain rfl := Option.some.inj hm
      exact EndQ.d (.tmp (.e rfl) .nil) rfl rfl
    · replace hm := iteF hc2 hm
      refine AW.skip ?_
      refine nq ?_
      refine AW.seq ?_
      refine AW.seqR ?_
      refine AL.s rfl (op_assignD (.e rfl)) ?_
      refine AL.nil ?_
      refine AW.block ?_
      obtain ⟨t_2, hI2, hk2⟩ := bindE hm
      refine AW.loopS (σ := ((List Int) × Int)) (τ := (Bool ⊕ (List Int))) 0 (fun x => [(0, .d (.sl (a1.map SWork.e))), (3, .tk 0 (x.1.map D.i)), (4, .d (.int .i64 s3)), (5, .d (.int .i64 x.2))]) (fun x => [.tok x.1.length 3 1]) hI2 (WOK.g0 hw0 (by simp)) ⟨[0], rfl, rfl, rfl, ⟨(.d rfl), (.tk rfl), (.d rfl), (.d rfl), trivial⟩, trivial, (.tok rfl .nil)⟩ ?_
      rintro n2 ⟨s11, s12⟩ hI2
      obtain ⟨y_2, hm, hI2⟩ := iterS hI2
      replace hm : m_ref35_Valid_L2 n _ _ s11 s12 = some y_2 := hm
      unfold m_ref35_Valid_L2 at hm
      try dsimp only at hm
      refine AW.seq ?_
      refine AW.seqR ?_
      refine AL.s rfl (op_moveD (.e rfl)) ?_
      refine AL.s rfl (op_moveD (.e rfl)) ?_
      refine AL.s rfl (op_moveD (.e rfl)) ?_
      obtain ⟨v13, hv13, hm⟩ := bindE hm
      refine AL.s rfl (op_indexAddrM (f := SWork.e) (.r rfl) (.r rfl) hv13 enSWork sl22) ?_
      refine AL.s rfl (op_field_vp (.e rfl) fd33_1) ?_
      refine AL.s rfl (op_load_vp1 (.e rfl) rfl sc25) ?_
      refine AL.s rfl (op_lenM (f := D.i) (.r rfl) sl25) ?_
      refine AL.s rfl (op_lss (.r rfl) (.r rfl)) ?_
      refine AL.nil ?_
      refine AW.cond (b := _) rfl (fun hc3 => ?_) (fun hc3 => ?_)
      · replace hm := iteT hc3 hm
        refine AW.skip ?_
        refine nq ?_
        refine AW.seq ?_
        refine AW.block ?_
        refine AW.seq ?_
        refine AW.seqR ?_
        refine AL.s rfl (op_moveT (.e rfl)) ?_
        refine AL.s rfl (op_moveD (.e rfl)) ?_
        refine AL.s rfl (op_moveD (.e rfl)) ?_
        obtain ⟨v14, hv14, hm⟩ := bindE hm
        refine AL.s rfl (op_indexAddrM (f := SWork.e) (.r rfl) (.r rfl) hv14 enSWork sl22) ?_
        refine AL.s rfl (op_field_vp (.e rfl) fd33_1) ?_
        refine AL.s rfl (op_load_vp1 (.e rfl) rfl sc25) ?_
        refine AL.s rfl (op_moveD (.e rfl)) ?_
        obtain ⟨v15, hv15, hm⟩ := bindE hm
        refine AL.s rfl (op_indexAddrM (f := D.i) (.r rfl) (.r rfl) hv15 En.i sl25) ?_
        refine AL.s rfl (op_load_vp1 (.e rfl) rfl sc3) ?_
        obtain ⟨v16, hv16, hm⟩ := bindE hm
        refine AL.s rfl (op_fn Tryz.call21 (.e rfl) (.cons (.r rfl) (.cons (.r rfl) .nil)) (m_ref35_has_ok hv16)) ?_
        refine AL.nil ?_
        refine AW.cond (b := _) rfl (fun hc4 => ?_) (fun hc4 => ?_)
        · replace hm := iteT hc4 hm
          refine AW.seqR ?_
          refine AL.s rfl (op_assignD (.e rfl)) ?_
          refine AL.nil ?_
          refine AW.ret ?_
          refine tq_ret ?_
          refine bq_ret ?_
          refine tq_ret ?_
          refine tq_ret ?_
          obtain rfl := Option.some.inj hm
          obtain rfl := Option.some.inj hI2
          replace hm := hk2
          try dsimp only at hm
          refine bq_ret ?_
          refine tq_ret ?_
          refine bq_ret ?_
          refine tq_ret ?_
          refine tq_ret ?_
          obtain rfl := Option.some.inj hm
          obtain rfl := Option.some.inj hI1
          replace hm := hk1
          try dsimp only at hm
          refine bq_ret ?_
          refine tq_ret ?_
          obtain rfl := Option.some.inj hm
          exact EndQ.d (.tmp (.e rfl) .nil) rfl rfl
        · replace hm := iteF hc4 hm
          refine AW.skip ?_
          refine nq ?_
          refine AW.region ?_
          refine AL.s rfl (op_moveT (.e rfl)) ?_
          refine AL.s rfl (op_moveD (.e rfl)) ?_
          refine AL.s rfl (op_moveD (.e rfl)) ?_
          obtain ⟨v17, hv17, hm⟩ := bindE hm
          refine AL.s rfl (op_indexAddrM (f := SWork.e) (.r rfl) (.r rfl) hv17 enSWork sl22) ?_
          refine AL.s rfl (op_field_vp (.e rfl) fd33_1) ?_
          refine AL.s rfl (op_load_vp1 (.e rfl) rfl sc25) ?_
          refine AL.s rfl (op_moveD (.e rfl)) ?_
          obtain ⟨v18, hv18, hm⟩ := bindE hm
          refine AL.s rfl (op_indexAddrM (f := D.i) (.r rfl) (.r rfl) hv18 En.i sl25) ?_
          refine AL.s rfl (op_load_vp1 (.e rfl) rfl sc3) ?_
          refine AL.s rfl (op_buildSlice (ds := ([v18] : List Int).map D.i) sl25 (.cons (.r rfl) rfl (En.i.one _) .nil) rfl (by decide)) ?_
          obtain ⟨v19, hv19, hm⟩ := bindE hm
          refine AL.s rfl (op_appendM (f := D.i) (l' := ([v18] : List Int)) sl25 (.e rfl) (.r rfl) rfl rfl En.i hv19) ?_
          refine AL.s rfl (op_assignT (.e rfl)) ?_
          refine AL.nil ?_
          refine bq_n ?_
          refine nq ?_
          refine AW.region ?_
          refine AL.s rfl (op_moveD (.e rfl)) ?_
          refine AL.s rfl (op_addw (.r rfl) (.r rfl)) ?_
          refine AL.s rfl (op_assignD (.e rfl)) ?_
          refine AL.nil ?_
          obtain rfl := Option.some.inj hm
          exact nq ⟨_, hI2, ⟨[0], rfl, rfl, rfl, ⟨(.d rfl), (.tk rfl), (.d rfl), (.d rfl), trivial⟩, trivial, (.tok rfl .nil)⟩⟩
      · replace hm := iteF hc3 hm
        refine AW.exit ?_
        refine tq_exit ?_
        refine tq_exit ?_
        obtain rfl := Option.some.inj hm
        obtain rfl := Option.some.inj hI2
        replace hm := hk2
        try dsimp only at hm
        refine bq_hit ?_
        refine nq ?_
        refine AW.seqR ?_
        refine AL.s rfl (op_assignN (.e rfl)) ?_
        refine AL.nil ?_
        refine AW.seq ?_
        refine AW.seqR ?_
        refine AL.s rfl (op_assignD (.e rfl)) ?_
        refine AL.nil ?_
        refine AW.block ?_
        refine AW.tokenize (n := 1) 6 3 1 rfl rfl (by simp) ?_
        obtain ⟨t_3, hI3, hk3⟩ := bindE hm
        refine AW.loopS (σ := ((List Int) × Int)) (τ := (Bool ⊕ (List Int))) 0 (fun x => [(0, .d (.sl (a1.map SWork.e))), (3, .tk 0 (s11.map D.i)), (4, .d (.int .i64 s3)), (6, .tk 1 (x.1.map D.i)), (7, .d (.int .i64 x.2))]) (fun x => [.tok s11.length 3 1, .tok x.1.length 3 1]) hI3 (WOK.g0 hw0 (by simp)) ⟨[0, 1], rfl, rfl, rfl, ⟨(.d rfl), (.tk rfl), (.d rfl), (.tk rfl), (.d rfl), trivial⟩, trivial, (.tok rfl (.tok rfl .nil))⟩ ?_
        rintro n3 ⟨s20, s21⟩ hI3
        obtain ⟨y_3, hm, hI3⟩ := iterS hI3
        replace hm : m_ref35_Valid_L3 n _ _ s20 s21 = some y_3 := hm
        unfold m_ref35_Valid_L3 at hm
        try dsimp only at hm
        refine AW.seq ?_
        refine AW.seqR ?_
        refine AL.s rfl (op_moveD (.e rfl)) ?_
        refine AL.s rfl (op_moveD (.e rfl)) ?_
        refine AL.s rfl (op_moveD (.e rfl)) ?_
        obtain ⟨v22, hv22, hm⟩ := bindE hm
        refine AL.s rfl (op_indexAddrM (f := SWork.e) (.r rfl) (.r rfl) hv22 enSWork sl22) ?_
        refine AL.s rfl (op_field_vp (.e rfl) fd33_2) ?_
        refine AL.s rfl (op_load_vp1 (.e rfl) rfl sc26) ?_
        refine AL.s rfl (op_lenM (f := (esl D.i)) (.r rfl) sl26) ?_
        refine AL.s rfl (op_lss (.r rfl) (.r rfl)) ?_
        refine AL.nil ?_
        refine AW.cond (b := _) rfl (fun hc5 => ?_) (fun hc5 => ?_)
        · replace hm := iteT hc5 hm
          refine AW.skip ?_
          refine nq ?_
          refine AW.seq ?_
          refine AW.block ?_
          refine AW.seqR ?_
          refine AL.s rfl (op_moveD (.e rfl)) ?_
          refine AL.s rfl (op_moveD (.e rfl)) ?_
          obtain ⟨v23, hv23, hm⟩ := bindE hm
          refine AL.s rfl (op_indexAddrM (f := SWork.e) (.r rfl) (.r rfl) hv23 enSWork sl22) ?_
          refine AL.s rfl (op_field_vp (.e rfl) fd33_2) ?_
          refine AL.s rfl (op_load_vp1 (.e rfl) rfl sc26) ?_
          refine AL.s rfl (op_moveD (.e rfl)) ?_
          obtain ⟨v24, hv24, hm⟩ := bindE hm
          refine AL.s rfl (op_indexAddrM (f := (esl D.i)) (.r rfl) (.r rfl) hv24 En.sl sl26) ?_
          refine AL.s rfl (op_load_vp1 (.e rfl) rfl sc25) ?_
          refine AL.s rfl (op_assignD (.e rfl)) ?_
          refine AL.nil ?_
          refine AW.seq ?_
          refine AW.seqD [([], []), ([], []), ([], []), ([], []), ([], []), ([], []), ([], []), ([], []), ([], []), ([], []), ([], []), ([], []), ([], []), ([], []), ([], []), ([], []), ([], []), ([], []), ([], []), ([], []), ([], []), ([], []), ([], []), ([], [])] mo (by decide +kernel) ?_
          refine AD.s (ws := []) rfl rfl (fun H' _ hH => op_moveD (.e rfl)) ?_
          obtain ⟨v25, hv25, hm⟩ := bindE hm
          refine AD.s (ws := []) rfl rfl (fun H' _ hH => op_fn Tryz.call24 (.e rfl) (.cons (.r rfl) .nil) (m_ref35_ascending_ok hv25)) ?_
          refine AD.s (ws := []) rfl rfl (fun H' _ hH => op_not (.r rfl)) ?_
          refine AD.s (ws := []) rfl rfl (fun H' _ hH => op_moveD (.e rfl)) ?_
          refine AD.sF rfl rfl rfl rfl (fun g H' _ hH => op_moveD (.e rfl)) ?_
          refine AD.sF rfl rfl rfl rfl (fun g H' _ hH => op_gtr (.we (nt g) rfl rfl) (.r rfl)) ?_
          refine AD.sF rfl rfl rfl rfl (fun g H' _ hH => op_moveD (.we (nt g) rfl)) ?_
          refine AD.sTT rfl rfl rfl rfl (fun gp g H' _ hH => op_moveD (.e rfl)) ?_
          refine AD.sTT rfl rfl rfl rfl (fun gp g H' _ hH => op_moveD (.e rfl)) ?_
          obtain ⟨v26, hv26, hm⟩ := bindE hm
          refine AD.sTT rfl rfl rfl rfl (fun gp g H' _ hH => op_indexAddrM (f := SWork.e) (.we (an gp g) rfl rfl) (.we (an gp g) rfl rfl) (iteT (an gp g) hv26) enSWork sl22) ?_
          refine AD.sTT rfl rfl rfl rfl (fun gp g H' _ hH => op_field_vp (.we (an gp g) rfl) fd33_2) ?_
          refine AD.sTT rfl rfl rfl rfl (fun gp g H' _ hH => op_load_vp1 (.we (an gp g) rfl) rfl sc26) ?_
          refine AD.sTT rfl rfl rfl rfl (fun gp g H' _ hH => op_moveD (.e rfl)) ?_
          refine AD.sTT rfl rfl rfl rfl (fun gp g H' _ hH => op_subw (.we (an gp g) rfl rfl) (.r rfl)) ?_
          obtain ⟨v27, hv27, hm⟩ := bindE hm
          refine AD.sTT rfl rfl rfl rfl (fun gp g H' _ hH => op_indexAddrM (f := (esl D.i)) (.we (an gp g) rfl rfl) (.we (an gp g) rfl rfl) (iteT (an gp g) hv27) En.sl sl26) ?_
          refine AD.sTT rfl rfl rfl rfl (fun gp g H' _ hH => op_load_vp1 (.we (an gp g) rfl) rfl sc25) ?_
          obtain ⟨v28, hv28, hm⟩ := bindE hm
          refine AD.sTT rfl rfl rfl rfl (fun gp g H' _ hH => op_indexAddrM (f := D.i) (.we (an gp g) rfl rfl) (.r rfl) (iteT (an gp g) hv28) En.i sl25) ?_
          refine AD.sTT rfl rfl rfl rfl (fun gp g H' _ hH => op_load_vp1 (.we (an gp g) rfl) rfl sc3) ?_
          refine AD.sTT rfl rfl rfl rfl (fun gp g H' _ hH => op_moveD (.e rfl)) ?_
          obtain ⟨v29, hv29, hm⟩ := bindE hm
          refine AD.sTT rfl rfl rfl rfl (fun gp g H' _ hH => op_indexAddrM (f := D.i) (.we (an gp g) rfl rfl) (.r rfl) (iteT (an gp g) hv29) En.i sl25) ?_
          refine AD.sTT rfl rfl rfl rfl (fun gp g H' _ hH => op_load_vp1 (.we (an gp g) rfl) rfl sc3) ?_
          refine AD.sTT rfl rfl rfl rfl (fun gp g H' _ hH => op_geq (.we (an gp g) rfl rfl) (.we (an gp g) rfl rfl)) ?_
          refine AD.sF rfl rfl rfl rfl (fun g H' _ hH => op_and (.we (nt g) rfl rfl) (fun h => (.we (an (nt g) h) rfl rfl)) rfl) ?_
          refine AD.s (ws := []) rfl rfl (fun H' _ hH => op_or (.r rfl) rfl (fun h => (.we (nt h) rfl rfl))) ?_
          refine AD.nil ?_
          refine AW.cond (b := _) rfl (fun hc6 => ?_) (fun hc6 => ?_)
          · replace hm := iteT hc6 hm
            refine AW.reset 0 [] [.tok s11.length 3 1, .tok s20.length 3 1] (WOK.g0 hw0 (by simp)) ⟨[0, 1], rfl, rfl, rfl, trivial, trivial, (.tok rfl (.tok rfl .nil))⟩ ?_
            refine AW.seqR ?_
            refine AL.s rfl (op_assignD (.e rfl)) ?_
            refine AL.nil ?_
            refine AW.ret ?_
            refine tq_ret ?_
            refine bq_ret ?_
            refine tq_ret ?_
            refine tq_ret ?_
            obtain rfl := Option.some.inj hm
            obtain rfl := Option.some.inj hI3
            replace hm := hk3
            try dsimp only at hm
            refine bq_ret ?_
            refine tq_ret ?_
            refine bq_ret ?_
            refine tq_ret ?_
            refine tq_ret ?_
            obtain rfl := Option.some.inj hm
            obtain rfl := Option.some.inj hI1
            replace hm := hk1
            try dsimp only at hm
            refine bq_ret ?_
            refine tq_ret ?_
            obtain rfl := Option.some.inj hm
            exact EndQ.d (.tmp (.e rfl) .nil) rfl rfl
          · replace hm := iteF hc6 hm
            refine AW.skip ?_
            refine nq ?_
            refine AW.seqR ?_
            refine AL.s rfl (op_assignD (.e rfl)) ?_
            refine AL.nil ?_
            refine AW.block ?_
            obtain ⟨t_4, hI4, hk4⟩ := bindE hm
            refine AW.loopS (σ := ((List Int) × Int)) (τ := (Bool ⊕ (List Int))) 0 (fun x => [(0, .d (.sl (a1.map SWork.e))), (3, .tk 0 (s11.map D.i)), (4, .d (.int .i64 s3)), (6, .tk 1 (x.1.map D.i)), (7, .d (.int .i64 s21)), (8, .d (.sl (v24.map D.i))), (9, .d (.int .i64 x.2))]) (fun x => [.tok s11.length 3 1, .tok x.1.length 3 1]) hI4 (WOK.g0 hw0 (by simp)) ⟨[0, 1], rfl, rfl, rfl, ⟨(.d rfl), (.tk rfl), (.d rfl), (.tk rfl), (.d rfl), (.d rfl), (.d rfl), trivial⟩, trivial, (.tok rfl (.tok rfl .nil))⟩ ?_
            rintro n4 ⟨s30, s31⟩ hI4
            obtain ⟨y_4, hm, hI4⟩ := iterS hI4
            replace hm : m_ref35_Valid_L4 n _ _ _ s30 s31 = some y_4 := hm
            unfold m_ref35_Valid_L4 at hm
            try dsimp only at hm
            refine AW.seq ?_
            refine AW.seqR ?_
            refine AL.s rfl (op_moveD (.e rfl)) ?_
            refine AL.s rfl (op_moveD (.e rfl)) ?_
            refine AL.s rfl (op_lenM (f := D.i) (.r rfl) sl25) ?_
            refine AL.s rfl (op_lss (.r rfl) (.r rfl)) ?_
            refine AL.nil ?_
            refine AW.cond (b := _) rfl (fun hc7 => ?_) (fun hc7 => ?_)
            · replace hm := iteT hc7 hm
              refine AW.skip ?_
              refine nq ?_
              refine AW.seq ?_
              refine AW.block ?_
              refine AW.seq ?_
              refine AW.seqD [([], []), ([], []), ([], []), ([], []), ([], []), ([], []), ([], []), ([], []), ([], []), ([], []), ([], []), ([], []), ([], []), ([], []), ([], []), ([], []), ([], []), ([], []), ([], [])] mo (by decide +kernel) ?_
              refine AD.s (ws := []) rfl rfl (fun H' _ hH => op_moveT (.e rfl)) ?_
              refine AD.s (ws := []) rfl rfl (fun H' _ hH => op_moveD (.e rfl)) ?_
              refine AD.s (ws := []) rfl rfl (fun H' _ hH => op_moveD (.e rfl)) ?_
              obtain ⟨v32, hv32, hm⟩ := bindE hm
              refine AD.s (ws := []) rfl rfl (fun H' _ hH => op_indexAddrM (f := D.i) (.r rfl) (.r rfl) hv32 En.i sl25) ?_
              refine AD.s (ws := []) rfl rfl (fun H' _ hH => op_load_vp1 (.e rfl) rfl sc3) ?_
              obtain ⟨v33, hv33, hm⟩ := bindE hm
              refine AD.s (ws := []) rfl rfl (fun H' _ hH => op_fn Tryz.call21 (.e rfl) (.cons (.r rfl) (.cons (.r rfl) .nil)) (m_ref35_has_ok hv33)) ?_
              refine AD.s (ws := []) rfl rfl (fun H' _ hH => op_moveD (.e rfl)) ?_
              refine AD.sF rfl rfl rfl rfl (fun g H' _ hH => op_moveD (.e rfl)) ?_
              refine AD.sF rfl rfl rfl rfl (fun g H' _ hH => op_moveD (.e rfl)) ?_
              obtain ⟨v34, hv34, hm⟩ := bindE hm
              refine AD.sF rfl rfl rfl rfl (fun g H' _ hH => op_indexAddrM (f := SWork.e) (.we (nt g) rfl rfl) (.we (nt g) rfl rfl) (iteT (nt g) hv34) enSWork sl22) ?_
              refine AD.sF rfl rfl rfl rfl (fun g H' _ hH => op_field_vp (.we (nt g) rfl) fd33_1) ?_
              refine AD.sF rfl rfl rfl rfl (fun g H' _ hH => op_load_vp1 (.we (nt g) rfl) rfl sc25) ?_
              refine AD.sF rfl rfl rfl rfl (fun g H' _ hH => op_moveD (.e rfl)) ?_
              refine AD.sF rfl rfl rfl rfl (fun g H' _ hH => op_moveD (.e rfl)) ?_
              obtain ⟨v35, hv35, hm⟩ := bindE hm
              refine AD.sF rfl rfl rfl rfl (fun g H' _ hH => op_indexAddrM (f := D.i) (.we (nt g) rfl rfl) (.we (nt g) rfl rfl) (iteT (nt g) hv35) En.i sl25) ?_
              refine AD.sF rfl rfl rfl rfl (fun g H' _ hH => op_load_vp1 (.we (nt g) rfl) rfl sc3) ?_
              obtain ⟨v36, hv36, hm⟩ := bindE hm
              refine AD.sF rfl rfl rfl rfl (fun g H' _ hH => op_fn Tryz.call21 (.e rfl) (.cons (.we (nt g) rfl rfl) (.cons (.we (nt g) rfl rfl) .nil)) (m_ref35_has_ok (iteT (nt g) hv36))) ?_
              refine AD.sF rfl rfl rfl rfl (fun g H' _ hH => op_not (.we (nt g) rfl rfl)) ?_
              refine AD.s (ws := []) rfl rfl (fun H' _ hH => op_or (.r rfl) rfl (fun h => (.we (nt h) rfl rfl))) ?_
              refine AD.nil ?_
              refine AW.cond (b := _) rfl (fun hc8 => ?_) (fun hc8 => ?_)
              · replace hm := iteT hc8 hm
                refine AW.seqR ?_
                refine AL.s rfl (op_assignD (.e rfl)) ?_
                refine AL.nil ?_
                refine AW.ret ?_
                refine tq_ret ?_
                refine bq_ret ?_
                refine tq_ret ?_
                refine tq_ret ?_
                obtain rfl := Option.some.inj hm
                obtain rfl := Option.some.inj hI4
                replace hm := hk4
                try dsimp only at hm
                refine bq_ret ?_
                refine bq_ret ?_
                refine tq_ret ?_
                refine tq_ret ?_
                obtain rfl := Option.some.inj hm
                obtain rfl := Option.some.inj hI3
                replace hm := hk3
                try dsimp only at hm
                refine bq_ret ?_
                refine tq_ret ?_
                refine bq_ret ?_
                refine tq_ret ?_
                refine tq_ret ?_
                obtain rfl := Option.some.inj hm
                obtain rfl := Option.some.inj hI1
                replace hm := hk1
                try dsimp only at hm
                refine bq_ret ?_
                refine tq_ret ?_
                obtain rfl := Option.some.inj hm
                exact EndQ.d (.tmp (.e rfl) .nil) rfl rfl
              · replace hm := iteF hc8 hm
                refine AW.skip ?_
                refine nq ?_
                refine AW.region ?_
                refine AL.s rfl (op_moveT (.e rfl)) ?_
                refine AL.s rfl (op_moveD (.e rfl)) ?_
                refine AL.s rfl (op_moveD (.e rfl)) ?_
                obtain ⟨v37, hv37, hm⟩ := bindE hm
                refine AL.s rfl (op_indexAddrM (f := D.i) (.r rfl) (.r rfl) hv37 En.i sl25) ?_
                refine AL.s rfl (op_load_vp1 (.e rfl) rfl sc3) ?_
                refine AL.s rfl (op_buildSlice (ds := ([v37] : List Int).map D.i) sl25 (.cons (.r rfl) rfl (En.i.one _) .nil) rfl (by decide)) ?_
                obtain ⟨v38, hv38, hm⟩ := bindE hm
                refine AL.s rfl (op_appendM (f := D.i) (l' := ([v37] : List Int)) sl25 (.e rfl) (.r rfl) rfl rfl En.i hv38) ?_
                refine AL.s rfl (op_assignT (.e rfl)) ?_
                refine AL.nil ?_
                refine bq_n ?_
                refine nq ?_
                refine AW.region ?_
                refine AL.s rfl (op_moveD (.e rfl)) ?_
                refine AL.s rfl (op_addw (.r rfl) (.r rfl)) ?_
                refine AL.s rfl (op_assignD (.e rfl)) ?_
                refine AL.nil ?_
                obtain rfl := Option.some.inj hm
                exact nq ⟨_, hI4, ⟨[0, 1], rfl, rfl, rfl, ⟨(.d rfl), (.tk rfl), (.d rfl), (.tk rfl), (.d rfl), (.d rfl), (.d rfl), trivial⟩, trivial, (.tok rfl (.tok rfl .nil))⟩⟩
            · replace hm := iteF hc7 hm
              refine AW.exit ?_
              refine tq_exit ?_
              refine tq_exit ?_
              obtain rfl := Option.some.inj hm
              obtain rfl := Option.some.inj hI4
              replace hm := hk4
              try dsimp only at hm
              refine bq_hit ?_
              refine bq_n ?_
              refine nq ?_
              refine AW.region ?_
              refine AL.s rfl (op_moveD (.e rfl)) ?_
              refine AL.s rfl (op_addw (.r rfl) (.r rfl)) ?_
              refine AL.s rfl (op_assignD (.e rfl)) ?_
              refine AL.nil ?_
              obtain rfl := Option.some.inj hm
              exact nq ⟨_, hI3, ⟨[0, 1], rfl, rfl, rfl, ⟨(.d rfl), (.tk rfl), (.d rfl), (.tk rfl), (.d rfl), trivial⟩, trivial, (.tok rfl (.tok rfl .nil))⟩⟩
        · replace hm := iteF hc5 hm
          refine AW.exit ?_
          refine tq_exit ?_
          refine tq_exit ?_
          obtain rfl := Option.some.inj hm
          obtain rfl := Option.some.inj hI3
          replace hm := hk3
          try dsimp only at hm
          refine bq_hit ?_
          refine nq ?_
          refine AW.seqR ?_
          refine AL.s rfl (op_moveT (.e rfl)) ?_
          refine AL.s rfl (op_lenM (f := D.i) (.r rfl) sl25) ?_
          refine AL.s rfl (op_moveD (.e rfl)) ?_
          refine AL.s rfl (op_moveD (.e rfl)) ?_
          obtain ⟨v39, hv39, hm⟩ := bindE hm
          refine AL.s rfl (op_indexAddrM (f := SWork.e) (.r rfl) (.r rfl) hv39 enSWork sl22) ?_
          refine AL.s rfl (op_field_vp (.e rfl) fd33_1) ?_
          refine AL.s rfl (op_load_vp1 (.e rfl) rfl sc25) ?_
          refine AL.s rfl (op_lenM (f := D.i) (.r rfl) sl25) ?_
          refine AL.s rfl (op_neq (.r rfl) (.r rfl)) ?_
          refine AL.nil ?_
          refine AW.cond (b := _) rfl (fun hc9 => ?_) (fun hc9 => ?_)
          · replace hm := iteT hc9 hm
            refine AW.reset 0 [] [.tok s11.length 3 1, .tok s20.length 3 1] (WOK.g0 hw0 (by simp)) ⟨[0, 1], rfl, rfl, rfl, trivial, trivial, (.tok rfl (.tok rfl .nil))⟩ ?_
            refine AW.seqR ?_
            refine AL.s rfl (op_assignD (.e rfl)) ?_
            refine AL.nil ?_
            refine AW.ret ?_
            refine bq_ret ?_
            refine tq_ret ?_
            refine tq_ret ?_
            obtain rfl := Option.some.inj hm
            obtain rfl := Option.some.inj hI1
            replace hm := hk1
            try dsimp only at hm
            refine bq_ret ?_
            refine tq_ret ?_
            obtain rfl := Option.some.inj hm
            exact EndQ.d (.tmp (.e rfl) .nil) rfl rfl
          · replace hm := iteF hc9 hm
            refine AW.skip ?_
            refine bq_n ?_
            refine nq ?_
            refine AW.region ?_
            refine AL.s rfl (op_moveD (.e rfl)) ?_
            refine AL.s rfl (op_addw (.r rfl) (.r rfl)) ?_
            refine AL.s rfl (op_assignD (.e rfl)) ?_
            refine AL.nil ?_
            obtain rfl := Option.some.inj hm
            exact nq ⟨_, hI1, ⟨[0], rfl, rfl, rfl, ⟨(.d rfl), (.tk rfl), (.d rfl), trivial⟩, trivial, (.tok rfl .nil)⟩⟩
  · replace hm := iteF hc1 hm
    refine AW.exit ?_
    refine tq_exit ?_
    refine tq_exit ?_
    obtain rfl := Option.some.inj hm
    obtain rfl := Option.some.inj hI1
    replace hm := hk1
    try dsimp only at hm
    refine bq_hit ?_
    refine nq ?_
    refine AW.seqR ?_
    refine AL.s rfl (op_assignD (.e rfl)) ?_
    refine AL.nil ?_
    refine AW.ret ?_
    obtain rfl := Option.some.inj hm
    exact EndQ.d (.tmp (.e rfl) .nil) rfl rfl

set_option maxHeartbeats 20000000 in
theorem m_ref35_Copy_ok {n : Nat} {a1 : SWork} {r : SWork} (hm : m_ref35_Copy n a1 = some r) : Fn Tryz.prog 22 [(SWork.e a1)] (SWork.e r) := by
  unfold m_ref35_Copy at hm
  refine Fn.of_AW (fnn := Tryz.f22) Tryz.func22 rfl (Nat.le_of_ble_eq_true rfl) (fun g0 w0 hw0 => ?_)
  refine AW.reset 0 [(0, .d (SWork.e a1))] [] (WOK.g0 hw0 (by simp)) ⟨[], rfl, rfl, rfl, ⟨(.d rfl), trivial⟩, trivial, .nil⟩ ?_
  refine AW.seqR ?_
  refine AL.s rfl (op_box (n := 0) (.e rfl) rfl rfl rfl) ?_
  refine AL.s rfl (op_alloc (n := 1) zr33 rfl) ?_
  refine AL.nil ?_
  refine AW.free ?_
  refine AW.free ?_
  refine AW.seqD [([], []), ([0], []), ([], []), ([], []), ([0], []), ([], [2]), ([], []), ([], [3]), ([3], [3])] mo (by decide +kernel) ?_
  refine AD.s (ws := []) rfl rfl (fun H' _ hH => op_field_ptr (.e rfl) fd33_0) ?_
  refine AD.s (ws := []) rfl rfl (fun H' _ hH => op_load_ptr1 (.e rfl) ((hH _ (by simp)).trans rfl) rfl sc3) ?_
  refine AD.s (ws := []) rfl rfl (fun H' _ hH => op_buildSlice (ds := ([] : List Int).map D.i) sl25 .nil rfl (by decide)) ?_
  refine AD.s (ws := []) rfl rfl (fun H' _ hH => op_field_ptr (.e rfl) fd33_1) ?_
  refine AD.s (ws := []) rfl rfl (fun H' _ hH => op_load_ptr1 (.e rfl) ((hH _ (by simp)).trans rfl) rfl sc25) ?_
  obtain ⟨v2, hv2, hm⟩ := bindE hm
  refine AD.s (ws := [(2, _)]) rfl rfl (fun H' _ hH => op_appendERM (res := 2) (f := D.i) (l := ([] : List Int)) (l' := a1.fRecords) sl25 (.e rfl) (.r rfl) ((hH _ (by simp)).trans rfl) En.i hv2) ?_
  refine AD.s (ws := []) rfl rfl (fun H' _ hH => op_build bd33 (.cons (.e rfl) rfl rfl rfl rfl (Nat.le_of_ble_eq_true rfl) (.cons (.e rfl) rfl rfl rfl rfl (Nat.le_of_ble_eq_true rfl) .nil))) ?_
  refine AD.s (ws := [(3, _)]) rfl rfl (fun H' _ hH => op_allocR zr33 ((hH _ (by simp)).trans rfl)) ?_
  refine AD.s (ws := [(3, _)]) rfl rfl (fun H' _ hH => op_storeA (.e rfl) (.e rfl) ((hH _ (by simp)).trans rfl) rfl ⟨_, rfl, rfl⟩ rfl (Nat.le_of_ble_eq_true rfl)) ?_
  refine AD.nil ?_
  refine AW.seq ?_
  refine AW.seqR ?_
  refine AL.s rfl (op_assignD (.e rfl)) ?_
  refine AL.nil ?_
  refine AW.block ?_
  refine AW.lstizeC (n := 4) 3 2 25 1 rfl rfl rfl ?_
  obtain ⟨t_1, hI1, hk1⟩ := bindE hm
  refine AW.loopS (σ := (Int × (List (List Int)))) (τ := (List (List Int))) 0 (fun x => [(1, .ptr 0 0), (2, .ptr 1 0), (3, .ptr 3 0), (4, .d (.int .i64 x.1))]) (fun x => [.row [.d (.int .i64 a1.fID), .d (.sl (a1.fRecords.map D.i)), .d (.sl (a1.fEditions.map (esl D.i)))], .row [.d (.int .i64 (0 : Int)), .ex ([].map D.i), .ex ([].map (esl D.i))], .tok v2.length 3 1, .row [.d (.int .i64 a1.fID), .tk 2 (v2.map D.i), .hs 4 0 x.2.length 1], .lst (x.2.map (esl D.i)) 25 1]) hI1 (WOK.g0 hw0 (by simp)) ⟨[0, 1, 2, 3, 4], rfl, rfl, rfl, ⟨(.ptr rfl), (.ptr rfl), (.ptr rfl), (.d rfl), trivial⟩, trivial, (.row rfl (.cons (.d rfl) (.cons (.d rfl) (.cons (.d rfl) .nil))) (.row rfl (.cons (.d rfl) (.cons .ex (.cons .ex .nil))) (.tok rfl (.row rfl (.cons (.d rfl) (.cons (.tk rfl) (.cons (.hs rfl rfl) .nil))) (.lst rfl .nil)))))⟩ ?_
  rintro n1 ⟨s3, s4⟩ hI1
  obtain ⟨y_1, hm, hI1⟩ := iterS hI1
  replace hm : m_ref35_Copy_L1 n _ s3 s4 = some y_1 := hm
  unfold m_ref35_Copy_L1 at hm
  try dsimp only at hm
  refine AW.seq ?_
  refine AW.seqR ?_
  refine AL.s rfl (op_moveD (.e rfl)) ?_
  refine AL.s rfl (op_field_ptr (.e rfl) fd33_2) ?_
  refine AL.s rfl (op_load_ptr1 (.e rfl) rfl rfl sc26) ?_
  refine AL.s rfl (op_lenM (f := (esl D.i)) (.r rfl) sl26) ?_
  refine AL.s rfl (op_lss (.r rfl) (.r rfl)) ?_
  refine AL.nil ?_
  refine AW.cond (b := _) rfl (fun hc1 => ?_) (fun hc1 => ?_)
  · replace hm := iteT hc1 hm
    refine AW.skip ?_
    refine nq ?_
    refine AW.seq ?_
    refine AW.block ?_
    refine AW.free ?_
    refine AW.free ?_
    refine AW.free ?_
    refine AW.drawn [([], []), ([3], []), ([], []), ([], []), ([0], []), ([], []), ([], []), ([], []), ([], [5]), ([], []), ([4], [4, 6]), ([], []), ([3], [3])] mo (by decide +kernel) ?_
    refine AD.s (ws := []) rfl rfl (fun H' _ hH => op_field_ptr (.e rfl) fd33_2) ?_
    refine AD.s (ws := []) rfl rfl (fun H' _ hH => op_load_ptr1 (.e rfl) ((hH _ (by simp)).trans rfl) rfl sc26) ?_
    refine AD.s (ws := []) rfl rfl (fun H' _ hH => op_buildSlice (ds := ([] : List Int).map D.i) sl25 .nil rfl (by decide)) ?_
    refine AD.s (ws := []) rfl rfl (fun H' _ hH => op_field_ptr (.e rfl) fd33_2) ?_
    refine AD.s (ws := []) rfl rfl (fun H' _ hH => op_load_ptr1 (.e rfl) ((hH _ (by simp)).trans rfl) rfl sc26) ?_
    refine AD.s (ws := []) rfl rfl (fun H' _ hH => op_moveD (.e rfl)) ?_
    obtain ⟨v5, hv5, hm⟩ := bindE hm
    refine AD.s (ws := []) rfl rfl (fun H' _ hH => op_indexAddrM (f := (esl D.i)) (.r rfl) (.r rfl) hv5 En.sl sl26) ?_
    refine AD.s (ws := []) rfl rfl (fun H' _ hH => op_load_vp1 (.e rfl) rfl sc25) ?_
    obtain ⟨v6, hv6, hm⟩ := bindE hm
    refine AD.s (ws := [(5, _)]) rfl rfl (fun H' _ hH => op_appendERM (res := 5) (f := D.i) (l := ([] : List Int)) (l' := v5) sl25 (.e rfl) (.r rfl) ((hH _ (by simp)).trans rfl) En.i hv6) ?_
    refine AD.s (ws := []) rfl rfl (fun H' _ hH => op_buildSlice (ds := ([v6] : List (List Int)).map (esl D.i)) sl26 (.cons (.r rfl) rfl (En.sl.one _) .nil) rfl (by decide)) ?_
    obtain ⟨v7, hv7, hm⟩ := bindE hm
    refine AD.s (ws := [(4, _), (6, _)]) rfl rfl (fun H' _ hH => op_appendHRM (res := 6) (f := (esl D.i)) (l := s4) (l' := ([v6] : List (List Int))) sl26 (.e rfl) (.r rfl) ((hH _ (by simp)).trans rfl) rfl ((hH _ (by simp)).trans rfl) En.sl hv7) ?_
    refine AD.s (ws := []) rfl rfl (fun H' _ hH => op_field_ptr (.e rfl) fd33_2) ?_
    refine AD.s (ws := [(3, _)]) rfl rfl (fun H' _ hH => op_store (.e rfl) (.e rfl) ((hH _ (by simp)).trans rfl) rfl rfl ⟨_, rfl, rfl⟩ rfl (Nat.le_of_ble_eq_true rfl)) ?_
    refine AD.nil ?_
    refine bq_n ?_
    refine nq ?_
    refine AW.region ?_
    refine AL.s rfl (op_moveD (.e rfl)) ?_
    refine AL.s rfl (op_addw (.r rfl) (.r rfl)) ?_
    refine AL.s rfl (op_assignD (.e rfl)) ?_
    refine AL.nil ?_
    obtain rfl := Option.some.inj hm
    exact nq ⟨_, hI1, ⟨[0, 1, 2, 3, 6], rfl, rfl, rfl, ⟨(.ptr rfl), (.ptr rfl), (.ptr rfl), (.d rfl), trivial⟩, trivial, (.row rfl (.cons (.d rfl) (.cons (.d rfl) (.cons (.d rfl) .nil))) (.row rfl (.cons (.d rfl) (.cons .ex (.cons .ex .nil))) (.tok rfl (.row rfl (.cons (.d rfl) (.cons (.tk rfl) (.cons (.hs rfl rfl) .nil))) (.lst rfl .nil)))))⟩⟩
  · replace hm := iteF hc1 hm
    refine AW.exit ?_
    refine tq_exit ?_
    refine tq_exit ?_
    obtain rfl := Option.some.inj hm
    obtain rfl := Option.some.inj hI1
    replace hm := hk1
    try dsimp only at hm
    refine bq_hit ?_
    refine nq ?_
    refine AW.seqR ?_
    refine AL.s rfl (op_load_ptrA (.e rfl) rfl rfl rfl ag33) ?_
    refine AL.s rfl (op_storeA (.e rfl) (.e rfl) rfl rfl ⟨_, rfl, rfl⟩ rfl (Nat.le_of_ble_eq_true rfl)) ?_
    refine AL.nil ?_
    refine AW.freezeC2 (f := (esl D.i)) (l := s4) 4 [] 1 2 3 2 rfl rfl En.sl trivial rfl rfl rfl rfl rfl ?_
    refine AW.ret ?_
    obtain rfl := Option.some.inj hm
    exact EndQ.d (.cellA (.e rfl) rfl rfl rfl ag33 .nil) rfl rfl

set_option maxHeartbeats 20000000 in
theorem m_ref35_Find_ok {n : Nat} {a1 : (List SWork)} {a2 : Int} {r : (SWork × Bool)} (hm : m_ref35_Find n a1 a2 = some r) : Fn Tryz.prog 8 [(.sl (a1.map SWork.e)), (.int .i64 a2)] (.tup [(SWork.e r.1), (.bool r.2)]) := by
  unfold m_ref35_Find at hm
  refine Fn.of_AW (fnn := Tryz.f8) Tryz.func8 rfl (Nat.le_of_ble_eq_true rfl) (fun g0 w0 hw0 => ?_)
  refine AW.reset 0 [(0, .d (.sl (a1.map SWork.e))), (1, .d (.int .i64 a2))] [] (WOK.g0 hw0 (by simp)) ⟨[], rfl, rfl, rfl, ⟨(.d rfl), (.d rfl), trivial⟩, trivial, .nil⟩ ?_
  refine AW.seqR ?_
  refine AL.s rfl (op_alloc (n := 0) zr33 rfl) ?_
  refine AL.s rfl (op_assignD (.e rfl)) ?_
  refine AL.nil ?_
  refine AW.seq ?_
  refine AW.seqR ?_
  refine AL.s rfl (op_assignD (.e rfl)) ?_
  refine AL.nil ?_
  refine AW.block ?_
  obtain ⟨t_1, hI1, hk1⟩ := bindE hm
  refine AW.loopS (σ := Int) (τ := ((SWork × Bool) ⊕ Unit)) 0 (fun x => [(0, .d (.sl (a1.map SWork.e))), (1, .d (.int .i64 a2)), (4, .ptr 0 0), (6, .d (.int .i64 x))]) (fun x => [.row [.d (.int .i64 (0 : Int)), .ex ([].map D.i), .ex ([].map (esl D.i))]]) hI1 (WOK.g0 hw0 (by simp)) ⟨[0], rfl, rfl, rfl, ⟨(.d rfl), (.d rfl), (.ptr rfl), (.d rfl), trivial⟩, trivial, (.row rfl (.cons (.d rfl) (.cons .ex (.cons .ex .nil))) .nil)⟩ ?_
  rintro n1 s3 hI1
  obtain ⟨y_1, hm, hI1⟩ := iterS hI1
  replace hm : m_ref35_Find_L1 n _ _ s3 = some y_1 := hm
  unfold m_ref35_Find_L1 at hm
  try dsimp only at hm
  refine AW.seq ?_
  refine AW.seqR ?_
  refine AL.s rfl (op_moveD (.e rfl)) ?_
  refine AL.s rfl (op_moveD (.e rfl)) ?_
  refine AL.s rfl (op_lenM (f := SWork.e) (.r rfl) sl22) ?_
  refine AL.s rfl (op_lss (.r rfl) (.r rfl)) ?_
  refine AL.s rfl (op_moveD (.e rfl)) ?_
  refine AL.sT rfl rfl rfl rfl (fun g => op_moveD (.e rfl)) ?_
  obtain ⟨v4, hv4, hm⟩ := bindE hm
  refine AL.sT rfl rfl rfl rfl (fun g => op_fn Tryz.call14 (.e rfl) (.cons (.we g rfl rfl) .nil) (m_ref35_Valid_ok (iteT g hv4))) ?_
  refine AL.s rfl (op_and (.r rfl) (fun h => (.we h rfl rfl)) rfl) ?_
  refine AL.nil ?_
  refine AW.cond (b := _) rfl (fun hc1 => ?_) (fun hc1 => ?_)
  · replace hm := iteT hc1 hm
    refine AW.skip ?_
    refine nq ?_
    refine AW.seq ?_
    refine AW.block ?_
    refine AW.seqR ?_
    refine AL.s rfl (op_moveD (.e rfl)) ?_
    refine AL.s rfl (op_moveD (.e rfl)) ?_
    obtain ⟨v5, hv5, hm⟩ := bindE hm
    refine AL.s rfl (op_indexAddrM (f := SWork.e) (.r rfl) (.r rfl) hv5 enSWork sl22) ?_
    refine AL.s rfl (op_field_vp (.e rfl) fd33_1) ?_
    refine AL.s rfl (op_load_vp1 (.e rfl) rfl sc25) ?_
    refine AL.s rfl (op_moveD (.e rfl)) ?_
    obtain ⟨v6, hv6, hm⟩ := bindE hm
    refine AL.s rfl (op_fn Tryz.call21 (.e rfl) (.cons (.r rfl) (.cons (.r rfl) .nil)) (m_ref35_has_ok hv6)) ?_
    refine AL.nil ?_
    refine AW.cond (b := _) rfl (fun hc2 => ?_) (fun hc2 => ?_)
    · replace hm := iteT hc2 hm
      refine AW.seqR ?_
      refine AL.s rfl (op_moveD (.e rfl)) ?_
      refine AL.s rfl (op_moveD (.e rfl)) ?_
      obtain ⟨v7, hv7, hm⟩ := bindE hm
      refine AL.s rfl (op_indexAddrM (f := SWork.e) (.r rfl) (.r rfl) hv7 enSWork sl22) ?_
      refine AL.s rfl (op_loadA (.e rfl) rfl ag33) ?_
      obtain ⟨v8, hv8, hm⟩ := bindE hm
      refine AL.s rfl (op_fn Tryz.call22 (.e rfl) (.cons (.r rfl) .nil) (m_ref35_Copy_ok hv8)) ?_
      refine AL.s rfl (op_store (.e rfl) (.e rfl) rfl rfl rfl ⟨_, rfl, rfl⟩ rfl (Nat.le_of_ble_eq_true rfl)) ?_
      refine AL.s rfl (op_assignD (.e rfl)) ?_
      refine AL.nil ?_
      refine AW.ret ?_
      refine bq_ret ?_
      refine tq_ret ?_
      refine tq_ret ?_
      obtain rfl := Option.some.inj hm
      obtain rfl := Option.some.inj hI1
      replace hm := hk1
      try dsimp only at hm
      refine bq_ret ?_
      refine tq_ret ?_
      obtain rfl := Option.some.inj hm
      exact EndQ.d (.cellA (.e rfl) rfl rfl rfl ag33 (.tmp (.e rfl) .nil)) rfl rfl
    · replace hm := iteF hc2 hm
      refine AW.skip ?_
      refine bq_n ?_
      refine nq ?_
      refine AW.region ?_
      refine AL.s rfl (op_moveD (.e rfl)) ?_
      refine AL.s rfl (op_addw (.r rfl) (.r rfl)) ?_
      refine AL.s rfl (op_assignD (.e rfl)) ?_
      refine AL.nil ?_
      obtain rfl := Option.some.inj hm
      exact nq ⟨_, hI1, ⟨[0], rfl, rfl, rfl, ⟨(.d rfl), (.d rfl), (.ptr rfl), (.d rfl), trivial⟩, trivial, (.row rfl (.cons (.d rfl) (.cons .ex (.cons .ex .nil))) .nil)⟩⟩
  · replace hm := iteF hc1 hm
    refine AW.exit ?_
    refine tq_exit ?_
    refine tq_exit ?_
    obtain rfl := Option.some.inj hm
    obtain rfl := Option.some.inj hI1
    replace hm := hk1
    try dsimp only at hm
    refine bq_hit ?_
    refine nq ?_
    refine AW.seqR ?_
    refine AL.s rfl (op_build bd33 .nil) ?_
    refine AL.s rfl (op_storeA (.e rfl) (.e rfl) rfl rfl ⟨_, rfl, rfl⟩ rfl (Nat.le_of_ble_eq_true rfl)) ?_
    refine AL.s rfl (op_assignD (.e rfl)) ?_
    refine AL.nil ?_
    refine AW.ret ?_
    obtain rfl := Option.some.inj hm
    exact EndQ.d (.cellA (.e rfl) rfl rfl rfl ag33 (.tmp (.e rfl) .nil)) rfl rfl

set_option maxHeartbeats 20000000 in
theorem m_ref35_Edition_ok {n : Nat} {a1 : (List SWork)} {a2 : Int} {r : ((List Int) × Bool)} (hm : m_ref35_Edition n a1 a2 = some r) : Fn Tryz.prog 10 [(.sl (a1.map SWork.e)), (.int .i64 a2)] (.tup [(.sl (r.1.map D.i)), (.bool r.2)]) := by
  unfold m_ref35_Edition at hm
  refine Fn.of_AW (fnn := Tryz.f10) Tryz.func10 rfl (Nat.le_of_ble_eq_true rfl) (fun g0 w0 hw0 => ?_)
  refine AW.reset 0 [(0, .d (.sl (a1.map SWork.e))), (1, .d (.int .i64 a2))] [] (WOK.g0 hw0 (by simp)) ⟨[], rfl, rfl, rfl, ⟨(.d rfl), (.d rfl), trivial⟩, trivial, .nil⟩ ?_
  refine AW.seqR ?_
  refine AL.s rfl (op_assignN (.e rfl)) ?_
  refine AL.s rfl (op_assignD (.e rfl)) ?_
  refine AL.nil ?_
  refine AW.seqR ?_
  refine AL.s rfl (op_moveD (.e rfl)) ?_
  refine AL.s rfl (op_moveD (.e rfl)) ?_
  obtain ⟨v3, hv3, hm⟩ := bindE hm
  refine AL.s rfl (op_fn Tryz.call8 (.e rfl) (.cons (.r rfl) (.cons (.r rfl) .nil)) (m_ref35_Find_ok hv3)) ?_
  refine AL.s rfl (op_moveD (.e rfl)) ?_
  refine AL.s rfl (op_extractD (.e rfl) rfl) ?_
  refine AL.s rfl (op_extractD (.e rfl) rfl) ?_
  refine AL.s rfl (op_alloc (n := 0) zr33 rfl) ?_
  refine AL.s rfl (op_store (.e rfl) (.e rfl) rfl rfl rfl ⟨_, rfl, rfl⟩ rfl (Nat.le_of_ble_eq_true rfl)) ?_
  refine AL.s rfl (op_assignD (.e rfl)) ?_
  refine AL.nil ?_
  refine AW.seq ?_
  refine AW.seqR ?_
  refine AL.s rfl (op_assignD (.e rfl)) ?_
  refine AL.nil ?_
  refine AW.block ?_
  obtain ⟨t_1, hI1, hk1⟩ := bindE hm
  refine AW.loopS (σ := Int) (τ := (((List Int) × Bool) ⊕ Unit)) 0 (fun x => [(1, .d (.int .i64 a2)), (6, .ptr 0 0), (7, .d (.bool v3.2)), (8, .d (.int .i64 x))]) (fun x => [.row [.d (.int .i64 v3.1.fID), .d (.sl (v3.1.fRecords.map D.i)), .d (.sl (v3.1.fEditions.map (esl D.i)))]]) hI1 (WOK.g0 hw0 (by simp)) ⟨[0], rfl, rfl, rfl, ⟨(.d rfl), (.ptr rfl), (.d rfl), (.d rfl), trivial⟩, trivial, (.row rfl (.cons (.d rfl) (.cons (.d rfl) (.cons (.d rfl) .nil))) .nil)⟩ ?_
  rintro n1 s4 hI1
  obtain ⟨y_1, hm, hI1⟩ := iterS hI1
  replace hm : m_ref35_Edition_L1 n _ _ s4 = some y_1 := hm
  unfold m_ref35_Edition_L1 at hm
  try dsimp only at hm
  refine AW.seq ?_
  refine AW.seqR ?_
  refine AL.s rfl (op_moveD (.e rfl)) ?_
  refine AL.s rfl (op_field_ptr (.e rfl) fd33_2) ?_
  refine AL.s rfl (op_load_ptr1 (.e rfl) rfl rfl sc26) ?_
  refine AL.s rfl (op_lenM (f := (esl D.i)) (.r rfl) sl26) ?_
  refine AL.s rfl (op_lss (.r rfl) (.r rfl)) ?_
  refine AL.nil ?_
  refine AW.cond (b := _) rfl (fun hc1 => ?_) (fun hc1 => ?_)
  · replace hm := iteT hc1 hm
    refine AW.skip ?_
    refine nq ?_
    refine AW.seq ?_
    refine AW.block ?_
    refine AW.seqR ?_
    refine AL.s rfl (op_field_ptr (.e rfl) fd33_2) ?_
    refine AL.s rfl (op_load_ptr1 (.e rfl) rfl rfl sc26) ?_
    refine AL.s rfl (op_moveD (.e rfl)) ?_
    obtain ⟨v5, hv5, hm⟩ := bindE hm
    refine AL.s rfl (op_indexAddrM (f := (esl D.i)) (.r rfl) (.r rfl) hv5 En.sl sl26) ?_
    refine AL.s rfl (op_load_vp1 (.e rfl) rfl sc25) ?_
    refine AL.s rfl (op_moveD (.e rfl)) ?_
    obtain ⟨v6, hv6, hm⟩ := bindE hm
    refine AL.s rfl (op_fn Tryz.call21 (.e rfl) (.cons (.r rfl) (.cons (.r rfl) .nil)) (m_ref35_has_ok hv6)) ?_
    refine AL.nil ?_
    refine AW.cond (b := _) rfl (fun hc2 => ?_) (fun hc2 => ?_)
    · replace hm := iteT hc2 hm
      refine AW.seqR ?_
      refine AL.s rfl (op_field_ptr (.e rfl) fd33_2) ?_
      refine AL.s rfl (op_load_ptr1 (.e rfl) rfl rfl sc26) ?_
      refine AL.s rfl (op_moveD (.e rfl)) ?_
      obtain ⟨v7, hv7, hm⟩ := bindE hm
      refine AL.s rfl (op_indexAddrM (f := (esl D.i)) (.r rfl) (.r rfl) hv7 En.sl sl26) ?_
      refine AL.s rfl (op_load_vp1 (.e rfl) rfl sc25) ?_
      refine AL.s rfl (op_assignD (.e rfl)) ?_
      refine AL.s rfl (op_assignD (.e rfl)) ?_
      refine AL.nil ?_
      refine AW.ret ?_
      refine bq_ret ?_
      refine tq_ret ?_
      refine tq_ret ?_
      obtain rfl := Option.some.inj hm
      obtain rfl := Option.some.inj hI1
      replace hm := hk1
      try dsimp only at hm
      refine bq_ret ?_
      refine tq_ret ?_
      obtain rfl := Option.some.inj hm
      exact EndQ.d (.tmp (.e rfl) (.tmp (.e rfl) .nil)) rfl rfl
    · replace hm := iteF hc2 hm
      refine AW.skip ?_
      refine bq_n ?_
      refine nq ?_
      refine AW.region ?_
      refine AL.s rfl (op_moveD (.e rfl)) ?_
      refine AL.s rfl (op_addw (.r rfl) (.r rfl)) ?_
      refine AL.s rfl (op_assignD (.e rfl)) ?_
      refine AL.nil ?_
      obtain rfl := Option.some.inj hm
      exact nq ⟨_, hI1, ⟨[0], rfl, rfl, rfl, ⟨(.d rfl), (.ptr rfl), (.d rfl), (.d rfl), trivial⟩, trivial, (.row rfl (.cons (.d rfl) (.cons (.d rfl) (.cons (.d rfl) .nil))) .nil)⟩⟩
  · replace hm := iteF hc1 hm
    refine AW.exit ?_
    refine tq_exit ?_
    refine tq_exit ?_
    obtain rfl := Option.some.inj hm
    obtain rfl := Option.some.inj hI1
    replace hm := hk1
    try dsimp only at hm
    refine bq_hit ?_
    refine nq ?_
    refine AW.seqR ?_
    refine AL.s rfl (op_moveD (.e rfl)) ?_
    refine AL.s rfl (op_assignN (.e rfl)) ?_
    refine AL.s rfl (op_assignD (.e rfl)) ?_
    refine AL.nil ?_
    refine AW.ret ?_
    obtain rfl := Option.some.inj hm
    exact EndQ.d (.tmp (.e rfl) (.tmp (.e rfl) .nil)) rfl rfl

set_option maxHeartbeats 20000000 in
theorem m_ref30_SameInts_ok {n : Nat} {a1 : (List Int)} {a2 : (List Int)} {r : Bool} (hm : m_ref30_SameInts n a1 a2 = some r) : Fn Tryz.prog 12 [(.sl (a1.map D.i)), (.sl (a2.map D.i))] (.bool r) := by
  unfold m_ref30_SameInts at hm
  refine Fn.of_AW (fnn := Tryz.f12) Tryz.func12 rfl (Nat.le_of_ble_eq_true rfl) (fun g0 w0 hw0 => ?_)
  refine AW.reset 0 [(0, .d (.sl (a1.map D.i))), (1, .d (.sl (a2.map D.i)))] [] (WOK.g0 hw0 (by simp)) ⟨[], rfl, rfl, rfl, ⟨(.d rfl), (.d rfl), trivial⟩, trivial, .nil⟩ ?_
  refine AW.seqR ?_
  refine AL.s rfl (op_assignD (.e rfl)) ?_
  refine AL.nil ?_
  refine AW.seq ?_
  refine AW.seqR ?_
  refine AL.s rfl (op_moveD (.e rfl)) ?_
  refine AL.s rfl (op_lenM (f := D.i) (.r rfl) sl25) ?_
  refine AL.s rfl (op_moveD (.e rfl)) ?_
  refine AL.s rfl (op_lenM (f := D.i) (.r rfl) sl25) ?_
  refine AL.s rfl (op_neq (.r rfl) (.r rfl)) ?_
  refine AL.nil ?_
  refine AW.cond (b := _) rfl (fun hc1 => ?_) (fun hc1 => ?_)
  · replace hm := iteT hc1 hm
    refine AW.seqR ?_
    refine AL.s rfl (op_assignD (.e rfl)) ?_
    refine AL.nil ?_
    refine AW.ret ?_
    refine tq_ret ?_
    obtain rfl := Option.some.inj hm
    exact EndQ.d (.tmp (.e rfl) .nil) rfl rfl
  · replace hm := iteF hc1 hm
    refine AW.skip ?_
    refine nq ?_
    refine AW.seq ?_
    refine AW.seqR ?_
    refine AL.s rfl (op_assignD (.e rfl)) ?_
    refine AL.nil ?_
    refine AW.block ?_
    obtain ⟨t_1, hI1, hk1⟩ := bindE hm
    refine AW.loopS (σ := Int) (τ := (Bool ⊕ Unit)) 0 (fun x => [(0, .d (.sl (a1.map D.i))), (1, .d (.sl (a2.map D.i))), (5, .d (.int .i64 x))]) (fun x => []) hI1 (WOK.g0 hw0 (by simp)) ⟨[], rfl, rfl, rfl, ⟨(.d rfl), (.d rfl), (.d rfl), trivial⟩, trivial, .nil⟩ ?_
    rintro n1 s3 hI1
    obtain ⟨y_1, hm, hI1⟩ := iterS hI1
    replace hm : m_ref30_SameInts_L1 n _ _ s3 = some y_1 := hm
    unfold m_ref30_SameInts_L1 at hm
    try dsimp only at hm
    refine AW.seq ?_
    refine AW.seqR ?_
    refine AL.s rfl (op_moveD (.e rfl)) ?_
    refine AL.s rfl (op_moveD (.e rfl)) ?_
    refine AL.s rfl (op_lenM (f := D.i) (.r rfl) sl25) ?_
    refine AL.s rfl (op_lss (.r rfl) (.r rfl)) ?_
    refine AL.nil ?_
    refine AW.cond (b := _) rfl (fun hc2 => ?_) (fun hc2 => ?_)
    · replace hm := iteT hc2 hm
      refine AW.skip ?_
      refine nq ?_
      refine AW.seq ?_
      refine AW.block ?_
      refine AW.seqD [([], []), ([], []), ([], []), ([], []), ([], []), ([], []), ([], []), ([], []), ([], [])] mo (by decide +kernel) ?_
      refine AD.s (ws := []) rfl rfl (fun H' _ hH => op_moveD (.e rfl)) ?_
      refine AD.s (ws := []) rfl rfl (fun H' _ hH => op_moveD (.e rfl)) ?_
      obtain ⟨v4, hv4, hm⟩ := bindE hm
      refine AD.s (ws := []) rfl rfl (fun H' _ hH => op_indexAddrM (f := D.i) (.r rfl) (.r rfl) hv4 En.i sl25) ?_
      refine AD.s (ws := []) rfl rfl (fun H' _ hH => op_load_vp1 (.e rfl) rfl sc3) ?_
      refine AD.s (ws := []) rfl rfl (fun H' _ hH => op_moveD (.e rfl)) ?_
      refine AD.s (ws := []) rfl rfl (fun H' _ hH => op_moveD (.e rfl)) ?_
      obtain ⟨v5, hv5, hm⟩ := bindE hm
      refine AD.s (ws := []) rfl rfl (fun H' _ hH => op_indexAddrM (f := D.i) (.r rfl) (.r rfl) hv5 En.i sl25) ?_
      refine AD.s (ws := []) rfl rfl (fun H' _ hH => op_load_vp1 (.e rfl) rfl sc3) ?_
      refine AD.s (ws := []) rfl rfl (fun H' _ hH => op_neq (.r rfl) (.r rfl)) ?_
      refine AD.nil ?_
      refine AW.cond (b := _) rfl (fun hc3 => ?_) (fun hc3 => ?_)
      · replace hm := iteT hc3 hm
        refine AW.seqR ?_
        refine AL.s rfl (op_assignD (.e rfl)) ?_
        refine AL.nil ?_
        refine AW.ret ?_
        refine bq_ret ?_
        refine tq_ret ?_
        refine tq_ret ?_
        obtain rfl := Option.some.inj hm
        obtain rfl := Option.some.inj hI1
        replace hm := hk1
        try dsimp only at hm
        refine bq_ret ?_
        refine tq_ret ?_
        obtain rfl := Option.some.inj hm
        exact EndQ.d (.tmp (.e rfl) .nil) rfl rfl
      · replace hm := iteF hc3 hm
        refine AW.skip ?_
        refine bq_n ?_
        refine nq ?_
        refine AW.region ?_
        refine AL.s rfl (op_moveD (.e rfl)) ?_
        refine AL.s rfl (op_addw (.r rfl) (.r rfl)) ?_
        refine AL.s rfl (op_assignD (.e rfl)) ?_
        refine AL.nil ?_
        obtain rfl := Option.some.inj hm
        exact nq ⟨_, hI1, ⟨[], rfl, rfl, rfl, ⟨(.d rfl), (.d rfl), (.d rfl), trivial⟩, trivial, .nil⟩⟩
    · replace hm := iteF hc2 hm
      refine AW.exit ?_
      refine tq_exit ?_
      refine tq_exit ?_
      obtain rfl := Option.some.inj hm
      obtain rfl := Option.some.inj hI1
      replace hm := hk1
      try dsimp only at hm
      refine bq_hit ?_
      refine nq ?_
      refine AW.seqR ?_
      refine AL.s rfl (op_assignD (.e rfl)) ?_
      refine AL.nil ?_
      refine AW.ret ?_
      obtain rfl := Option.some.inj hm
      exact EndQ.d (.tmp (.e rfl) .nil) rfl rfl

set_option maxHeartbeats 20000000 in
theorem m_ref35_SameWork_ok {n : Nat} {a1 : SWork} {a2 : SWork} {r : Bool} (hm : m_ref35_SameWork n a1 a2 = some r) : Fn Tryz.prog 11 [(SWork.e a1), (SWork.e a2)] (.bool r) := by
  unfold m_ref35_SameWork at hm
  refine Fn.of_AW (fnn := Tryz.f11) Tryz.func11 rfl (Nat.le_of_ble_eq_true rfl) (fun g0 w0 hw0 => ?_)
  refine AW.reset 0 [(0, .d (SWork.e a1)), (1, .d (SWork.e a2))] [] (WOK.g0 hw0 (by simp)) ⟨[], rfl, rfl, rfl, ⟨(.d rfl), (.d rfl), trivial⟩, trivial, .nil⟩ ?_
  refine AW.seqR ?_
  refine AL.s rfl (op_box (n := 0) (.e rfl) rfl rfl rfl) ?_
  refine AL.s rfl (op_box (n := 1) (.e rfl) rfl rfl rfl) ?_
  refine AL.s rfl (op_assignD (.e rfl)) ?_
  refine AL.nil ?_
  refine AW.seq ?_
  refine AW.seqR ?_
  refine AL.s rfl (op_field_ptr (.e rfl) fd33_0) ?_
  refine AL.s rfl (op_load_ptr1 (.e rfl) rfl rfl sc3) ?_
  refine AL.s rfl (op_field_ptr (.e rfl) fd33_0) ?_
  refine AL.s rfl (op_load_ptr1 (.e rfl) rfl rfl sc3) ?_
  refine AL.s rfl (op_neq (.r rfl) (.r rfl)) ?_
  refine AL.s rfl (op_moveD (.e rfl)) ?_
  refine AL.sF rfl rfl rfl rfl (fun g => op_field_ptr (.e rfl) fd33_1) ?_
  refine AL.sF rfl rfl rfl rfl (fun g => op_load_ptr1 (.we (nt g) rfl) rfl rfl sc25) ?_
  refine AL.sF rfl rfl rfl rfl (fun g => op_field_ptr (.e rfl) fd33_1) ?_
  refine AL.sF rfl rfl rfl rfl (fun g => op_load_ptr1 (.we (nt g) rfl) rfl rfl sc25) ?_
  obtain ⟨v3, hv3, hm⟩ := bindE hm
  refine AL.sF rfl rfl rfl rfl (fun g => op_fn Tryz.call12 (.e rfl) (.cons (.we (nt g) rfl rfl) (.cons (.we (nt g) rfl rfl) .nil)) (m_ref30_SameInts_ok (iteT (nt g) hv3))) ?_
  refine AL.sF rfl rfl rfl rfl (fun g => op_not (.we (nt g) rfl rfl)) ?_
  refine AL.s rfl (op_or (.r rfl) rfl (fun h => (.we (nt h) rfl rfl))) ?_
  refine AL.s rfl (op_moveD (.e rfl)) ?_
  refine AL.sF rfl rfl rfl rfl (fun g => op_field_ptr (.e rfl) fd33_2) ?_
  refine AL.sF rfl rfl rfl rfl (fun g => op_load_ptr1 (.we (nt g) rfl) rfl rfl sc26) ?_
  refine AL.sF rfl rfl rfl rfl (fun g => op_lenM (f := (esl D.i)) (.we (nt g) rfl rfl) sl26) ?_
  refine AL.sF rfl rfl rfl rfl (fun g => op_field_ptr (.e rfl) fd33_2) ?_
  refine AL.sF rfl rfl rfl rfl (fun g => op_load_ptr1 (.we (nt g) rfl) rfl rfl sc26) ?_
  refine AL.sF rfl rfl rfl rfl (fun g => op_lenM (f := (esl D.i)) (.we (nt g) rfl rfl) sl26) ?_
  refine AL.sF rfl rfl rfl rfl (fun g => op_neq (.we (nt g) rfl rfl) (.we (nt g) rfl rfl)) ?_
  refine AL.s rfl (op_or (.r rfl) rfl (fun h => (.we (nt h) rfl rfl))) ?_
  refine AL.nil ?_
  refine AW.cond (b := _) rfl (fun hc1 => ?_) (fun hc1 => ?_)
  · replace hm := iteT hc1 hm
    refine AW.seqR ?_
    refine AL.s rfl (op_assignD (.e rfl)) ?_
    refine AL.nil ?_
    refine AW.ret ?_
    refine tq_ret ?_
    obtain rfl := Option.some.inj hm
    exact EndQ.d (.tmp (.e rfl) .nil) rfl rfl
  · replace hm := iteF hc1 hm
    refine AW.skip ?_
    refine nq ?_
    refine AW.seq ?_
    refine AW.seqR ?_
    refine AL.s rfl (op_assignD (.e rfl)) ?_
    refine AL.nil ?_
    refine AW.block ?_
    obtain ⟨t_1, hI1, hk1⟩ := bindE hm
    refine AW.loopS (σ := Int) (τ := (Bool ⊕ Unit)) 0 (fun x => [(2, .ptr 0 0), (3, .ptr 1 0), (5, .d (.int .i64 x))]) (fun x => [.row [.d (.int .i64 a1.fID), .d (.sl (a1.fRecords.map D.i)), .d (.sl (a1.fEditions.map (esl D.i)))], .row [.d (.int .i64 a2.fID), .d (.sl (a2.fRecords.map D.i)), .d (.sl (a2.fEditions.map (esl D.i)))]]) hI1 (WOK.g0 hw0 (by simp)) ⟨[0, 1], rfl, rfl, rfl, ⟨(.ptr rfl), (.ptr rfl), (.d rfl), trivial⟩, trivial, (.row rfl (.cons (.d rfl) (.cons (.d rfl) (.cons (.d rfl) .nil))) (.row rfl (.cons (.d rfl) (.cons (.d rfl) (.cons (.d rfl) .nil))) .nil))⟩ ?_
    rintro n1 s4 hI1
    obtain ⟨y_1, hm, hI1⟩ := iterS hI1
    replace hm : m_ref35_SameWork_L1 n _ _ s4 = some y_1 := hm
    unfold m_ref35_SameWork_L1 at hm
    try dsimp only at hm
    refine AW.seq ?_
    refine AW.seqR ?_
    refine AL.s rfl (op_moveD (.e rfl)) ?_
    refine AL.s rfl (op_field_ptr (.e rfl) fd33_2) ?_
    refine AL.s rfl (op_load_ptr1 (.e rfl) rfl rfl sc26) ?_
    refine AL.s rfl (op_lenM (f := (esl D.i)) (.r rfl) sl26) ?_
    refine AL.s rfl (op_lss (.r rfl) (.r rfl)) ?_
    refine AL.nil ?_
    refine AW.cond (b := _) rfl (fun hc2 => ?_) (fun hc2 => ?_)
    · replace hm := iteT hc2 hm
      refine AW.skip ?_
      refine nq ?_
      refine AW.seq ?_
      refine AW.block ?_
      refine AW.seqD [([], []), ([0], []), ([], []), ([], []), ([], []), ([], []), ([1], []), ([], []), ([], []), ([], []), ([], []), ([], [])] mo (by decide +kernel) ?_
      refine AD.s (ws := []) rfl rfl (fun H' _ hH => op_field_ptr (.e rfl) fd33_2) ?_
      refine AD.s (ws := []) rfl rfl (fun H' _ hH => op_load_ptr1 (.e rfl) ((hH _ (by simp)).trans rfl) rfl sc26) ?_
      refine AD.s (ws := []) rfl rfl (fun H' _ hH => op_moveD (.e rfl)) ?_
      obtain ⟨v5, hv5, hm⟩ := bindE hm
      refine AD.s (ws := []) rfl rfl (fun H' _ hH => op_indexAddrM (f := (esl D.i)) (.r rfl) (.r rfl) hv5 En.sl sl26) ?_
      refine AD.s (ws := []) rfl rfl (fun H' _ hH => op_load_vp1 (.e rfl) rfl sc25) ?_
      refine AD.s (ws := []) rfl rfl (fun H' _ hH => op_field_ptr (.e rfl) fd33_2) ?_
      refine AD.s (ws := []) rfl rfl (fun H' _ hH => op_load_ptr1 (.e rfl) ((hH _ (by simp)).trans rfl) rfl sc26) ?_
      refine AD.s (ws := []) rfl rfl (fun H' _ hH => op_moveD (.e rfl)) ?_
      obtain ⟨v6, hv6, hm⟩ := bindE hm
      refine AD.s (ws := []) rfl rfl (fun H' _ hH => op_indexAddrM (f := (esl D.i)) (.r rfl) (.r rfl) hv6 En.sl sl26) ?_
      refine AD.s (ws := []) rfl rfl (fun H' _ hH => op_load_vp1 (.e rfl) rfl sc25) ?_
      obtain ⟨v7, hv7, hm⟩ := bindE hm
      refine AD.s (ws := []) rfl rfl (fun H' _ hH => op_fn Tryz.call12 (.e rfl) (.cons (.r rfl) (.cons (.r rfl) .nil)) (m_ref30_SameInts_ok hv7)) ?_
      refine AD.s (ws := []) rfl rfl (fun H' _ hH => op_not (.r rfl)) ?_
      refine AD.nil ?_
      refine AW.cond (b := _) rfl (fun hc3 => ?_) (fun hc3 => ?_)
      · replace hm := iteT hc3 hm
        refine AW.seqR ?_
        refine AL.s rfl (op_assignD (.e rfl)) ?_
        refine AL.nil ?_
        refine AW.ret ?_
        refine bq_ret ?_
        refine tq_ret ?_
        refine tq_ret ?_
        obtain rfl := Option.some.inj hm
        obtain rfl := Option.some.inj hI1
        replace hm := hk1
        try dsimp only at hm
        refine bq_ret ?_
        refine tq_ret ?_
        obtain rfl := Option.some.inj hm
        exact EndQ.d (.tmp (.e rfl) .nil) rfl rfl
      · replace hm := iteF hc3 hm
        refine AW.skip ?_
        refine bq_n ?_
        refine nq ?_
        refine AW.region ?_
        refine AL.s rfl (op_moveD (.e rfl)) ?_
        refine AL.s rfl (op_addw (.r rfl) (.r rfl)) ?_
        refine AL.s rfl (op_assignD (.e rfl)) ?_
        refine AL.nil ?_
        obtain rfl := Option.some.inj hm
        exact nq ⟨_, hI1, ⟨[0, 1], rfl, rfl, rfl, ⟨(.ptr rfl), (.ptr rfl), (.d rfl), trivial⟩, trivial, (.row rfl (.cons (.d rfl) (.cons (.d rfl) (.cons (.d rfl) .nil))) (.row rfl (.cons (.d rfl) (.cons (.d rfl) (.cons (.d rfl) .nil))) .nil))⟩⟩
    · replace hm := iteF hc2 hm
      refine AW.exit ?_
      refine tq_exit ?_
      refine tq_exit ?_
      obtain rfl := Option.some.inj hm
      obtain rfl := Option.some.inj hI1
      replace hm := hk1
      try dsimp only at hm
      refine bq_hit ?_
      refine nq ?_
      refine AW.seqR ?_
      refine AL.s rfl (op_assignD (.e rfl)) ?_
      refine AL.nil ?_
      refine AW.ret ?_
      obtain rfl := Option.some.inj hm
      exact EndQ.d (.tmp (.e rfl) .nil) rfl rfl

set_option maxHeartbeats 20000000 in
theorem m_ref35_put_ok {n : Nat} {a1 : (List Int)} {a2 : Int} {r : (List Int)} (hm : m_ref35_put n a1 a2 = some r) : Fn Tryz.prog 59 [(.sl (a1.map D.i)), (.int .i64 a2)] (.sl (r.map D.i)) := by
  unfold m_ref35_put at hm
  refine Fn.of_AW (fnn := Tryz.f59) Tryz.func59 rfl (Nat.le_of_ble_eq_true rfl) (fun g0 w0 hw0 => ?_)
  refine AW.reset 0 [(0, .d (.sl (a1.map D.i))), (1, .d (.int .i64 a2))] [] (WOK.g0 hw0 (by simp)) ⟨[], rfl, rfl, rfl, ⟨(.d rfl), (.d rfl), trivial⟩, trivial, .nil⟩ ?_
  refine AW.seqR ?_
  refine AL.s rfl (op_assignN (.e rfl)) ?_
  refine AL.nil ?_
  refine AW.seqR ?_
  refine AL.s rfl (op_assignD (.e rfl)) ?_
  refine AL.nil ?_
  refine AW.seq ?_
  refine AW.block ?_
  obtain ⟨t_1, hI1, hk1⟩ := bindE hm
  refine AW.loopS (σ := Int) (τ := Int) 0 (fun x => [(0, .d (.sl (a1.map D.i))), (1, .d (.int .i64 a2)), (5, .d (.int .i64 x))]) (fun x => []) hI1 (WOK.g0 hw0 (by simp)) ⟨[], rfl, rfl, rfl, ⟨(.d rfl), (.d rfl), (.d rfl), trivial⟩, trivial, .nil⟩ ?_
  rintro n1 s3 hI1
  obtain ⟨y_1, hm, hI1⟩ := iterS hI1
  replace hm : m_ref35_put_L1 n _ _ s3 = some y_1 := hm
  unfold m_ref35_put_L1 at hm
  try dsimp only at hm
  refine AW.seq ?_
  refine AW.seqR ?_
  refine AL.s rfl (op_moveD (.e rfl)) ?_
  refine AL.s rfl (op_moveD (.e rfl)) ?_
  refine AL.s rfl (op_lenM (f := D.i) (.r rfl) sl25) ?_
  refine AL.s rfl (op_lss (.r rfl) (.r rfl)) ?_
  refine AL.s rfl (op_moveD (.e rfl)) ?_
  refine AL.sT rfl rfl rfl rfl (fun g => op_moveD (.e rfl)) ?_
  refine AL.sT rfl rfl rfl rfl (fun g => op_moveD (.e rfl)) ?_
  obtain ⟨v4, hv4, hm⟩ := bindE hm
  refine AL.sT rfl rfl rfl rfl (fun g => op_indexAddrM (f := D.i) (.we g rfl rfl) (.we g rfl rfl) (iteT g hv4) En.i sl25) ?_
  refine AL.sT rfl rfl rfl rfl (fun g => op_load_vp1 (.we g rfl) rfl sc3) ?_
  refine AL.sT rfl rfl rfl rfl (fun g => op_moveD (.e rfl)) ?_
  refine AL.sT rfl rfl rfl rfl (fun g => op_lss (.we g rfl rfl) (.we g rfl rfl)) ?_
  refine AL.s rfl (op_and (.r rfl) (fun h => (.we h rfl rfl)) rfl) ?_
  refine AL.nil ?_
  refine AW.cond (b := _) rfl (fun hc1 => ?_) (fun hc1 => ?_)
  · replace hm := iteT hc1 hm
    refine AW.skip ?_
    refine nq ?_
    refine AW.block ?_
    refine AW.region ?_
    refine AL.s rfl (op_moveD (.e rfl)) ?_
    refine AL.s rfl (op_addw (.r rfl) (.r rfl)) ?_
    refine AL.s rfl (op_assignD (.e rfl)) ?_
    refine AL.nil ?_
    refine bq_n ?_
    obtain rfl := Option.some.inj hm
    exact nq ⟨_, hI1, ⟨[], rfl, rfl, rfl, ⟨(.d rfl), (.d rfl), (.d rfl), trivial⟩, trivial, .nil⟩⟩
  · replace hm := iteF hc1 hm
    refine AW.exit ?_
    refine tq_exit ?_
    refine tq_exit ?_
    obtain rfl := Option.some.inj hm
    obtain rfl := Option.some.inj hI1
    replace hm := hk1
    try dsimp only at hm
    refine bq_hit ?_
    refine nq ?_
    refine AW.seq ?_
    refine AW.seqR ?_
    refine AL.s rfl (op_moveD (.e rfl)) ?_
    refine AL.s rfl (op_moveD (.e rfl)) ?_
    refine AL.s rfl (op_lenM (f := D.i) (.r rfl) sl25) ?_
    refine AL.s rfl (op_lss (.r rfl) (.r rfl)) ?_
    refine AL.s rfl (op_moveD (.e rfl)) ?_
    refine AL.sT rfl rfl rfl rfl (fun g => op_moveD (.e rfl)) ?_
    refine AL.sT rfl rfl rfl rfl (fun g => op_moveD (.e rfl)) ?_
    obtain ⟨v5, hv5, hm⟩ := bindE hm
    refine AL.sT rfl rfl rfl rfl (fun g => op_indexAddrM (f := D.i) (.we g rfl rfl) (.we g rfl rfl) (iteT g hv5) En.i sl25) ?_
    refine AL.sT rfl rfl rfl rfl (fun g => op_load_vp1 (.we g rfl) rfl sc3) ?_
    refine AL.sT rfl rfl rfl rfl (fun g => op_moveD (.e rfl)) ?_
    refine AL.sT rfl rfl rfl rfl (fun g => op_eql (.we g rfl rfl) (.we g rfl rfl)) ?_
    refine AL.s rfl (op_and (.r rfl) (fun h => (.we h rfl rfl)) rfl) ?_
    refine AL.nil ?_
    refine AW.cond (b := _) rfl (fun hc2 => ?_) (fun hc2 => ?_)
    · replace hm := iteT hc2 hm
      refine AW.seqR ?_
      refine AL.s rfl (op_moveD (.e rfl)) ?_
      refine AL.s rfl (op_assignD (.e rfl)) ?_
      refine AL.nil ?_
      refine AW.ret ?_
      refine tq_ret ?_
      obtain rfl := Option.some.inj hm
      exact EndQ.d (.tmp (.e rfl) .nil) rfl rfl
    · replace hm := iteF hc2 hm
      refine AW.skip ?_
      refine nq ?_
      refine AW.free ?_
      refine AW.free ?_
      refine AW.seqD [([], []), ([], []), ([], []), ([], []), ([], []), ([], []), ([], []), ([], []), ([], []), ([], [0]), ([], [1]), ([], [])] mo (by decide +kernel) ?_
      refine AD.s (ws := []) rfl rfl (fun H' _ hH => op_moveD (.e rfl)) ?_
      refine AD.s (ws := []) rfl rfl (fun H' _ hH => op_moveD (.e rfl)) ?_
      refine AD.s (ws := []) rfl rfl (fun H' _ hH => op_moveD (.e rfl)) ?_
      obtain ⟨v6, hv6, hm⟩ := bindE hm
      refine AD.s (ws := []) rfl rfl (fun H' _ hH => op_slice3 (f := D.i) (.r rfl) sl25 (.r rfl) (.r rfl) hv6) ?_
      refine AD.s (ws := []) rfl rfl (fun H' _ hH => op_moveD (.e rfl)) ?_
      refine AD.s (ws := []) rfl rfl (fun H' _ hH => op_buildSlice (ds := ([a2] : List Int).map D.i) sl25 (.cons (.r rfl) rfl (En.i.one _) .nil) rfl (by decide)) ?_
      refine AD.s (ws := []) rfl rfl (fun H' _ hH => op_moveD (.e rfl)) ?_
      refine AD.s (ws := []) rfl rfl (fun H' _ hH => op_moveD (.e rfl)) ?_
      obtain ⟨v7, hv7, hm⟩ := bindE hm
      refine AD.s (ws := []) rfl rfl (fun H' _ hH => op_sliceM (f := D.i) (.r rfl) sl25 (.r rfl) rfl En.i hv7) ?_
      obtain ⟨v8, hv8, hm⟩ := bindE hm
      refine AD.s (ws := [(0, _)]) rfl rfl (fun H' _ hH => op_appendERM (res := 0) (f := D.i) (l := ([a2] : List Int)) (l' := v7) sl25 (.e rfl) (.r rfl) ((hH _ (by simp)).trans rfl) En.i hv8) ?_
      obtain ⟨v9, hv9, hm⟩ := bindE hm
      refine AD.s (ws := [(1, _)]) rfl rfl (fun H' _ hH => op_appendERM (res := 1) (f := D.i) (l := v6) (l' := v8) sl25 (.e rfl) (.r rfl) ((hH _ (by simp)).trans rfl) En.i hv9) ?_
      refine AD.s (ws := []) rfl rfl (fun H' _ hH => op_assignT (.e rfl)) ?_
      refine AD.nil ?_
      refine AW.ret ?_
      obtain rfl := Option.some.inj hm
      exact EndQ.d (.tmp (.e rfl) .nil) rfl rfl

set_option maxHeartbeats 20000000 in
theorem m_ref35_alone_ok {n : Nat} {a1 : (List SWork)} {a2 : (List SWork)} {a3 : (List Int)} {r : (List Int)} (hm : m_ref35_alone n a1 a2 a3 = some r) : Fn Tryz.prog 31 [(.sl (a1.map SWork.e)), (.sl (a2.map SWork.e)), (.sl (a3.map D.i))] (.sl (r.map D.i)) := by
  unfold m_ref35_alone at hm
  refine Fn.of_AW (fnn := Tryz.f31) Tryz.func31 rfl (Nat.le_of_ble_eq_true rfl) (fun g0 w0 hw0 => ?_)
  refine AW.reset 0 [(0, .d (.sl (a1.map SWork.e))), (1, .d (.sl (a2.map SWork.e))), (2, .d (.sl (a3.map D.i)))] [] (WOK.g0 hw0 (by simp)) ⟨[], rfl, rfl, rfl, ⟨(.d rfl), (.d rfl), (.d rfl), trivial⟩, trivial, .nil⟩ ?_
  refine AW.seqR ?_
  refine AL.s rfl (op_assignN (.e rfl)) ?_
  refine AL.nil ?_
  refine AW.seq ?_
  refine AW.seqR ?_
  refine AL.s rfl (op_assignD (.e rfl)) ?_
  refine AL.nil ?_
  refine AW.block ?_
  obtain ⟨t_1, hI1, hk1⟩ := bindE hm
  refine AW.loopS (σ := ((List Int) × Int)) (τ := (List Int)) 0 (fun x => [(0, .d (.sl (a1.map SWork.e))), (1, .d (.sl (a2.map SWork.e))), (2, .d (.sl (x.1.map D.i))), (7, .d (.int .i64 x.2))]) (fun x => []) hI1 (WOK.g0 hw0 (by simp)) ⟨[], rfl, rfl, rfl, ⟨(.d rfl), (.d rfl), (.d rfl), (.d rfl), trivial⟩, trivial, .nil⟩ ?_
  rintro n1 ⟨s4, s5⟩ hI1
  obtain ⟨y_1, hm, hI1⟩ := iterS hI1
  replace hm : m_ref35_alone_L1 n _ _ s4 s5 = some y_1 := hm
  unfold m_ref35_alone_L1 at hm
  try dsimp only at hm
  refine AW.seq ?_
  refine AW.seqR ?_
  refine AL.s rfl (op_moveD (.e rfl)) ?_
  refine AL.s rfl (op_moveD (.e rfl)) ?_
  refine AL.s rfl (op_lenM (f := SWork.e) (.r rfl) sl22) ?_
  refine AL.s rfl (op_lss (.r rfl) (.r rfl)) ?_
  refine AL.nil ?_
  refine AW.cond (b := _) rfl (fun hc1 => ?_) (fun hc1 => ?_)
  · replace hm := iteT hc1 hm
    refine AW.skip ?_
    refine nq ?_
    obtain ⟨t_j1, hm, hkj1⟩ := bindE hm
    refine AW.cutS (α := (List Int)) 0 (fun x => x = t_j1) (fun x => [(0, .d (.sl (a1.map SWork.e))), (1, .d (.sl (a2.map SWork.e))), (2, .d (.sl (x.map D.i))), (7, .d (.int .i64 s5))]) (fun x => []) (WOK.g0 hw0 (by simp)) ?_ ?_
    · skip
      refine AW.block ?_
      refine AW.reset 0 [(0, .d (.sl (a1.map SWork.e))), (1, .d (.sl (a2.map SWork.e))), (2, .d (.sl (s4.map D.i))), (7, .d (.int .i64 s5))] [] (WOK.g0 hw0 (by simp)) ⟨[], rfl, rfl, rfl, ⟨(.d rfl), (.d rfl), (.d rfl), (.d rfl), trivial⟩, trivial, .nil⟩ ?_
      refine AW.seqR ?_
      refine AL.s rfl (op_assignD (.e rfl)) ?_
      refine AL.nil ?_
      refine AW.seq ?_
      refine AW.seqR ?_
      refine AL.s rfl (op_assignD (.e rfl)) ?_
      refine AL.nil ?_
      refine AW.block ?_
      obtain ⟨t_2, hI2, hk2⟩ := bindE hm
      refine AW.loopS (σ := (Bool × Int)) (τ := Bool) 0 (fun x => [(0, .d (.sl (a1.map SWork.e))), (1, .d (.sl (a2.map SWork.e))), (2, .d (.sl (s4.map D.i))), (7, .d (.int .i64 s5)), (8, .d (.bool x.1)), (9, .d (.int .i64 x.2))]) (fun x => []) hI2 (WOK.g0 hw0 (by simp)) ⟨[], rfl, rfl, rfl, ⟨(.d rfl), (.d rfl), (.d rfl), (.d rfl), (.d rfl), (.d rfl), trivial⟩, trivial, .nil⟩ ?_
      rintro n2 ⟨s6, s7⟩ hI2
      obtain ⟨y_2, hm, hI2⟩ := iterS hI2
      replace hm : m_ref35_alone_L2 n _ _ _ s6 s7 = some y_2 := hm
      unfold m_ref35_alone_L2 at hm
      try dsimp only at hm
      refine AW.seq ?_
      refine AW.seqR ?_
      refine AL.s rfl (op_moveD (.e rfl)) ?_
      refine AL.s rfl (op_moveD (.e rfl)) ?_
      refine AL.s rfl (op_lenM (f := SWork.e) (.r rfl) sl22) ?_
      refine AL.s rfl (op_lss (.r rfl) (.r rfl)) ?_
      refine AL.nil ?_
      refine AW.cond (b := _) rfl (fun hc2 => ?_) (fun hc2 => ?_)
      · replace hm := iteT hc2 hm
        refine AW.skip ?_
        refine nq ?_
        refine AW.seq ?_
        refine AW.block ?_
        refine AW.drawn [([], []), ([], []), ([], []), ([], []), ([], []), ([], []), ([], []), ([], []), ([], []), ([], []), ([], []), ([], []), ([], [])] mo (by decide +kernel) ?_
        refine AD.s (ws := []) rfl rfl (fun H' _ hH => op_moveD (.e rfl)) ?_
        refine AD.s (ws := []) rfl rfl (fun H' _ hH => op_moveD (.e rfl)) ?_
        refine AD.sF rfl rfl rfl rfl (fun g H' _ hH => op_moveD (.e rfl)) ?_
        refine AD.sF rfl rfl rfl rfl (fun g H' _ hH => op_moveD (.e rfl)) ?_
        obtain ⟨v8, hv8, hm⟩ := bindE hm
        refine AD.sF rfl rfl rfl rfl (fun g H' _ hH => op_indexAddrM (f := SWork.e) (.we (nt g) rfl rfl) (.we (nt g) rfl rfl) (iteT (nt g) hv8) enSWork sl22) ?_
        refine AD.sF rfl rfl rfl rfl (fun g H' _ hH => op_loadA (.we (nt g) rfl) rfl ag33) ?_
        refine AD.sF rfl rfl rfl rfl (fun g H' _ hH => op_moveD (.e rfl)) ?_
        refine AD.sF rfl rfl rfl rfl (fun g H' _ hH => op_moveD (.e rfl)) ?_
        obtain ⟨v9, hv9, hm⟩ := bindE hm
        refine AD.sF rfl rfl rfl rfl (fun g H' _ hH => op_indexAddrM (f := SWork.e) (.we (nt g) rfl rfl) (.we (nt g) rfl rfl) (iteT (nt g) hv9) enSWork sl22) ?_
        refine AD.sF rfl rfl rfl rfl (fun g H' _ hH => op_loadA (.we (nt g) rfl) rfl ag33) ?_
        obtain ⟨v10, hv10, hm⟩ := bindE hm
        refine AD.sF rfl rfl rfl rfl (fun g H' _ hH => op_fn Tryz.call11 (.e rfl) (.cons (.we (nt g) rfl rfl) (.cons (.we (nt g) rfl rfl) .nil)) (m_ref35_SameWork_ok (iteT (nt g) hv10))) ?_
        refine AD.s (ws := []) rfl rfl (fun H' _ hH => op_or (.r rfl) rfl (fun h => (.we (nt h) rfl rfl))) ?_
        refine AD.s (ws := []) rfl rfl (fun H' _ hH => op_assignD (.e rfl)) ?_
        refine AD.nil ?_
        refine bq_n ?_
        refine nq ?_
        refine AW.region ?_
        refine AL.s rfl (op_moveD (.e rfl)) ?_
        refine AL.s rfl (op_addw (.r rfl) (.r rfl)) ?_
        refine AL.s rfl (op_assignD (.e rfl)) ?_
        refine AL.nil ?_
        obtain rfl := Option.some.inj hm
        exact nq ⟨_, hI2, ⟨[], rfl, rfl, rfl, ⟨(.d rfl), (.d rfl), (.d rfl), (.d rfl), (.d rfl), (.d rfl), trivial⟩, trivial, .nil⟩⟩
      · replace hm := iteF hc2 hm
        refine AW.exit ?_
        refine tq_exit ?_
        refine tq_exit ?_
        obtain rfl := Option.some.inj hm
        obtain rfl := Option.some.inj hI2
        replace hm := hk2
        try dsimp only at hm
        refine bq_hit ?_
        refine nq ?_
        refine AW.seqR ?_
        refine AL.s rfl (op_moveD (.e rfl)) ?_
        refine AL.s rfl (op_not (.r rfl)) ?_
        refine AL.nil ?_
        refine AW.cond (b := _) rfl (fun hc3 => ?_) (fun hc3 => ?_)
        · replace hm := iteT hc3 hm
          refine AW.region ?_
          refine AL.s rfl (op_moveD (.e rfl)) ?_
          refine AL.s rfl (op_moveD (.e rfl)) ?_
          refine AL.s rfl (op_moveD (.e rfl)) ?_
          obtain ⟨v11, hv11, hm⟩ := bindE hm
          refine AL.s rfl (op_indexAddrM (f := SWork.e) (.r rfl) (.r rfl) hv11 enSWork sl22) ?_
          refine AL.s rfl (op_field_vp (.e rfl) fd33_0) ?_
          refine AL.s rfl (op_load_vp1 (.e rfl) rfl sc3) ?_
          obtain ⟨v12, hv12, hm⟩ := bindE hm
          refine AL.s rfl (op_fn Tryz.call59 (.e rfl) (.cons (.r rfl) (.cons (.r rfl) .nil)) (m_ref35_put_ok hv12)) ?_
          refine AL.s rfl (op_assignD (.e rfl)) ?_
          refine AL.nil ?_
          refine bq_n ?_
          obtain rfl := Option.some.inj hm
          exact nq ⟨_, rfl, ⟨[], rfl, rfl, rfl, ⟨(.d rfl), (.d rfl), (.d rfl), (.d rfl), trivial⟩, trivial, .nil⟩⟩
        · replace hm := iteF hc3 hm
          refine AW.skip ?_
          refine bq_n ?_
          obtain rfl := Option.some.inj hm
          exact nq ⟨_, rfl, ⟨[], rfl, rfl, rfl, ⟨(.d rfl), (.d rfl), (.d rfl), (.d rfl), trivial⟩, trivial, .nil⟩⟩
    · rintro s13 rfl
      replace hm := hkj1
      try dsimp only at hm
      refine AW.region ?_
      refine AL.s rfl (op_moveD (.e rfl)) ?_
      refine AL.s rfl (op_addw (.r rfl) (.r rfl)) ?_
      refine AL.s rfl (op_assignD (.e rfl)) ?_
      refine AL.nil ?_
      obtain rfl := Option.some.inj hm
      exact nq ⟨_, hI1, ⟨[], rfl, rfl, rfl, ⟨(.d rfl), (.d rfl), (.d rfl), (.d rfl), trivial⟩, trivial, .nil⟩⟩
  · replace hm := iteF hc1 hm
    refine AW.exit ?_
    refine tq_exit ?_
    refine tq_exit ?_
    obtain rfl := Option.some.inj hm
    obtain rfl := Option.some.inj hI1
    replace hm := hk1
    try dsimp only at hm
    refine bq_hit ?_
    refine nq ?_
    refine AW.seqR ?_
    refine AL.s rfl (op_moveD (.e rfl)) ?_
    refine AL.s rfl (op_assignD (.e rfl)) ?_
    refine AL.nil ?_
    refine AW.ret ?_
    obtain rfl := Option.some.inj hm
    exact EndQ.d (.tmp (.e rfl) .nil) rfl rfl

set_option maxHeartbeats 20000000 in
theorem m_ref35_Touched_ok {n : Nat} {a1 : (List SWork)} {a2 : (List SWork)} {r : (List Int)} (hm : m_ref35_Touched n a1 a2 = some r) : Fn Tryz.prog 16 [(.sl (a1.map SWork.e)), (.sl (a2.map SWork.e))] (.sl (r.map D.i)) := by
  unfold m_ref35_Touched at hm
  refine Fn.of_AW (fnn := Tryz.f16) Tryz.func16 rfl (Nat.le_of_ble_eq_true rfl) (fun g0 w0 hw0 => ?_)
  refine AW.seqR ?_
  refine AL.s rfl (op_assignN (.e rfl)) ?_
  refine AL.nil ?_
  refine AW.seq ?_
  refine AW.seqR ?_
  refine AL.s rfl (op_moveD (.e rfl)) ?_
  obtain ⟨v3, hv3, hm⟩ := bindE hm
  refine AL.s rfl (op_fn Tryz.call14 (.e rfl) (.cons (.r rfl) .nil) (m_ref35_Valid_ok hv3)) ?_
  refine AL.s rfl (op_not (.r rfl)) ?_
  refine AL.s rfl (op_moveD (.e rfl)) ?_
  refine AL.sF rfl rfl rfl rfl (fun g => op_moveD (.e rfl)) ?_
  obtain ⟨v4, hv4, hm⟩ := bindE hm
  refine AL.sF rfl rfl rfl rfl (fun g => op_fn Tryz.call14 (.e rfl) (.cons (.we (nt g) rfl rfl) .nil) (m_ref35_Valid_ok (iteT (nt g) hv4))) ?_
  refine AL.sF rfl rfl rfl rfl (fun g => op_not (.we (nt g) rfl rfl)) ?_
  refine AL.s rfl (op_or (.r rfl) rfl (fun h => (.we (nt h) rfl rfl))) ?_
  refine AL.nil ?_
  refine AW.cond (b := _) rfl (fun hc1 => ?_) (fun hc1 => ?_)
  · replace hm := iteT hc1 hm
    refine AW.seqR ?_
    refine AL.s rfl (op_assignN (.e rfl)) ?_
    refine AL.nil ?_
    refine AW.ret ?_
    refine tq_ret ?_
    obtain rfl := Option.some.inj hm
    exact EndQ.d (.tmp (.e rfl) .nil) rfl rfl
  · replace hm := iteF hc1 hm
    refine AW.skip ?_
    refine nq ?_
    refine AW.seqR ?_
    refine AL.s rfl (op_moveD (.e rfl)) ?_
    refine AL.s rfl (op_moveD (.e rfl)) ?_
    refine AL.s rfl (op_moveD (.e rfl)) ?_
    refine AL.s rfl (op_moveD (.e rfl)) ?_
    obtain ⟨v5, hv5, hm⟩ := bindE hm
    refine AL.s rfl (op_fn Tryz.call31 (.e rfl) (.cons (.r rfl) (.cons (.r rfl) (.cons (.r rfl) .nil))) (m_ref35_alone_ok hv5)) ?_
    obtain ⟨v6, hv6, hm⟩ := bindE hm
    refine AL.s rfl (op_fn Tryz.call31 (.e rfl) (.cons (.r rfl) (.cons (.r rfl) (.cons (.r rfl) .nil))) (m_ref35_alone_ok hv6)) ?_
    refine AL.s rfl (op_assignD (.e rfl)) ?_
    refine AL.nil ?_
    refine AW.ret ?_
    obtain rfl := Option.some.inj hm
    exact EndQ.d (.tmp (.e rfl) .nil) rfl rfl

set_option maxHeartbeats 20000000 in
theorem m_ref35_Few_ok {n : Nat} {a1 : (List SWork)} {r : Bool} (hm : m_ref35_Few n a1 = some r) : Fn Tryz.prog 5 [(.sl (a1.map SWork.e))] (.bool r) := by
  unfold m_ref35_Few at hm
  refine Fn.of_AW (fnn := Tryz.f5) Tryz.func5 rfl (Nat.le_of_ble_eq_true rfl) (fun g0 w0 hw0 => ?_)
  refine AW.reset 0 [(0, .d (.sl (a1.map SWork.e)))] [] (WOK.g0 hw0 (by simp)) ⟨[], rfl, rfl, rfl, ⟨(.d rfl), trivial⟩, trivial, .nil⟩ ?_
  refine AW.seqR ?_
  refine AL.s rfl (op_assignD (.e rfl)) ?_
  refine AL.nil ?_
  refine AW.seq ?_
  refine AW.seqR ?_
  refine AL.s rfl (op_assignD (.e rfl)) ?_
  refine AL.nil ?_
  refine AW.block ?_
  obtain ⟨t_1, hI1, hk1⟩ := bindE hm
  refine AW.loopS (σ := Int) (τ := (Bool ⊕ Unit)) 0 (fun x => [(0, .d (.sl (a1.map SWork.e))), (3, .d (.int .i64 x))]) (fun x => []) hI1 (WOK.g0 hw0 (by simp)) ⟨[], rfl, rfl, rfl, ⟨(.d rfl), (.d rfl), trivial⟩, trivial, .nil⟩ ?_
  rintro n1 s2 hI1
  obtain ⟨y_1, hm, hI1⟩ := iterS hI1
  replace hm : m_ref35_Few_L1 n _ s2 = some y_1 := hm
  unfold m_ref35_Few_L1 at hm
  try dsimp only at hm
  refine AW.seq ?_
  refine AW.seqR ?_
  refine AL.s rfl (op_moveD (.e rfl)) ?_
  refine AL.s rfl (op_moveD (.e rfl)) ?_
  refine AL.s rfl (op_lenM (f := SWork.e) (.r rfl) sl22) ?_
  refine AL.s rfl (op_lss (.r rfl) (.r rfl)) ?_
  refine AL.nil ?_
  refine AW.cond (b := _) rfl (fun hc1 => ?_) (fun hc1 => ?_)
  · replace hm := iteT hc1 hm
    refine AW.skip ?_
    refine nq ?_
    refine AW.seq ?_
    refine AW.block ?_
    refine AW.seq ?_
    refine AW.seqR ?_
    refine AL.s rfl (op_moveD (.e rfl)) ?_
    refine AL.s rfl (op_moveD (.e rfl)) ?_
    obtain ⟨v3, hv3, hm⟩ := bindE hm
    refine AL.s rfl (op_indexAddrM (f := SWork.e) (.r rfl) (.r rfl) hv3 enSWork sl22) ?_
    refine AL.s rfl (op_field_vp (.e rfl) fd33_1) ?_
    refine AL.s rfl (op_load_vp1 (.e rfl) rfl sc25) ?_
    refine AL.s rfl (op_lenM (f := D.i) (.r rfl) sl25) ?_
    refine AL.s rfl (op_gtr (.r rfl) (.r rfl)) ?_
    refine AL.s rfl (op_moveD (.e rfl)) ?_
    refine AL.sF rfl rfl rfl rfl (fun g => op_moveD (.e rfl)) ?_
    refine AL.sF rfl rfl rfl rfl (fun g => op_moveD (.e rfl)) ?_
    obtain ⟨v4, hv4, hm⟩ := bindE hm
    refine AL.sF rfl rfl rfl rfl (fun g => op_indexAddrM (f := SWork.e) (.we (nt g) rfl rfl) (.we (nt g) rfl rfl) (iteT (nt g) hv4) enSWork sl22) ?_
    refine AL.sF rfl rfl rfl rfl (fun g => op_field_vp (.we (nt g) rfl) fd33_2) ?_
    refine AL.sF rfl rfl rfl rfl (fun g => op_load_vp1 (.we (nt g) rfl) rfl sc26) ?_
    refine AL.sF rfl rfl rfl rfl (fun g => op_lenM (f := (esl D.i)) (.we (nt g) rfl rfl) sl26) ?_
    refine AL.sF rfl rfl rfl rfl (fun g => op_gtr (.we (nt g) rfl rfl) (.r rfl)) ?_
    refine AL.s rfl (op_or (.r rfl) rfl (fun h => (.we (nt h) rfl rfl))) ?_
    refine AL.nil ?_
    refine AW.cond (b := _) rfl (fun hc2 => ?_) (fun hc2 => ?_)
    · replace hm := iteT hc2 hm
      refine AW.seqR ?_
      refine AL.s rfl (op_assignD (.e rfl)) ?_
      refine AL.nil ?_
      refine AW.ret ?_
      refine tq_ret ?_
      refine bq_ret ?_
      refine tq_ret ?_
      refine tq_ret ?_
      obtain rfl := Option.some.inj hm
      obtain rfl := Option.some.inj hI1
      replace hm := hk1
      try dsimp only at hm
      refine bq_ret ?_
      refine tq_ret ?_
      obtain rfl := Option.some.inj hm
      exact EndQ.d (.tmp (.e rfl) .nil) rfl rfl
    · replace hm := iteF hc2 hm
      refine AW.skip ?_
      refine nq ?_
      refine AW.seqR ?_
      refine AL.s rfl (op_assignD (.e rfl)) ?_
      refine AL.nil ?_
      refine AW.block ?_
      obtain ⟨t_2, hI2, hk2⟩ := bindE hm
      refine AW.loopS (σ := Int) (τ := (Bool ⊕ Unit)) 0 (fun x => [(0, .d (.sl (a1.map SWork.e))), (3, .d (.int .i64 s2)), (4, .d (.int .i64 x))]) (fun x => []) hI2 (WOK.g0 hw0 (by simp)) ⟨[], rfl, rfl, rfl, ⟨(.d rfl), (.d rfl), (.d rfl), trivial⟩, trivial, .nil⟩ ?_
      rintro n2 s5 hI2
      obtain ⟨y_2, hm, hI2⟩ := iterS hI2
      replace hm : m_ref35_Few_L2 n _ _ s5 = some y_2 := hm
      unfold m_ref35_Few_L2 at hm
      try dsimp only at hm
      refine AW.seq ?_
      refine AW.seqR ?_
      refine AL.s rfl (op_moveD (.e rfl)) ?_
      refine AL.s rfl (op_moveD (.e rfl)) ?_
      refine AL.s rfl (op_moveD (.e rfl)) ?_
      obtain ⟨v6, hv6, hm⟩ := bindE hm
      refine AL.s rfl (op_indexAddrM (f := SWork.e) (.r rfl) (.r rfl) hv6 enSWork sl22) ?_
      refine AL.s rfl (op_field_vp (.e rfl) fd33_2) ?_
      refine AL.s rfl (op_load_vp1 (.e rfl) rfl sc26) ?_
      refine AL.s rfl (op_lenM (f := (esl D.i)) (.r rfl) sl26) ?_
      refine AL.s rfl (op_lss (.r rfl) (.r rfl)) ?_
      refine AL.nil ?_
      refine AW.cond (b := _) rfl (fun hc3 => ?_) (fun hc3 => ?_)
      · replace hm := iteT hc3 hm
        refine AW.skip ?_
        refine nq ?_
        refine AW.seq ?_
        refine AW.block ?_
        refine AW.seqR ?_
        refine AL.s rfl (op_moveD (.e rfl)) ?_
        refine AL.s rfl (op_moveD (.e rfl)) ?_
        obtain ⟨v7, hv7, hm⟩ := bindE hm
        refine AL.s rfl (op_indexAddrM (f := SWork.e) (.r rfl) (.r rfl) hv7 enSWork sl22) ?_
        refine AL.s rfl (op_field_vp (.e rfl) fd33_2) ?_
        refine AL.s rfl (op_load_vp1 (.e rfl) rfl sc26) ?_
        refine AL.s rfl (op_moveD (.e rfl)) ?_
        obtain ⟨v8, hv8, hm⟩ := bindE hm
        refine AL.s rfl (op_indexAddrM (f := (esl D.i)) (.r rfl) (.r rfl) hv8 En.sl sl26) ?_
        refine AL.s rfl (op_load_vp1 (.e rfl) rfl sc25) ?_
        refine AL.s rfl (op_lenM (f := D.i) (.r rfl) sl25) ?_
        refine AL.s rfl (op_gtr (.r rfl) (.r rfl)) ?_
        refine AL.nil ?_
        refine AW.cond (b := _) rfl (fun hc4 => ?_) (fun hc4 => ?_)
        · replace hm := iteT hc4 hm
          refine AW.seqR ?_
          refine AL.s rfl (op_assignD (.e rfl)) ?_
          refine AL.nil ?_
          refine AW.ret ?_
          refine bq_ret ?_
          refine tq_ret ?_
          refine tq_ret ?_
          obtain rfl := Option.some.inj hm
          obtain rfl := Option.some.inj hI2
          replace hm := hk2
          try dsimp only at hm
          refine bq_ret ?_
          refine bq_ret ?_
          refine tq_ret ?_
          refine tq_ret ?_
          obtain rfl := Option.some.inj hm
          obtain rfl := Option.some.inj hI1
          replace hm := hk1
          try dsimp only at hm
          refine bq_ret ?_
          refine tq_ret ?_
          obtain rfl := Option.some.inj hm
          exact EndQ.d (.tmp (.e rfl) .nil) rfl rfl
        · replace hm := iteF hc4 hm
          refine AW.skip ?_
          refine bq_n ?_
          refine nq ?_
          refine AW.region ?_
          refine AL.s rfl (op_moveD (.e rfl)) ?_
          refine AL.s rfl (op_addw (.r rfl) (.r rfl)) ?_
          refine AL.s rfl (op_assignD (.e rfl)) ?_
          refine AL.nil ?_
          obtain rfl := Option.some.inj hm
          exact nq ⟨_, hI2, ⟨[], rfl, rfl, rfl, ⟨(.d rfl), (.d rfl), (.d rfl), trivial⟩, trivial, .nil⟩⟩
      · replace hm := iteF hc3 hm
        refine AW.exit ?_
        refine tq_exit ?_
        refine tq_exit ?_
        obtain rfl := Option.some.inj hm
        obtain rfl := Option.some.inj hI2
        replace hm := hk2
        try dsimp only at hm
        refine bq_hit ?_
        refine bq_n ?_
        refine nq ?_
        refine AW.region ?_
        refine AL.s rfl (op_moveD (.e rfl)) ?_
        refine AL.s rfl (op_addw (.r rfl) (.r rfl)) ?_
        refine AL.s rfl (op_assignD (.e rfl)) ?_
        refine AL.nil ?_
        obtain rfl := Option.some.inj hm
        exact nq ⟨_, hI1, ⟨[], rfl, rfl, rfl, ⟨(.d rfl), (.d rfl), trivial⟩, trivial, .nil⟩⟩
  · replace hm := iteF hc1 hm
    refine AW.exit ?_
    refine tq_exit ?_
    refine tq_exit ?_
    obtain rfl := Option.some.inj hm
    obtain rfl := Option.some.inj hI1
    replace hm := hk1
    try dsimp only at hm
    refine bq_hit ?_
    refine nq ?_
    refine AW.seqR ?_
    refine AL.s rfl (op_moveD (.e rfl)) ?_
    refine AL.s rfl (op_lenM (f := SWork.e) (.r rfl) sl22) ?_
    refine AL.s rfl (op_leq (.r rfl) (.r rfl)) ?_
    refine AL.s rfl (op_assignD (.e rfl)) ?_
    refine AL.nil ?_
    refine AW.ret ?_
    obtain rfl := Option.some.inj hm
    exact EndQ.d (.tmp (.e rfl) .nil) rfl rfl

set_option maxHeartbeats 20000000 in
theorem m_law35_Own_ok {n : Nat} {a1 : (List SWork)} {r : (List SWork)} (hm : m_law35_Own n a1 = some r) : Fn Tryz.prog 7 [(.sl (a1.map SWork.e))] (.sl (r.map SWork.e)) := by
  unfold m_law35_Own at hm
  refine Fn.of_AW (fnn := Tryz.f7) Tryz.func7 rfl (Nat.le_of_ble_eq_true rfl) (fun g0 w0 hw0 => ?_)
  refine AW.reset 0 [(0, .d (.sl (a1.map SWork.e)))] [] (WOK.g0 hw0 (by simp)) ⟨[], rfl, rfl, rfl, ⟨(.d rfl), trivial⟩, trivial, .nil⟩ ?_
  refine AW.seqR ?_
  refine AL.s rfl (op_assignN (.e rfl)) ?_
  refine AL.nil ?_
  refine AW.seqR ?_
  refine AL.s rfl (op_assignN (.e rfl)) ?_
  refine AL.nil ?_
  refine AW.seq ?_
  refine AW.seqR ?_
  refine AL.s rfl (op_moveD (.e rfl)) ?_
  refine AL.s rfl (op_lenM (f := SWork.e) (.r rfl) sl22) ?_
  refine AL.s rfl (op_moveD (.e rfl)) ?_
  refine AL.nil ?_
  refine AW.block ?_
  refine AW.tokenize (n := 0) 3 28 3 rfl rfl (by simp) ?_
  obtain ⟨t_1, hI1, hk1⟩ := bindE hm
  refine AW.loopS (σ := ((List SWork) × Int)) (τ := (List SWork)) 0 (fun x => [(3, .tk 0 (x.1.map SWork.e)), (6, .d (.sl (a1.map SWork.e))), (7, .d (.int .i64 (a1.length : Int))), (8, .d (.int .i64 x.2))]) (fun x => [.tok x.1.length 28 3]) hI1 (WOK.g0 hw0 (by simp)) ⟨[0], rfl, rfl, rfl, ⟨(.tk rfl), (.d rfl), (.d rfl), (.d rfl), trivial⟩, trivial, (.tok rfl .nil)⟩ ?_
  rintro n1 ⟨s2, s3⟩ hI1
  obtain ⟨y_1, hm, hI1⟩ := iterS hI1
  replace hm : m_law35_Own_L1 n _ s2 s3 = some y_1 := hm
  unfold m_law35_Own_L1 at hm
  try dsimp only at hm
  refine AW.seqR ?_
  refine AL.s rfl (op_lss (.r rfl) (.r rfl)) ?_
  refine AL.nil ?_
  refine AW.seq ?_
  refine AW.cond (b := _) rfl (fun hc1 => ?_) (fun hc1 => ?_)
  · replace hm := iteT hc1 hm
    refine AW.skip ?_
    refine nq ?_
    refine AW.seq ?_
    refine AW.block ?_
    refine AW.seqR ?_
    obtain ⟨v4, hv4, hm⟩ := bindE hm
    refine AL.s rfl (op_indexAddrM (f := SWork.e) (.r rfl) (.r rfl) hv4 enSWork sl22) ?_
    refine AL.s rfl (op_loadA (.e rfl) rfl ag33) ?_
    refine AL.s rfl (op_alloc (n := 1) zr33 rfl) ?_
    refine AL.s rfl (op_store (.e rfl) (.e rfl) rfl rfl rfl ⟨_, rfl, rfl⟩ rfl (Nat.le_of_ble_eq_true rfl)) ?_
    refine AL.nil ?_
    refine AW.region ?_
    refine AL.s rfl (op_moveT (.e rfl)) ?_
    refine AL.s rfl (op_load_ptrA (.e rfl) rfl rfl rfl ag33) ?_
    refine AL.s rfl (op_buildSlice (ds := ([v4] : List SWork).map SWork.e) sl31 (.cons (.r rfl) rfl (enSWork.one _) .nil) rfl (by decide)) ?_
    obtain ⟨v5, hv5, hm⟩ := bindE hm
    refine AL.s rfl (op_appendM (f := SWork.e) (l' := ([v4] : List SWork)) sl31 (.e rfl) (.r rfl) rfl rfl enSWork hv5) ?_
    refine AL.s rfl (op_assignT (.e rfl)) ?_
    refine AL.nil ?_
    refine bq_n ?_
    refine nq ?_
    refine AW.region ?_
    refine AL.s rfl (op_addw (.r rfl) (.r rfl)) ?_
    refine AL.s rfl (op_moveD (.e rfl)) ?_
    refine AL.nil ?_
    obtain rfl := Option.some.inj hm
    exact nq ⟨_, hI1, ⟨[0], rfl, rfl, rfl, ⟨(.tk rfl), (.d rfl), (.d rfl), (.d rfl), trivial⟩, trivial, (.tok rfl .nil)⟩⟩
  · replace hm := iteF hc1 hm
    refine AW.exit ?_
    refine tq_exit ?_
    refine tq_exit ?_
    obtain rfl := Option.some.inj hm
    obtain rfl := Option.some.inj hI1
    replace hm := hk1
    try dsimp only at hm
    refine bq_hit ?_
    refine nq ?_
    refine AW.seqR ?_
    refine AL.s rfl (op_moveT (.e rfl)) ?_
    refine AL.s rfl (op_assignT (.e rfl)) ?_
    refine AL.nil ?_
    refine AW.ret ?_
    obtain rfl := Option.some.inj hm
    exact EndQ.d (.tmp (.e rfl) .nil) rfl rfl

end Go.Proofs.YtlbiooppadlolaaGreatDoor.Ab
