/- The functions do what they are in plain Lean. Conditions: none. -/
import Derived.Test.YthjinjinnklkgaaTy
import Derived.Test.YthjinjinnklkgaaMi
set_option maxRecDepth 100000
namespace Go.Proofs.Ythjinjinnklkgaa.Ab
open Go
attribute [local irreducible] AL AD AW nlO nlV nlD

set_option maxHeartbeats 20000000 in
theorem m_route_in_ok {n : Nat} {a1 : Int} {a2 : Int} {a3 : Int} {r : Bool} (hm : m_route_in n a1 a2 a3 = some r) : Fn Try.prog 29 [(.int .i64 a1), (.int .i64 a2), (.int .i64 a3)] (.bool r) := by
  unfold m_route_in at hm
  refine Fn.of_AW (fnn := Try.f29) Try.func29 rfl (Nat.le_of_ble_eq_true rfl) (fun g0 w0 hw0 => ?_)
  refine AW.seqR ?_
  refine AL.s rfl (op_assignD (.e rfl)) ?_
  refine AL.nil ?_
  refine AW.seqR ?_
  refine AL.s rfl (op_moveD (.e rfl)) ?_
  refine AL.s rfl (op_moveD (.e rfl)) ?_
  refine AL.s rfl (op_geq (.r rfl) (.r rfl)) ?_
  refine AL.s rfl (op_moveD (.e rfl)) ?_
  refine AL.sT rfl rfl rfl rfl (fun g => op_moveD (.e rfl)) ?_
  refine AL.sT rfl rfl rfl rfl (fun g => op_moveD (.e rfl)) ?_
  refine AL.sT rfl rfl rfl rfl (fun g => op_leq (.we g rfl rfl) (.we g rfl rfl)) ?_
  refine AL.s rfl (op_and (.r rfl) (fun h => (.we h rfl rfl)) rfl) ?_
  refine AL.s rfl (op_assignD (.e rfl)) ?_
  refine AL.nil ?_
  refine AW.ret ?_
  obtain rfl := Option.some.inj hm
  exact EndQ.d (.tmp (.e rfl) .nil) rfl rfl

set_option maxHeartbeats 20000000 in
theorem m_slices_IndexFunc_int_int_ok {n : Nat} {H : List HE} {a1 : (List (List Int))} {p2 : (List Int) → Option Bool} {r : Int} {ff_p2 : FuncId} {caps_p2 : List V} (hff_p2 : ∀ (a : Array Value) (w : World), (callFunc ff_p2 a).run Try.prog w = .ok (.enter ff_p2 a) w) (hF_p2 : ∀ (y1 : (List Int)) (b : Bool), p2 y1 = some b → ACall Try.prog ff_p2 (.d (.sl (y1.map D.i)) :: caps_p2) H fun r' H' => r' = .d (.bool b) ∧ H' = H) (hm : m_slices_IndexFunc_int_int n a1 p2 = some r) : ACall Try.prog 49 [.d (.sl (a1.map (esl D.i))), .fn (.func ff_p2) caps_p2] H fun r' H' => r' = .d (.int .i64 r) ∧ H' = H := by
  unfold m_slices_IndexFunc_int_int at hm
  refine ACall.of_AW (fnn := Try.f49) Try.func49 rfl (Nat.le_of_ble_eq_true rfl) (fun g0 w0 hw0 => ?_)
  refine AW.seqR ?_
  refine AL.s rfl (op_assignD (.e rfl)) ?_
  refine AL.nil ?_
  refine AW.seq ?_
  refine AW.seqR ?_
  refine AL.s rfl (op_moveD (.e rfl)) ?_
  refine AL.s rfl (op_lenM (f := (esl D.i)) (.r rfl) sl22) ?_
  refine AL.s rfl (op_moveD (.e rfl)) ?_
  refine AL.nil ?_
  refine AW.block ?_
  obtain ⟨t_1, hI1, hk1⟩ := bindE hm
  refine AW.loopN (σ := Int) (τ := (Int ⊕ Unit)) [0, 1, 7] (fun x => [(8, .d (.int .i64 x))]) hI1 ⟨by first | exact .of rfl | exact .d rfl, trivial⟩ ?_
  rintro n1 s3 hI1
  obtain ⟨y_1, hm, hI1⟩ := iterS hI1
  replace hm : m_slices_IndexFunc_int_int_L1 n _ _ s3 = some y_1 := hm
  unfold m_slices_IndexFunc_int_int_L1 at hm
  try dsimp only at hm
  refine AW.seqR ?_
  refine AL.s rfl (op_lss (.r rfl) (.r rfl)) ?_
  refine AL.nil ?_
  refine AW.seq ?_
  refine AW.cond (b := _) rfl (fun hc1 => ?_) (fun hc1 => ?_)
  · replace hm := iteT hc1 hm
    refine AW.skip ?_
    refine nq ?_
    refine AW.seq ?_
    refine AW.block ?_
    refine AW.seqR ?_
    refine AL.s rfl (op_moveD (.e rfl)) ?_
    refine AL.s rfl (op_assignD (.e rfl)) ?_
    refine AL.nil ?_
    refine AW.seqR ?_
    refine AL.s rfl (op_moveF (.e rfl)) ?_
    refine AL.s rfl (op_moveD (.e rfl)) ?_
    refine AL.s rfl (op_moveD (.e rfl)) ?_
    obtain ⟨v4, hv4, hm⟩ := bindE hm
    refine AL.s rfl (op_indexAddrM (f := (esl D.i)) (.r rfl) (.r rfl) hv4 En.sl sl22) ?_
    refine AL.s rfl (op_load_vp1 (.e rfl) rfl sc23) ?_
    obtain ⟨v5, hv5, hm⟩ := bindE hm
    refine AL.s rfl (op_call hff_p2 (.e rfl) (.cons (.e rfl) .nil) (hF_p2 _ _ hv5)) ?_
    refine AL.nil ?_
    refine AW.cond (b := _) rfl (fun hc2 => ?_) (fun hc2 => ?_)
    · replace hm := iteT hc2 hm
      refine AW.seqR ?_
      refine AL.s rfl (op_moveD (.e rfl)) ?_
      refine AL.s rfl (op_assignD (.e rfl)) ?_
      refine AL.nil ?_
      refine AW.ret ?_
      refine bq_ret ?_
      refine tq_ret ?_
      refine tq_ret ?_
      obtain rfl := Option.some.inj hm
      obtain rfl := Option.some.inj hI1
      replace hm := hk1
      try dsimp only at hm
      refine bq_ret ?_
      refine tq_ret ?_
      obtain rfl := Option.some.inj hm
      exact ⟨_, _, (.tmp (.e rfl) .nil), .d rfl, rfl, rfl⟩
    · replace hm := iteF hc2 hm
      refine AW.skip ?_
      refine bq_n ?_
      refine nq ?_
      refine AW.region ?_
      refine AL.s rfl (op_addw (.r rfl) (.r rfl)) ?_
      refine AL.s rfl (op_moveD (.e rfl)) ?_
      refine AL.nil ?_
      obtain rfl := Option.some.inj hm
      exact nq ⟨_, hI1, ⟨by first | exact .of rfl | exact .d rfl, trivial⟩, ⟨rfl, rfl, rfl, trivial⟩, rfl⟩
  · replace hm := iteF hc1 hm
    refine AW.exit ?_
    refine tq_exit ?_
    refine tq_exit ?_
    obtain rfl := Option.some.inj hm
    obtain rfl := Option.some.inj hI1
    replace hm := hk1
    try dsimp only at hm
    refine bq_hit ?_
    refine nq ?_
    refine AW.seqR ?_
    refine AL.s rfl (op_assignD (.e rfl)) ?_
    refine AL.nil ?_
    refine AW.ret ?_
    obtain rfl := Option.some.inj hm
    exact ⟨_, _, (.tmp (.e rfl) .nil), .d rfl, rfl, rfl⟩

set_option maxHeartbeats 20000000 in
theorem m_slices_ContainsFunc_int_int_ok {n : Nat} {H : List HE} {a1 : (List (List Int))} {p2 : (List Int) → Option Bool} {r : Bool} {ff_p2 : FuncId} {caps_p2 : List V} (hff_p2 : ∀ (a : Array Value) (w : World), (callFunc ff_p2 a).run Try.prog w = .ok (.enter ff_p2 a) w) (hF_p2 : ∀ (y1 : (List Int)) (b : Bool), p2 y1 = some b → ACall Try.prog ff_p2 (.d (.sl (y1.map D.i)) :: caps_p2) H fun r' H' => r' = .d (.bool b) ∧ H' = H) (hm : m_slices_ContainsFunc_int_int n a1 p2 = some r) : ACall Try.prog 33 [.d (.sl (a1.map (esl D.i))), .fn (.func ff_p2) caps_p2] H fun r' H' => r' = .d (.bool r) ∧ H' = H := by
  unfold m_slices_ContainsFunc_int_int at hm
  refine ACall.of_AW (fnn := Try.f33) Try.func33 rfl (Nat.le_of_ble_eq_true rfl) (fun g0 w0 hw0 => ?_)
  refine AW.seqR ?_
  refine AL.s rfl (op_assignD (.e rfl)) ?_
  refine AL.nil ?_
  refine AW.seqR ?_
  refine AL.s rfl (op_moveD (.e rfl)) ?_
  refine AL.s rfl (op_moveF (.e rfl)) ?_
  obtain ⟨v3, hv3, hm⟩ := bindE hm
  refine AL.s rfl (op_call Try.call49 (.e rfl) (.cons (.e rfl) (.cons (.e rfl) .nil)) (m_slices_IndexFunc_int_int_ok hff_p2 hF_p2 hv3)) ?_
  refine AL.s rfl (op_geq (.r rfl) (.r rfl)) ?_
  refine AL.s rfl (op_assignD (.e rfl)) ?_
  refine AL.nil ?_
  refine AW.ret ?_
  obtain rfl := Option.some.inj hm
  exact ⟨_, _, (.tmp (.e rfl) .nil), .d rfl, rfl, rfl⟩

set_option maxHeartbeats 20000000 in
theorem m_slices_IndexFunc_int_intx_ok {n : Nat} {H : List HE} {a1 : (List Int)} {p2 : Int → Option Bool} {r : Int} {ff_p2 : FuncId} {caps_p2 : List V} (hff_p2 : ∀ (a : Array Value) (w : World), (callFunc ff_p2 a).run Try.prog w = .ok (.enter ff_p2 a) w) (hF_p2 : ∀ (y1 : Int) (b : Bool), p2 y1 = some b → ACall Try.prog ff_p2 (.d (.int .i64 y1) :: caps_p2) H fun r' H' => r' = .d (.bool b) ∧ H' = H) (hm : m_slices_IndexFunc_int_intx n a1 p2 = some r) : ACall Try.prog 48 [.d (.sl (a1.map D.i)), .fn (.func ff_p2) caps_p2] H fun r' H' => r' = .d (.int .i64 r) ∧ H' = H := by
  unfold m_slices_IndexFunc_int_intx at hm
  refine ACall.of_AW (fnn := Try.f48) Try.func48 rfl (Nat.le_of_ble_eq_true rfl) (fun g0 w0 hw0 => ?_)
  refine AW.seqR ?_
  refine AL.s rfl (op_assignD (.e rfl)) ?_
  refine AL.nil ?_
  refine AW.seq ?_
  refine AW.seqR ?_
  refine AL.s rfl (op_moveD (.e rfl)) ?_
  refine AL.s rfl (op_lenM (f := D.i) (.r rfl) sl23) ?_
  refine AL.s rfl (op_moveD (.e rfl)) ?_
  refine AL.nil ?_
  refine AW.block ?_
  obtain ⟨t_1, hI1, hk1⟩ := bindE hm
  refine AW.loopN (σ := Int) (τ := (Int ⊕ Unit)) [0, 1, 7] (fun x => [(8, .d (.int .i64 x))]) hI1 ⟨by first | exact .of rfl | exact .d rfl, trivial⟩ ?_
  rintro n1 s3 hI1
  obtain ⟨y_1, hm, hI1⟩ := iterS hI1
  replace hm : m_slices_IndexFunc_int_intx_L1 n _ _ s3 = some y_1 := hm
  unfold m_slices_IndexFunc_int_intx_L1 at hm
  try dsimp only at hm
  refine AW.seqR ?_
  refine AL.s rfl (op_lss (.r rfl) (.r rfl)) ?_
  refine AL.nil ?_
  refine AW.seq ?_
  refine AW.cond (b := _) rfl (fun hc1 => ?_) (fun hc1 => ?_)
  · replace hm := iteT hc1 hm
    refine AW.skip ?_
    refine nq ?_
    refine AW.seq ?_
    refine AW.block ?_
    refine AW.seqR ?_
    refine AL.s rfl (op_moveD (.e rfl)) ?_
    refine AL.s rfl (op_assignD (.e rfl)) ?_
    refine AL.nil ?_
    refine AW.seqR ?_
    refine AL.s rfl (op_moveF (.e rfl)) ?_
    refine AL.s rfl (op_moveD (.e rfl)) ?_
    refine AL.s rfl (op_moveD (.e rfl)) ?_
    obtain ⟨v4, hv4, hm⟩ := bindE hm
    refine AL.s rfl (op_indexAddrM (f := D.i) (.r rfl) (.r rfl) hv4 En.i sl23) ?_
    refine AL.s rfl (op_load_vp1 (.e rfl) rfl sc3) ?_
    obtain ⟨v5, hv5, hm⟩ := bindE hm
    refine AL.s rfl (op_call hff_p2 (.e rfl) (.cons (.e rfl) .nil) (hF_p2 _ _ hv5)) ?_
    refine AL.nil ?_
    refine AW.cond (b := _) rfl (fun hc2 => ?_) (fun hc2 => ?_)
    · replace hm := iteT hc2 hm
      refine AW.seqR ?_
      refine AL.s rfl (op_moveD (.e rfl)) ?_
      refine AL.s rfl (op_assignD (.e rfl)) ?_
      refine AL.nil ?_
      refine AW.ret ?_
      refine bq_ret ?_
      refine tq_ret ?_
      refine tq_ret ?_
      obtain rfl := Option.some.inj hm
      obtain rfl := Option.some.inj hI1
      replace hm := hk1
      try dsimp only at hm
      refine bq_ret ?_
      refine tq_ret ?_
      obtain rfl := Option.some.inj hm
      exact ⟨_, _, (.tmp (.e rfl) .nil), .d rfl, rfl, rfl⟩
    · replace hm := iteF hc2 hm
      refine AW.skip ?_
      refine bq_n ?_
      refine nq ?_
      refine AW.region ?_
      refine AL.s rfl (op_addw (.r rfl) (.r rfl)) ?_
      refine AL.s rfl (op_moveD (.e rfl)) ?_
      refine AL.nil ?_
      obtain rfl := Option.some.inj hm
      exact nq ⟨_, hI1, ⟨by first | exact .of rfl | exact .d rfl, trivial⟩, ⟨rfl, rfl, rfl, trivial⟩, rfl⟩
  · replace hm := iteF hc1 hm
    refine AW.exit ?_
    refine tq_exit ?_
    refine tq_exit ?_
    obtain rfl := Option.some.inj hm
    obtain rfl := Option.some.inj hI1
    replace hm := hk1
    try dsimp only at hm
    refine bq_hit ?_
    refine nq ?_
    refine AW.seqR ?_
    refine AL.s rfl (op_assignD (.e rfl)) ?_
    refine AL.nil ?_
    refine AW.ret ?_
    obtain rfl := Option.some.inj hm
    exact ⟨_, _, (.tmp (.e rfl) .nil), .d rfl, rfl, rfl⟩

set_option maxHeartbeats 20000000 in
theorem m_slices_ContainsFunc_int_intx_ok {n : Nat} {H : List HE} {a1 : (List Int)} {p2 : Int → Option Bool} {r : Bool} {ff_p2 : FuncId} {caps_p2 : List V} (hff_p2 : ∀ (a : Array Value) (w : World), (callFunc ff_p2 a).run Try.prog w = .ok (.enter ff_p2 a) w) (hF_p2 : ∀ (y1 : Int) (b : Bool), p2 y1 = some b → ACall Try.prog ff_p2 (.d (.int .i64 y1) :: caps_p2) H fun r' H' => r' = .d (.bool b) ∧ H' = H) (hm : m_slices_ContainsFunc_int_intx n a1 p2 = some r) : ACall Try.prog 30 [.d (.sl (a1.map D.i)), .fn (.func ff_p2) caps_p2] H fun r' H' => r' = .d (.bool r) ∧ H' = H := by
  unfold m_slices_ContainsFunc_int_intx at hm
  refine ACall.of_AW (fnn := Try.f30) Try.func30 rfl (Nat.le_of_ble_eq_true rfl) (fun g0 w0 hw0 => ?_)
  refine AW.seqR ?_
  refine AL.s rfl (op_assignD (.e rfl)) ?_
  refine AL.nil ?_
  refine AW.seqR ?_
  refine AL.s rfl (op_moveD (.e rfl)) ?_
  refine AL.s rfl (op_moveF (.e rfl)) ?_
  obtain ⟨v3, hv3, hm⟩ := bindE hm
  refine AL.s rfl (op_call Try.call48 (.e rfl) (.cons (.e rfl) (.cons (.e rfl) .nil)) (m_slices_IndexFunc_int_intx_ok hff_p2 hF_p2 hv3)) ?_
  refine AL.s rfl (op_geq (.r rfl) (.r rfl)) ?_
  refine AL.s rfl (op_assignD (.e rfl)) ?_
  refine AL.nil ?_
  refine AW.ret ?_
  obtain rfl := Option.some.inj hm
  exact ⟨_, _, (.tmp (.e rfl) .nil), .d rfl, rfl, rfl⟩

set_option maxHeartbeats 20000000 in
theorem m_route_Valid_1_1_ok {n : Nat} {a1 : Int} {r : Bool} (hm : m_route_Valid_1_1 n a1 = some r) : Fn Try.prog 32 [(.int .i64 a1)] (.bool r) := by
  unfold m_route_Valid_1_1 at hm
  refine Fn.of_AW (fnn := Try.f32) Try.func32 rfl (Nat.le_of_ble_eq_true rfl) (fun g0 w0 hw0 => ?_)
  refine AW.seqR ?_
  refine AL.s rfl (op_assignD (.e rfl)) ?_
  refine AL.nil ?_
  refine AW.seqR ?_
  refine AL.s rfl (op_moveD (.e rfl)) ?_
  obtain ⟨v2, hv2, hm⟩ := bindE hm
  refine AL.s rfl (op_fn Try.call29 (.e rfl) (.cons (.r rfl) (.cons (.r rfl) (.cons (.r rfl) .nil))) (m_route_in_ok hv2)) ?_
  refine AL.s rfl (op_not (.r rfl)) ?_
  refine AL.s rfl (op_assignD (.e rfl)) ?_
  refine AL.nil ?_
  refine AW.ret ?_
  obtain rfl := Option.some.inj hm
  exact EndQ.d (.tmp (.e rfl) .nil) rfl rfl

set_option maxHeartbeats 20000000 in
theorem m_route_Valid_1_ok {n : Nat} {a1 : (List Int)} {c2 : SProblem} {r : Bool} (hm : m_route_Valid_1 n a1 c2 = some r) : FnR Try.prog 31 [.d (.sl (a1.map D.i)), .ptr 0 0] [.row [.d (.sl (c2.fCosts.map (esl D.i))), .d (.sl (c2.fRoom.map D.i)), .d (.int .i64 c2.fPenalty)]] (.bool r) := by
  unfold m_route_Valid_1 at hm
  refine ACall.of_AW (fnn := Try.f31) Try.func31 rfl (Nat.le_of_ble_eq_true rfl) (fun g0 w0 hw0 => ?_)
  refine AW.seqR ?_
  refine AL.s rfl (op_assignD (.e rfl)) ?_
  refine AL.nil ?_
  refine AW.seqR ?_
  refine AL.s rfl (op_moveD (.e rfl)) ?_
  refine AL.s rfl (op_lenM (f := D.i) (.r rfl) sl23) ?_
  refine AL.s rfl (op_field_ptr (.e rfl) fd30_1) ?_
  refine AL.s rfl (op_load_ptr1 (.e rfl) rfl rfl sc23) ?_
  refine AL.s rfl (op_lenM (f := D.i) (.r rfl) sl23) ?_
  refine AL.s rfl (op_neq (.r rfl) (.r rfl)) ?_
  refine AL.s rfl (op_moveD (.e rfl)) ?_
  refine AL.sF rfl rfl rfl rfl (fun g => op_moveD (.e rfl)) ?_
  obtain ⟨v3, hv3, hm⟩ := bindE hm
  refine AL.sF rfl rfl rfl rfl (fun g => op_call Try.call30 (.e rfl) (.cons (.we (nt g) rfl) (.cons (.e rfl) .nil)) (m_slices_ContainsFunc_int_intx_ok Try.call32 (fun _ _ hb => (m_route_Valid_1_1_ok hb).at _) (iteT (nt g) hv3))) ?_
  refine AL.s rfl (op_or (.r rfl) rfl (fun h => (.we (nt h) rfl rfl))) ?_
  refine AL.s rfl (op_assignD (.e rfl)) ?_
  refine AL.nil ?_
  refine AW.ret ?_
  obtain rfl := Option.some.inj hm
  exact ⟨_, _, (.tmp (.e rfl) .nil), .d rfl, rfl, rfl⟩

set_option maxHeartbeats 20000000 in
theorem m_route_Valid_2_ok {n : Nat} {a1 : Int} {r : Bool} (hm : m_route_Valid_2 n a1 = some r) : Fn Try.prog 34 [(.int .i64 a1)] (.bool r) := by
  unfold m_route_Valid_2 at hm
  refine Fn.of_AW (fnn := Try.f34) Try.func34 rfl (Nat.le_of_ble_eq_true rfl) (fun g0 w0 hw0 => ?_)
  refine AW.seqR ?_
  refine AL.s rfl (op_assignD (.e rfl)) ?_
  refine AL.nil ?_
  refine AW.seqR ?_
  refine AL.s rfl (op_moveD (.e rfl)) ?_
  obtain ⟨v2, hv2, hm⟩ := bindE hm
  refine AL.s rfl (op_fn Try.call29 (.e rfl) (.cons (.r rfl) (.cons (.r rfl) (.cons (.r rfl) .nil))) (m_route_in_ok hv2)) ?_
  refine AL.s rfl (op_not (.r rfl)) ?_
  refine AL.s rfl (op_assignD (.e rfl)) ?_
  refine AL.nil ?_
  refine AW.ret ?_
  obtain rfl := Option.some.inj hm
  exact EndQ.d (.tmp (.e rfl) .nil) rfl rfl

set_option maxHeartbeats 20000000 in
theorem m_route_Valid_ok {n : Nat} {a1 : SProblem} {r : Bool} (hm : m_route_Valid n a1 = some r) : Fn Try.prog 14 [(SProblem.e a1)] (.bool r) := by
  unfold m_route_Valid at hm
  refine Fn.of_AW (fnn := Try.f14) Try.func14 rfl (Nat.le_of_ble_eq_true rfl) (fun g0 w0 hw0 => ?_)
  refine AW.seqR ?_
  refine AL.s rfl (op_box (n := 0) (.e rfl) rfl rfl rfl) ?_
  refine AL.s rfl (op_assignD (.e rfl)) ?_
  refine AL.nil ?_
  refine AW.seq ?_
  refine AW.seqR ?_
  refine AL.s rfl (op_field_ptr (.e rfl) fd30_0) ?_
  refine AL.s rfl (op_load_ptr1 (.e rfl) rfl rfl sc22) ?_
  refine AL.s rfl (op_lenM (f := (esl D.i)) (.r rfl) sl22) ?_
  refine AL.s rfl (op_gtr (.r rfl) (.r rfl)) ?_
  refine AL.s rfl (op_moveD (.e rfl)) ?_
  refine AL.sF rfl rfl rfl rfl (fun g => op_field_ptr (.e rfl) fd30_1) ?_
  refine AL.sF rfl rfl rfl rfl (fun g => op_load_ptr1 (.we (nt g) rfl) rfl rfl sc23) ?_
  refine AL.sF rfl rfl rfl rfl (fun g => op_lenM (f := D.i) (.we (nt g) rfl rfl) sl23) ?_
  refine AL.sF rfl rfl rfl rfl (fun g => op_gtr (.we (nt g) rfl rfl) (.r rfl)) ?_
  refine AL.s rfl (op_or (.r rfl) rfl (fun h => (.we (nt h) rfl rfl))) ?_
  refine AL.s rfl (op_moveD (.e rfl)) ?_
  refine AL.sF rfl rfl rfl rfl (fun g => op_field_ptr (.e rfl) fd30_2) ?_
  refine AL.sF rfl rfl rfl rfl (fun g => op_load_ptr1 (.we (nt g) rfl) rfl rfl sc3) ?_
  obtain ⟨v2, hv2, hm⟩ := bindE hm
  refine AL.sF rfl rfl rfl rfl (fun g => op_fn Try.call29 (.e rfl) (.cons (.we (nt g) rfl rfl) (.cons (.r rfl) (.cons (.r rfl) .nil))) (m_route_in_ok (iteT (nt g) hv2))) ?_
  refine AL.sF rfl rfl rfl rfl (fun g => op_not (.we (nt g) rfl rfl)) ?_
  refine AL.s rfl (op_or (.r rfl) rfl (fun h => (.we (nt h) rfl rfl))) ?_
  refine AL.nil ?_
  refine AW.cond (b := _) rfl (fun hc1 => ?_) (fun hc1 => ?_)
  · replace hm := iteT hc1 hm
    refine AW.reset 0 [] [.row [.d (.sl (a1.fCosts.map (esl D.i))), .d (.sl (a1.fRoom.map D.i)), .d (.int .i64 a1.fPenalty)]] (WOK.g0 hw0 (by simp)) ⟨[0], rfl, rfl, rfl, trivial, trivial, (.row rfl (.cons (.d rfl) (.cons (.d rfl) (.cons (.d rfl) .nil))) .nil)⟩ ?_
    refine AW.seqR ?_
    refine AL.s rfl (op_assignD (.e rfl)) ?_
    refine AL.nil ?_
    refine AW.ret ?_
    refine tq_ret ?_
    obtain rfl := Option.some.inj hm
    exact EndQ.d (.tmp (.e rfl) .nil) rfl rfl
  · replace hm := iteF hc1 hm
    refine AW.skip ?_
    refine nq ?_
    refine AW.seqR ?_
    refine AL.s rfl (op_makeFunc (.cons (.e rfl) .nil)) ?_
    refine AL.s rfl (op_assignF (.e rfl)) ?_
    refine AL.nil ?_
    refine AW.seqR ?_
    refine AL.s rfl (op_field_ptr (.e rfl) fd30_0) ?_
    refine AL.s rfl (op_load_ptr1 (.e rfl) rfl rfl sc22) ?_
    refine AL.s rfl (op_moveF (.e rfl)) ?_
    obtain ⟨v3, hv3, hm⟩ := bindE hm
    refine AL.s rfl (op_call Try.call33 (.e rfl) (.cons (.e rfl) (.cons (.e rfl) .nil)) (m_slices_ContainsFunc_int_int_ok Try.call31 (fun _ _ hb => FnR.at [0] (m_route_Valid_1_ok hb) (.cons rfl rfl .nil) (.cons (.d _) (.cons (.ptr rfl) .nil)) rfl) hv3)) ?_
    refine AL.s rfl (op_not (.r rfl)) ?_
    refine AL.s rfl (op_moveD (.e rfl)) ?_
    refine AL.sT rfl rfl rfl rfl (fun g => op_field_ptr (.e rfl) fd30_1) ?_
    refine AL.sT rfl rfl rfl rfl (fun g => op_load_ptr1 (.we g rfl) rfl rfl sc23) ?_
    obtain ⟨v4, hv4, hm⟩ := bindE hm
    refine AL.sT rfl rfl rfl rfl (fun g => op_call Try.call30 (.e rfl) (.cons (.we g rfl) (.cons (.e rfl) .nil)) (m_slices_ContainsFunc_int_intx_ok Try.call34 (fun _ _ hb => (m_route_Valid_2_ok hb).at _) (iteT g hv4))) ?_
    refine AL.sT rfl rfl rfl rfl (fun g => op_not (.we g rfl rfl)) ?_
    refine AL.s rfl (op_and (.r rfl) (fun h => (.we h rfl rfl)) rfl) ?_
    refine AL.s rfl (op_assignD (.e rfl)) ?_
    refine AL.nil ?_
    refine AW.ret ?_
    obtain rfl := Option.some.inj hm
    exact EndQ.d (.tmp (.e rfl) .nil) rfl rfl

set_option maxHeartbeats 20000000 in
theorem m_route_Problem_cost_ok {n : Nat} {a1 : SProblem} {a2 : (List Int)} {r : (Int × Bool)} (hm : m_route_Problem_cost n a1 a2 = some r) : Fn Try.prog 25 [(SProblem.e a1), (.sl (a2.map D.i))] (.tup [(.int .i64 r.1), (.bool r.2)]) := by
  unfold m_route_Problem_cost at hm
  refine Fn.of_AW (fnn := Try.f25) Try.func25 rfl (Nat.le_of_ble_eq_true rfl) (fun g0 w0 hw0 => ?_)
  refine AW.reset 0 [(0, .d (SProblem.e a1)), (1, .d (.sl (a2.map D.i)))] [] (WOK.g0 hw0 (by simp)) ⟨[], rfl, rfl, rfl, ⟨(.d rfl), (.d rfl), trivial⟩, trivial, .nil⟩ ?_
  refine AW.seqR ?_
  refine AL.s rfl (op_box (n := 0) (.e rfl) rfl rfl rfl) ?_
  refine AL.s rfl (op_assignD (.e rfl)) ?_
  refine AL.s rfl (op_assignD (.e rfl)) ?_
  refine AL.nil ?_
  refine AW.seq ?_
  refine AW.seqR ?_
  refine AL.s rfl (op_moveD (.e rfl)) ?_
  refine AL.s rfl (op_lenM (f := D.i) (.r rfl) sl23) ?_
  refine AL.s rfl (op_field_ptr (.e rfl) fd30_0) ?_
  refine AL.s rfl (op_load_ptr1 (.e rfl) rfl rfl sc22) ?_
  refine AL.s rfl (op_lenM (f := (esl D.i)) (.r rfl) sl22) ?_
  refine AL.s rfl (op_neq (.r rfl) (.r rfl)) ?_
  refine AL.nil ?_
  refine AW.cond (b := _) rfl (fun hc1 => ?_) (fun hc1 => ?_)
  · replace hm := iteT hc1 hm
    refine AW.seqR ?_
    refine AL.s rfl (op_assignD (.e rfl)) ?_
    refine AL.s rfl (op_assignD (.e rfl)) ?_
    refine AL.nil ?_
    refine AW.ret ?_
    refine tq_ret ?_
    obtain rfl := Option.some.inj hm
    exact EndQ.d (.tmp (.e rfl) (.tmp (.e rfl) .nil)) rfl rfl
  · replace hm := iteF hc1 hm
    refine AW.skip ?_
    refine nq ?_
    refine AW.seqR ?_
    refine AL.s rfl (op_field_ptr (.e rfl) fd30_1) ?_
    refine AL.s rfl (op_load_ptr1 (.e rfl) rfl rfl sc23) ?_
    refine AL.s rfl (op_lenM (f := D.i) (.r rfl) sl23) ?_
    obtain ⟨v3, hv3, hm⟩ := bindE hm
    refine AL.s rfl (op_makeM (n := 1) (f := D.i) (.r rfl) sl23 zr3 rfl rfl hv3) ?_
    refine AL.s rfl (op_assignH (.e rfl)) ?_
    refine AL.nil ?_
    refine AW.seqR ?_
    refine AL.s rfl (op_assignD (.e rfl)) ?_
    refine AL.nil ?_
    refine AW.seq ?_
    refine AW.seqR ?_
    refine AL.s rfl (op_moveD (.e rfl)) ?_
    refine AL.s rfl (op_lenM (f := D.i) (.r rfl) sl23) ?_
    refine AL.s rfl (op_moveD (.e rfl)) ?_
    refine AL.nil ?_
    refine AW.block ?_
    obtain ⟨t_1, hI1, hk1⟩ := bindE hm
    refine AW.loopS (σ := (Int × Int × (List Int))) (τ := ((Int × Bool) ⊕ (Int × (List Int)))) 0 (fun x => [(2, .ptr 0 0), (6, .hs 1 0 x.2.2.length 1), (7, .d (.int .i64 x.1)), (20, .d (.sl (a2.map D.i))), (21, .d (.int .i64 (a2.length : Int))), (22, .d (.int .i64 x.2.1))]) (fun x => [.row [.d (.sl (a1.fCosts.map (esl D.i))), .d (.sl (a1.fRoom.map D.i)), .d (.int .i64 a1.fPenalty)], .lst (x.2.2.map D.i) 3 1]) hI1 (WOK.g0 hw0 (by simp)) ⟨[0, 1], rfl, rfl, rfl, ⟨(.ptr rfl), (.hs rfl rfl), (.d rfl), (.d rfl), (.d rfl), (.d rfl), trivial⟩, trivial, (.row rfl (.cons (.d rfl) (.cons (.d rfl) (.cons (.d rfl) .nil))) (.lst rfl .nil))⟩ ?_
    rintro n1 ⟨s4, s5, s6⟩ hI1
    obtain ⟨y_1, hm, hI1⟩ := iterS hI1
    replace hm : m_route_Problem_cost_L1 n _ _ s4 s5 s6 = some y_1 := hm
    unfold m_route_Problem_cost_L1 at hm
    try dsimp only at hm
    refine AW.seqR ?_
    refine AL.s rfl (op_lss (.r rfl) (.r rfl)) ?_
    refine AL.nil ?_
    refine AW.seq ?_
    refine AW.cond (b := _) rfl (fun hc2 => ?_) (fun hc2 => ?_)
    · replace hm := iteT hc2 hm
      refine AW.skip ?_
      refine nq ?_
      obtain ⟨t_j1, hm, hkj1⟩ := bindE hm
      refine AW.cutS (α := (Int × (List Int))) 0 (fun x => (.inl x) = t_j1) (fun x => [(2, .ptr 0 0), (6, .hs 1 0 x.2.length 1), (7, .d (.int .i64 x.1)), (20, .d (.sl (a2.map D.i))), (21, .d (.int .i64 (a2.length : Int))), (22, .d (.int .i64 s5))]) (fun x => [.row [.d (.sl (a1.fCosts.map (esl D.i))), .d (.sl (a1.fRoom.map D.i)), .d (.int .i64 a1.fPenalty)], .lst (x.2.map D.i) 3 1]) (WOK.g0 hw0 (by simp)) ?_ ?_
      · skip
        refine AW.block ?_
        refine AW.reset 0 [(2, .ptr 0 0), (6, .hs 1 0 s6.length 1), (7, .d (.int .i64 s4)), (20, .d (.sl (a2.map D.i))), (21, .d (.int .i64 (a2.length : Int))), (22, .d (.int .i64 s5))] [.row [.d (.sl (a1.fCosts.map (esl D.i))), .d (.sl (a1.fRoom.map D.i)), .d (.int .i64 a1.fPenalty)], .lst (s6.map D.i) 3 1] (WOK.g0 hw0 (by simp)) ⟨[0, 1], rfl, rfl, rfl, ⟨(.ptr rfl), (.hs rfl rfl), (.d rfl), (.d rfl), (.d rfl), (.d rfl), trivial⟩, trivial, (.row rfl (.cons (.d rfl) (.cons (.d rfl) (.cons (.d rfl) .nil))) (.lst rfl .nil))⟩ ?_
        refine AW.seqR ?_
        refine AL.s rfl (op_moveD (.e rfl)) ?_
        obtain ⟨v7, hv7, hm⟩ := bindE hm
        refine AL.s rfl (op_indexAddrM (f := D.i) (.r rfl) (.r rfl) hv7 En.i sl23) ?_
        refine AL.s rfl (op_load_vp1 (.e rfl) rfl sc3) ?_
        refine AL.s rfl (op_assignD (.e rfl)) ?_
        refine AL.s rfl (op_assignD (.e rfl)) ?_
        refine AL.nil ?_
        refine AW.seq ?_
        refine AW.seqR ?_
        refine AL.s rfl (op_moveD (.e rfl)) ?_
        refine AL.s rfl (op_eql (.r rfl) (.r rfl)) ?_
        refine AL.nil ?_
        refine AW.cond (b := _) rfl (fun hc3 => ?_) (fun hc3 => ?_)
        · replace hm := iteT hc3 hm
          refine AW.seqR ?_
          refine AL.s rfl (op_moveD (.e rfl)) ?_
          refine AL.s rfl (op_field_ptr (.e rfl) fd30_2) ?_
          refine AL.s rfl (op_load_ptr1 (.e rfl) rfl rfl sc3) ?_
          refine AL.s rfl (op_addw (.r rfl) (.r rfl)) ?_
          refine AL.s rfl (op_assignD (.e rfl)) ?_
          refine AL.nil ?_
          refine AW.exit ?_
          refine tq_exit ?_
          refine bq_hit ?_
          obtain rfl := Option.some.inj hm
          exact nq ⟨_, rfl, ⟨[0, 1], rfl, rfl, rfl, ⟨(.ptr rfl), (.hs rfl rfl), (.d rfl), (.d rfl), (.d rfl), (.d rfl), trivial⟩, trivial, (.row rfl (.cons (.d rfl) (.cons (.d rfl) (.cons (.d rfl) .nil))) (.lst rfl .nil))⟩⟩
        · replace hm := iteF hc3 hm
          refine AW.skip ?_
          refine nq ?_
          refine AW.seq ?_
          refine AW.seqD [([], []), ([], []), ([0], []), ([], []), ([], []), ([], []), ([], []), ([], []), ([], []), ([0], []), ([], []), ([], []), ([], []), ([], []), ([], []), ([], []), ([], []), ([], []), ([], []), ([], []), ([], []), ([1], []), ([1], []), ([], []), ([0], []), ([], []), ([], []), ([], []), ([], []), ([], [])] mo (by decide +kernel) ?_
          refine AD.s (ws := []) rfl rfl (fun H' _ hH => op_moveD (.e rfl)) ?_
          refine AD.s (ws := []) rfl rfl (fun H' _ hH => op_field_ptr (.e rfl) fd30_1) ?_
          refine AD.s (ws := []) rfl rfl (fun H' _ hH => op_load_ptr1 (.e rfl) ((hH _ (by simp)).trans rfl) rfl sc23) ?_
          refine AD.s (ws := []) rfl rfl (fun H' _ hH => op_lenM (f := D.i) (.r rfl) sl23) ?_
          refine AD.s (ws := []) rfl rfl (fun H' _ hH => op_subw (.r rfl) (.r rfl)) ?_
          obtain ⟨v8, hv8, hm⟩ := bindE hm
          refine AD.s (ws := []) rfl rfl (fun H' _ hH => op_fn Try.call29 (.e rfl) (.cons (.r rfl) (.cons (.r rfl) (.cons (.r rfl) .nil))) (m_route_in_ok hv8)) ?_
          refine AD.s (ws := []) rfl rfl (fun H' _ hH => op_not (.r rfl)) ?_
          refine AD.s (ws := []) rfl rfl (fun H' _ hH => op_moveD (.e rfl)) ?_
          refine AD.sF rfl rfl rfl rfl (fun g H' _ hH => op_field_ptr (.e rfl) fd30_0) ?_
          refine AD.sF rfl rfl rfl rfl (fun g H' _ hH => op_load_ptr1 (.we (nt g) rfl) ((hH _ (by simp)).trans rfl) rfl sc22) ?_
          refine AD.sF rfl rfl rfl rfl (fun g H' _ hH => op_moveD (.e rfl)) ?_
          obtain ⟨v9, hv9, hm⟩ := bindE hm
          refine AD.sF rfl rfl rfl rfl (fun g H' _ hH => op_indexAddrM (f := (esl D.i)) (.we (nt g) rfl rfl) (.we (nt g) rfl rfl) (iteT (nt g) hv9) En.sl sl22) ?_
          refine AD.sF rfl rfl rfl rfl (fun g H' _ hH => op_load_vp1 (.we (nt g) rfl) rfl sc23) ?_
          refine AD.sF rfl rfl rfl rfl (fun g H' _ hH => op_moveD (.e rfl)) ?_
          obtain ⟨v10, hv10, hm⟩ := bindE hm
          refine AD.sF rfl rfl rfl rfl (fun g H' _ hH => op_indexAddrM (f := D.i) (.we (nt g) rfl rfl) (.we (nt g) rfl rfl) (iteT (nt g) hv10) En.i sl23) ?_
          refine AD.sF rfl rfl rfl rfl (fun g H' _ hH => op_load_vp1 (.we (nt g) rfl) rfl sc3) ?_
          refine AD.sF rfl rfl rfl rfl (fun g H' _ hH => op_eql (.we (nt g) rfl rfl) (.r rfl)) ?_
          refine AD.s (ws := []) rfl rfl (fun H' _ hH => op_or (.r rfl) rfl (fun h => (.we (nt h) rfl rfl))) ?_
          refine AD.s (ws := []) rfl rfl (fun H' _ hH => op_moveD (.e rfl)) ?_
          refine AD.sF rfl rfl rfl rfl (fun g H' _ hH => op_moveH (.e rfl)) ?_
          refine AD.sF rfl rfl rfl rfl (fun g H' _ hH => op_moveD (.e rfl)) ?_
          obtain ⟨v11, hv11, hm⟩ := bindE hm
          refine AD.sF rfl rfl rfl rfl (fun g H' _ hH => op_indexAddr_hs (f := D.i) (l := s6) (.we (nt g) rfl) ((hH _ (by simp)).trans rfl) rfl (.we (nt g) rfl rfl) (iteT (nt g) hv11) sl23) ?_
          obtain ⟨v12, hv12, hm⟩ := bindE hm
          refine AD.sF rfl rfl rfl rfl (fun g H' _ hH => op_load_lp (f := D.i) (fun _ => rfl) (.we (nt g) rfl) ((hH _ (by simp)).trans rfl) (iteT (nt g) hv12) sc3) ?_
          refine AD.sF rfl rfl rfl rfl (fun g H' _ hH => op_field_ptr (.e rfl) fd30_1) ?_
          refine AD.sF rfl rfl rfl rfl (fun g H' _ hH => op_load_ptr1 (.we (nt g) rfl) ((hH _ (by simp)).trans rfl) rfl sc23) ?_
          refine AD.sF rfl rfl rfl rfl (fun g H' _ hH => op_moveD (.e rfl)) ?_
          obtain ⟨v13, hv13, hm⟩ := bindE hm
          refine AD.sF rfl rfl rfl rfl (fun g H' _ hH => op_indexAddrM (f := D.i) (.we (nt g) rfl rfl) (.we (nt g) rfl rfl) (iteT (nt g) hv13) En.i sl23) ?_
          refine AD.sF rfl rfl rfl rfl (fun g H' _ hH => op_load_vp1 (.we (nt g) rfl) rfl sc3) ?_
          refine AD.sF rfl rfl rfl rfl (fun g H' _ hH => op_eql (.we (nt g) rfl rfl) (.we (nt g) rfl rfl)) ?_
          refine AD.s (ws := []) rfl rfl (fun H' _ hH => op_or (.r rfl) rfl (fun h => (.we (nt h) rfl rfl))) ?_
          refine AD.nil ?_
          refine AW.cond (b := _) rfl (fun hc4 => ?_) (fun hc4 => ?_)
          · replace hm := iteT hc4 hm
            refine AW.seqR ?_
            refine AL.s rfl (op_assignD (.e rfl)) ?_
            refine AL.s rfl (op_assignD (.e rfl)) ?_
            refine AL.nil ?_
            refine AW.ret ?_
            refine tq_ret ?_
            refine bq_ret ?_
            refine tq_ret ?_
            obtain rfl := Option.some.inj hm
            replace hm := hkj1
            try dsimp only at hm
            refine tq_ret ?_
            obtain rfl := Option.some.inj hm
            obtain rfl := Option.some.inj hI1
            replace hm := hk1
            try dsimp only at hm
            refine bq_ret ?_
            refine tq_ret ?_
            obtain rfl := Option.some.inj hm
            exact EndQ.d (.tmp (.e rfl) (.tmp (.e rfl) .nil)) rfl rfl
          · replace hm := iteF hc4 hm
            refine AW.skip ?_
            refine nq ?_
            refine AW.seqR ?_
            refine AL.s rfl (op_moveH (.e rfl)) ?_
            refine AL.s rfl (op_moveD (.e rfl)) ?_
            obtain ⟨v14, hv14, hm⟩ := bindE hm
            refine AL.s rfl (op_indexAddr_hs (f := D.i) (l := s6) (.e rfl) rfl rfl (.r rfl) hv14 sl23) ?_
            obtain ⟨v15, hv15, hm⟩ := bindE hm
            refine AL.s rfl (op_load_lp (f := D.i) (fun _ => rfl) (.e rfl) rfl hv15 sc3) ?_
            refine AL.s rfl (op_addw (.r rfl) (.r rfl)) ?_
            obtain ⟨v16, hv16, hm⟩ := bindE hm
            refine AL.s rfl (op_indexAddr_hs (f := D.i) (l := s6) (.e rfl) rfl rfl (.r rfl) hv16 sl23) ?_
            obtain ⟨v17, hv17, hm⟩ := bindE hm
            refine AL.s rfl (op_store_lp (f := D.i) (fun _ => rfl) (.e rfl) (.r rfl) rfl hv17 ⟨_, rfl, rfl⟩ En.i) ?_
            refine AL.nil ?_
            refine AW.reset 0 [(2, .ptr 0 0), (6, .hs 1 0 v17.length 1), (7, .d (.int .i64 s4)), (8, .d (.int .i64 s5)), (9, .d (.int .i64 v7)), (20, .d (.sl (a2.map D.i))), (21, .d (.int .i64 (a2.length : Int))), (22, .d (.int .i64 s5))] [.row [.d (.sl (a1.fCosts.map (esl D.i))), .d (.sl (a1.fRoom.map D.i)), .d (.int .i64 a1.fPenalty)], .lst (v17.map D.i) 3 1] (WOK.g0 hw0 (by simp)) ⟨[0, 1], rfl, rfl, rfl, ⟨(.ptr rfl), (.hs rfl (setI_len hv17).symm), (.d rfl), (.d rfl), (.d rfl), (.d rfl), (.d rfl), (.d rfl), trivial⟩, trivial, (.row rfl (.cons (.d rfl) (.cons (.d rfl) (.cons (.d rfl) .nil))) (.lst rfl .nil))⟩ ?_
            refine AW.region ?_
            refine AL.s rfl (op_moveD (.e rfl)) ?_
            refine AL.s rfl (op_field_ptr (.e rfl) fd30_0) ?_
            refine AL.s rfl (op_load_ptr1 (.e rfl) rfl rfl sc22) ?_
            refine AL.s rfl (op_moveD (.e rfl)) ?_
            obtain ⟨v18, hv18, hm⟩ := bindE hm
            refine AL.s rfl (op_indexAddrM (f := (esl D.i)) (.r rfl) (.r rfl) hv18 En.sl sl22) ?_
            refine AL.s rfl (op_load_vp1 (.e rfl) rfl sc23) ?_
            refine AL.s rfl (op_moveD (.e rfl)) ?_
            obtain ⟨v19, hv19, hm⟩ := bindE hm
            refine AL.s rfl (op_indexAddrM (f := D.i) (.r rfl) (.r rfl) hv19 En.i sl23) ?_
            refine AL.s rfl (op_load_vp1 (.e rfl) rfl sc3) ?_
            refine AL.s rfl (op_addw (.r rfl) (.r rfl)) ?_
            refine AL.s rfl (op_assignD (.e rfl)) ?_
            refine AL.nil ?_
            refine bq_n ?_
            obtain rfl := Option.some.inj hm
            exact nq ⟨_, rfl, ⟨[0, 1], rfl, rfl, rfl, ⟨(.ptr rfl), (.hs rfl rfl), (.d rfl), (.d rfl), (.d rfl), (.d rfl), trivial⟩, trivial, (.row rfl (.cons (.d rfl) (.cons (.d rfl) (.cons (.d rfl) .nil))) (.lst rfl .nil))⟩⟩
      · rintro ⟨s20, s21⟩ rfl
        replace hm := hkj1
        try dsimp only at hm
        refine AW.region ?_
        refine AL.s rfl (op_addw (.r rfl) (.r rfl)) ?_
        refine AL.s rfl (op_moveD (.e rfl)) ?_
        refine AL.nil ?_
        obtain rfl := Option.some.inj hm
        exact nq ⟨_, hI1, ⟨[0, 1], rfl, rfl, rfl, ⟨(.ptr rfl), (.hs rfl rfl), (.d rfl), (.d rfl), (.d rfl), (.d rfl), trivial⟩, trivial, (.row rfl (.cons (.d rfl) (.cons (.d rfl) (.cons (.d rfl) .nil))) (.lst rfl .nil))⟩⟩
    · replace hm := iteF hc2 hm
      refine AW.exit ?_
      refine tq_exit ?_
      refine tq_exit ?_
      obtain rfl := Option.some.inj hm
      obtain rfl := Option.some.inj hI1
      replace hm := hk1
      try dsimp only at hm
      refine bq_hit ?_
      refine nq ?_
      refine AW.seqR ?_
      refine AL.s rfl (op_moveD (.e rfl)) ?_
      refine AL.s rfl (op_assignD (.e rfl)) ?_
      refine AL.s rfl (op_assignD (.e rfl)) ?_
      refine AL.nil ?_
      refine AW.ret ?_
      obtain rfl := Option.some.inj hm
      exact EndQ.d (.tmp (.e rfl) (.tmp (.e rfl) .nil)) rfl rfl

set_option maxHeartbeats 20000000 in
theorem m_route_Cost_ok {n : Nat} {a1 : SProblem} {a2 : (List Int)} {r : (Int × Int)} (hm : m_route_Cost n a1 a2 = some r) : Fn Try.prog 10 [(SProblem.e a1), (.sl (a2.map D.i))] (.tup [(.int .i64 r.1), (.int .i64 r.2)]) := by
  unfold m_route_Cost at hm
  refine Fn.of_AW (fnn := Try.f10) Try.func10 rfl (Nat.le_of_ble_eq_true rfl) (fun g0 w0 hw0 => ?_)
  refine AW.seqR ?_
  refine AL.s rfl (op_box (n := 0) (.e rfl) rfl rfl rfl) ?_
  refine AL.s rfl (op_assignD (.e rfl)) ?_
  refine AL.s rfl (op_assignD (.e rfl)) ?_
  refine AL.nil ?_
  refine AW.seq ?_
  refine AW.seqR ?_
  refine AL.s rfl (op_load_ptrA (.e rfl) rfl rfl rfl ag30) ?_
  obtain ⟨v3, hv3, hm⟩ := bindE hm
  refine AL.s rfl (op_fn Try.call14 (.e rfl) (.cons (.r rfl) .nil) (m_route_Valid_ok hv3)) ?_
  refine AL.s rfl (op_not (.r rfl)) ?_
  refine AL.nil ?_
  refine AW.cond (b := _) rfl (fun hc1 => ?_) (fun hc1 => ?_)
  · replace hm := iteT hc1 hm
    refine AW.seqR ?_
    refine AL.s rfl (op_assignD (.e rfl)) ?_
    refine AL.s rfl (op_assignD (.e rfl)) ?_
    refine AL.nil ?_
    refine AW.ret ?_
    refine tq_ret ?_
    obtain rfl := Option.some.inj hm
    exact EndQ.d (.tmp (.e rfl) (.tmp (.e rfl) .nil)) rfl rfl
  · replace hm := iteF hc1 hm
    refine AW.skip ?_
    refine nq ?_
    refine AW.seqR ?_
    refine AL.s rfl (op_load_ptrA (.e rfl) rfl rfl rfl ag30) ?_
    refine AL.s rfl (op_moveD (.e rfl)) ?_
    obtain ⟨v4, hv4, hm⟩ := bindE hm
    refine AL.s rfl (op_fn Try.call25 (.e rfl) (.cons (.r rfl) (.cons (.r rfl) .nil)) (m_route_Problem_cost_ok hv4)) ?_
    refine AL.s rfl (op_moveD (.e rfl)) ?_
    refine AL.s rfl (op_extractD (.e rfl) rfl) ?_
    refine AL.s rfl (op_extractD (.e rfl) rfl) ?_
    refine AL.s rfl (op_assignD (.e rfl)) ?_
    refine AL.s rfl (op_assignD (.e rfl)) ?_
    refine AL.nil ?_
    refine AW.seq ?_
    refine AW.seqR ?_
    refine AL.s rfl (op_moveD (.e rfl)) ?_
    refine AL.s rfl (op_not (.r rfl)) ?_
    refine AL.nil ?_
    refine AW.cond (b := _) rfl (fun hc2 => ?_) (fun hc2 => ?_)
    · replace hm := iteT hc2 hm
      refine AW.reset 0 [] [.row [.d (.sl (a1.fCosts.map (esl D.i))), .d (.sl (a1.fRoom.map D.i)), .d (.int .i64 a1.fPenalty)]] (WOK.g0 hw0 (by simp)) ⟨[0], rfl, rfl, rfl, trivial, trivial, (.row rfl (.cons (.d rfl) (.cons (.d rfl) (.cons (.d rfl) .nil))) .nil)⟩ ?_
      refine AW.seqR ?_
      refine AL.s rfl (op_assignD (.e rfl)) ?_
      refine AL.s rfl (op_assignD (.e rfl)) ?_
      refine AL.nil ?_
      refine AW.ret ?_
      refine tq_ret ?_
      obtain rfl := Option.some.inj hm
      exact EndQ.d (.tmp (.e rfl) (.tmp (.e rfl) .nil)) rfl rfl
    · replace hm := iteF hc2 hm
      refine AW.skip ?_
      refine nq ?_
      refine AW.seqR ?_
      refine AL.s rfl (op_moveD (.e rfl)) ?_
      refine AL.s rfl (op_assignD (.e rfl)) ?_
      refine AL.s rfl (op_assignD (.e rfl)) ?_
      refine AL.nil ?_
      refine AW.ret ?_
      obtain rfl := Option.some.inj hm
      exact EndQ.d (.tmp (.e rfl) (.tmp (.e rfl) .nil)) rfl rfl

set_option maxHeartbeats 20000000 in
theorem m_route_Bound_1_ok {n : Nat} {a1 : Int} {r : Bool} (hm : m_route_Bound_1 n a1 = some r) : Fn Try.prog 28 [(.int .i64 a1)] (.bool r) := by
  unfold m_route_Bound_1 at hm
  refine Fn.of_AW (fnn := Try.f28) Try.func28 rfl (Nat.le_of_ble_eq_true rfl) (fun g0 w0 hw0 => ?_)
  refine AW.seqR ?_
  refine AL.s rfl (op_assignD (.e rfl)) ?_
  refine AL.nil ?_
  refine AW.seqR ?_
  refine AL.s rfl (op_moveD (.e rfl)) ?_
  obtain ⟨v2, hv2, hm⟩ := bindE hm
  refine AL.s rfl (op_fn Try.call29 (.e rfl) (.cons (.r rfl) (.cons (.r rfl) (.cons (.r rfl) .nil))) (m_route_in_ok hv2)) ?_
  refine AL.s rfl (op_not (.r rfl)) ?_
  refine AL.s rfl (op_assignD (.e rfl)) ?_
  refine AL.nil ?_
  refine AW.ret ?_
  obtain rfl := Option.some.inj hm
  exact EndQ.d (.tmp (.e rfl) .nil) rfl rfl

end Go.Proofs.Ythjinjinnklkgaa.Ab
