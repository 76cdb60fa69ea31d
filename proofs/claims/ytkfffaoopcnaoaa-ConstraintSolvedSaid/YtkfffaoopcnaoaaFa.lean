/- The functions do what they are in plain Lean. Conditions: none. -/
import Derived.Test.YtkfffaoopcnaoaaTy
import Derived.Test.YtkfffaoopcnaoaaMi
import Derived.Test.YtkfffaoopcnaoaaSo
import Derived.Test.YtkfffaoopcnaoaaEs
set_option maxRecDepth 100000
namespace Go.Proofs.Ytkfffaoopcnaoaa.Ab
open Go
attribute [local irreducible] AL AD AW nlO nlV nlD

set_option maxHeartbeats 20000000 in
theorem m_slices_IndexFunc_api_Constraint_api_Constraint_ok {n : Nat} {H : List HE} {a1 : (List SConstraint)} {p2 : SConstraint → Option Bool} {r : Int} {ff_p2 : FuncId} {caps_p2 : List V} (hff_p2 : ∀ (a : Array Value) (w : World), (callFunc ff_p2 a).run Try.prog w = .ok (.enter ff_p2 a) w) (hF_p2 : ∀ (y1 : SConstraint) (b : Bool), p2 y1 = some b → ACall Try.prog ff_p2 (.d (SConstraint.e y1) :: caps_p2) H fun r' H' => r' = .d (.bool b) ∧ H' = H) (hm : m_slices_IndexFunc_api_Constraint_api_Constraint n a1 p2 = some r) : ACall Try.prog 66 [.d (.sl (a1.map SConstraint.e)), .fn (.func ff_p2) caps_p2] H fun r' H' => r' = .d (.int .i64 r) ∧ H' = H := by
  unfold m_slices_IndexFunc_api_Constraint_api_Constraint at hm
  refine ACall.of_AW (fnn := Try.f66) Try.func66 rfl (Nat.le_of_ble_eq_true rfl) (fun g0 w0 hw0 => ?_)
  refine AW.seqR ?_
  refine AL.s rfl (op_assignD (.e rfl)) ?_
  refine AL.nil ?_
  refine AW.seq ?_
  refine AW.seqR ?_
  refine AL.s rfl (op_moveD (.e rfl)) ?_
  refine AL.s rfl (op_lenM (f := SConstraint.e) (.r rfl) sl22) ?_
  refine AL.s rfl (op_moveD (.e rfl)) ?_
  refine AL.nil ?_
  refine AW.block ?_
  obtain ⟨t_1, hI1, hk1⟩ := bindE hm
  refine AW.loopN (σ := Int) (τ := (Int ⊕ Unit)) [0, 1, 7] (fun x => [(8, .d (.int .i64 x))]) hI1 ⟨by first | exact .of rfl | exact .d rfl, trivial⟩ ?_
  rintro n1 s3 hI1
  obtain ⟨y_1, hm, hI1⟩ := iterS hI1
  replace hm : m_slices_IndexFunc_api_Constraint_api_Constraint_L1 n _ _ s3 = some y_1 := hm
  unfold m_slices_IndexFunc_api_Constraint_api_Constraint_L1 at hm
  try dsimp only at hm
  refine AW.seqR ?_
  refine AL.s rfl (op_lss (.r rfl) (.r rfl)) ?_
  refine AL.nil ?_
  refine AW.seq ?_
  refine AW.cond (b := _) rfl (fun hc1 => ?_) (fun hc1 => ?_)
  · replace hm := iteT hc1 hm
    refine AW.skip ?_
    refine nq ?_
    refine AW.seq ?_
    refine AW.block ?_
    refine AW.seqR ?_
    refine AL.s rfl (op_moveD (.e rfl)) ?_
    refine AL.s rfl (op_assignD (.e rfl)) ?_
    refine AL.nil ?_
    refine AW.seqR ?_
    refine AL.s rfl (op_moveF (.e rfl)) ?_
    refine AL.s rfl (op_moveD (.e rfl)) ?_
    refine AL.s rfl (op_moveD (.e rfl)) ?_
    obtain ⟨v4, hv4, hm⟩ := bindE hm
    refine AL.s rfl (op_indexAddrM (f := SConstraint.e) (.r rfl) (.r rfl) hv4 enSConstraint sl22) ?_
    refine AL.s rfl (op_loadA (.e rfl) rfl ag50) ?_
    obtain ⟨v5, hv5, hm⟩ := bindE hm
    refine AL.s rfl (op_call hff_p2 (.e rfl) (.cons (.e rfl) .nil) (hF_p2 _ _ hv5)) ?_
    refine AL.nil ?_
    refine AW.cond (b := _) rfl (fun hc2 => ?_) (fun hc2 => ?_)
    · replace hm := iteT hc2 hm
      refine AW.seqR ?_
      refine AL.s rfl (op_moveD (.e rfl)) ?_
      refine AL.s rfl (op_assignD (.e rfl)) ?_
      refine AL.nil ?_
      refine AW.ret ?_
      refine bq_ret ?_
      refine tq_ret ?_
      refine tq_ret ?_
      obtain rfl := Option.some.inj hm
      obtain rfl := Option.some.inj hI1
      replace hm := hk1
      try dsimp only at hm
      refine bq_ret ?_
      refine tq_ret ?_
      obtain rfl := Option.some.inj hm
      exact ⟨_, _, (.tmp (.e rfl) .nil), .d rfl, rfl, rfl⟩
    · replace hm := iteF hc2 hm
      refine AW.skip ?_
      refine bq_n ?_
      refine nq ?_
      refine AW.region ?_
      refine AL.s rfl (op_addw (.r rfl) (.r rfl)) ?_
      refine AL.s rfl (op_moveD (.e rfl)) ?_
      refine AL.nil ?_
      obtain rfl := Option.some.inj hm
      exact nq ⟨_, hI1, ⟨by first | exact .of rfl | exact .d rfl, trivial⟩, ⟨rfl, rfl, rfl, trivial⟩, rfl⟩
  · replace hm := iteF hc1 hm
    refine AW.exit ?_
    refine tq_exit ?_
    refine tq_exit ?_
    obtain rfl := Option.some.inj hm
    obtain rfl := Option.some.inj hI1
    replace hm := hk1
    try dsimp only at hm
    refine bq_hit ?_
    refine nq ?_
    refine AW.seqR ?_
    refine AL.s rfl (op_assignD (.e rfl)) ?_
    refine AL.nil ?_
    refine AW.ret ?_
    obtain rfl := Option.some.inj hm
    exact ⟨_, _, (.tmp (.e rfl) .nil), .d rfl, rfl, rfl⟩

set_option maxHeartbeats 20000000 in
theorem m_slices_ContainsFunc_api_Constraint_api_Constraint_ok {n : Nat} {H : List HE} {a1 : (List SConstraint)} {p2 : SConstraint → Option Bool} {r : Bool} {ff_p2 : FuncId} {caps_p2 : List V} (hff_p2 : ∀ (a : Array Value) (w : World), (callFunc ff_p2 a).run Try.prog w = .ok (.enter ff_p2 a) w) (hF_p2 : ∀ (y1 : SConstraint) (b : Bool), p2 y1 = some b → ACall Try.prog ff_p2 (.d (SConstraint.e y1) :: caps_p2) H fun r' H' => r' = .d (.bool b) ∧ H' = H) (hm : m_slices_ContainsFunc_api_Constraint_api_Constraint n a1 p2 = some r) : ACall Try.prog 49 [.d (.sl (a1.map SConstraint.e)), .fn (.func ff_p2) caps_p2] H fun r' H' => r' = .d (.bool r) ∧ H' = H := by
  unfold m_slices_ContainsFunc_api_Constraint_api_Constraint at hm
  refine ACall.of_AW (fnn := Try.f49) Try.func49 rfl (Nat.le_of_ble_eq_true rfl) (fun g0 w0 hw0 => ?_)
  refine AW.seqR ?_
  refine AL.s rfl (op_assignD (.e rfl)) ?_
  refine AL.nil ?_
  refine AW.seqR ?_
  refine AL.s rfl (op_moveD (.e rfl)) ?_
  refine AL.s rfl (op_moveF (.e rfl)) ?_
  obtain ⟨v3, hv3, hm⟩ := bindE hm
  refine AL.s rfl (op_call Try.call66 (.e rfl) (.cons (.e rfl) (.cons (.e rfl) .nil)) (m_slices_IndexFunc_api_Constraint_api_Constraint_ok hff_p2 hF_p2 hv3)) ?_
  refine AL.s rfl (op_geq (.r rfl) (.r rfl)) ?_
  refine AL.s rfl (op_assignD (.e rfl)) ?_
  refine AL.nil ?_
  refine AW.ret ?_
  obtain rfl := Option.some.inj hm
  exact ⟨_, _, (.tmp (.e rfl) .nil), .d rfl, rfl, rfl⟩

set_option maxHeartbeats 20000000 in
theorem m_constraint_id_ok {n : Nat} {a1 : Int} {r : Bool} (hm : m_constraint_id n a1 = some r) : Fn Try.prog 48 [(.int .i64 a1)] (.bool r) := by
  unfold m_constraint_id at hm
  refine Fn.of_AW (fnn := Try.f48) Try.func48 rfl (Nat.le_of_ble_eq_true rfl) (fun g0 w0 hw0 => ?_)
  refine AW.seqR ?_
  refine AL.s rfl (op_assignD (.e rfl)) ?_
  refine AL.nil ?_
  refine AW.seqR ?_
  refine AL.s rfl (op_moveD (.e rfl)) ?_
  refine AL.s rfl (op_geq (.r rfl) (.r rfl)) ?_
  refine AL.s rfl (op_moveD (.e rfl)) ?_
  refine AL.sT rfl rfl rfl rfl (fun g => op_moveD (.e rfl)) ?_
  refine AL.sT rfl rfl rfl rfl (fun g => op_leq (.we g rfl rfl) (.r rfl)) ?_
  refine AL.s rfl (op_and (.r rfl) (fun h => (.we h rfl rfl)) rfl) ?_
  refine AL.s rfl (op_assignD (.e rfl)) ?_
  refine AL.nil ?_
  refine AW.ret ?_
  obtain rfl := Option.some.inj hm
  exact EndQ.d (.tmp (.e rfl) .nil) rfl rfl

set_option maxHeartbeats 20000000 in
theorem m_constraint_Valid_1_ok {n : Nat} {a1 : SConstraint} {r : Bool} (hm : m_constraint_Valid_1 n a1 = some r) : Fn Try.prog 47 [(SConstraint.e a1)] (.bool r) := by
  unfold m_constraint_Valid_1 at hm
  refine Fn.of_AW (fnn := Try.f47) Try.func47 rfl (Nat.le_of_ble_eq_true rfl) (fun g0 w0 hw0 => ?_)
  refine AW.seqR ?_
  refine AL.s rfl (op_box (n := 0) (.e rfl) rfl rfl rfl) ?_
  refine AL.s rfl (op_assignD (.e rfl)) ?_
  refine AL.nil ?_
  refine AW.seqR ?_
  refine AL.s rfl (op_field_ptr (.e rfl) fd50_0) ?_
  refine AL.s rfl (op_load_ptr1 (.e rfl) rfl rfl sc3) ?_
  refine AL.s rfl (op_neq (.r rfl) (.r rfl)) ?_
  refine AL.s rfl (op_moveD (.e rfl)) ?_
  refine AL.sT rfl rfl rfl rfl (fun g => op_field_ptr (.e rfl) fd50_0) ?_
  refine AL.sT rfl rfl rfl rfl (fun g => op_load_ptr1 (.we g rfl) rfl rfl sc3) ?_
  refine AL.sT rfl rfl rfl rfl (fun g => op_neq (.we g rfl rfl) (.r rfl)) ?_
  refine AL.s rfl (op_and (.r rfl) (fun h => (.we h rfl rfl)) rfl) ?_
  refine AL.s rfl (op_moveD (.e rfl)) ?_
  refine AL.sF rfl rfl rfl rfl (fun g => op_field_ptr (.e rfl) fd50_1) ?_
  refine AL.sF rfl rfl rfl rfl (fun g => op_load_ptr1 (.we (nt g) rfl) rfl rfl sc3) ?_
  obtain ⟨v2, hv2, hm⟩ := bindE hm
  refine AL.sF rfl rfl rfl rfl (fun g => op_fn Try.call48 (.e rfl) (.cons (.we (nt g) rfl rfl) .nil) (m_constraint_id_ok (iteT (nt g) hv2))) ?_
  refine AL.sF rfl rfl rfl rfl (fun g => op_not (.we (nt g) rfl rfl)) ?_
  refine AL.s rfl (op_or (.r rfl) rfl (fun h => (.we (nt h) rfl rfl))) ?_
  refine AL.s rfl (op_moveD (.e rfl)) ?_
  refine AL.sF rfl rfl rfl rfl (fun g => op_field_ptr (.e rfl) fd50_2) ?_
  refine AL.sF rfl rfl rfl rfl (fun g => op_load_ptr1 (.we (nt g) rfl) rfl rfl sc3) ?_
  obtain ⟨v3, hv3, hm⟩ := bindE hm
  refine AL.sF rfl rfl rfl rfl (fun g => op_fn Try.call48 (.e rfl) (.cons (.we (nt g) rfl rfl) .nil) (m_constraint_id_ok (iteT (nt g) hv3))) ?_
  refine AL.sF rfl rfl rfl rfl (fun g => op_not (.we (nt g) rfl rfl)) ?_
  refine AL.s rfl (op_or (.r rfl) rfl (fun h => (.we (nt h) rfl rfl))) ?_
  refine AL.s rfl (op_moveD (.e rfl)) ?_
  refine AL.sF rfl rfl rfl rfl (fun g => op_field_ptr (.e rfl) fd50_1) ?_
  refine AL.sF rfl rfl rfl rfl (fun g => op_load_ptr1 (.we (nt g) rfl) rfl rfl sc3) ?_
  refine AL.sF rfl rfl rfl rfl (fun g => op_field_ptr (.e rfl) fd50_2) ?_
  refine AL.sF rfl rfl rfl rfl (fun g => op_load_ptr1 (.we (nt g) rfl) rfl rfl sc3) ?_
  refine AL.sF rfl rfl rfl rfl (fun g => op_eql (.we (nt g) rfl rfl) (.we (nt g) rfl rfl)) ?_
  refine AL.s rfl (op_or (.r rfl) rfl (fun h => (.we (nt h) rfl rfl))) ?_
  refine AL.s rfl (op_assignD (.e rfl)) ?_
  refine AL.nil ?_
  refine AW.ret ?_
  obtain rfl := Option.some.inj hm
  exact EndQ.d (.tmp (.e rfl) .nil) rfl rfl

set_option maxHeartbeats 20000000 in
theorem m_constraint_Valid_ok {n : Nat} {a1 : (List SConstraint)} {r : Bool} (hm : m_constraint_Valid n a1 = some r) : Fn Try.prog 30 [(.sl (a1.map SConstraint.e))] (.bool r) := by
  unfold m_constraint_Valid at hm
  refine Fn.of_AW (fnn := Try.f30) Try.func30 rfl (Nat.le_of_ble_eq_true rfl) (fun g0 w0 hw0 => ?_)
  refine AW.seqR ?_
  refine AL.s rfl (op_assignD (.e rfl)) ?_
  refine AL.nil ?_
  refine AW.seqR ?_
  refine AL.s rfl (op_assignF (.e rfl)) ?_
  refine AL.nil ?_
  refine AW.seqR ?_
  refine AL.s rfl (op_moveD (.e rfl)) ?_
  refine AL.s rfl (op_lenM (f := SConstraint.e) (.r rfl) sl22) ?_
  refine AL.s rfl (op_leq (.r rfl) (.r rfl)) ?_
  refine AL.s rfl (op_moveD (.e rfl)) ?_
  refine AL.sT rfl rfl rfl rfl (fun g => op_moveD (.e rfl)) ?_
  refine AL.sT rfl rfl rfl rfl (fun g => op_moveF (.e rfl)) ?_
  obtain ⟨v2, hv2, hm⟩ := bindE hm
  refine AL.sT rfl rfl rfl rfl (fun g => op_call Try.call49 (.e rfl) (.cons (.we g rfl) (.cons (.we g rfl) .nil)) (m_slices_ContainsFunc_api_Constraint_api_Constraint_ok Try.call47 (fun _ _ hb => (m_constraint_Valid_1_ok hb).at _) (iteT g hv2))) ?_
  refine AL.sT rfl rfl rfl rfl (fun g => op_not (.we g rfl rfl)) ?_
  refine AL.s rfl (op_and (.r rfl) (fun h => (.we h rfl rfl)) rfl) ?_
  refine AL.s rfl (op_assignD (.e rfl)) ?_
  refine AL.nil ?_
  refine AW.ret ?_
  obtain rfl := Option.some.inj hm
  exact EndQ.d (.tmp (.e rfl) .nil) rfl rfl

set_option maxHeartbeats 20000000 in
theorem m_slices_Clone_api_Constraint_api_Constraint_ok {n : Nat} {a1 : (List SConstraint)} {r : (List SConstraint)} (hm : m_slices_Clone_api_Constraint_api_Constraint n a1 = some r) : ACall Try.prog 53 [.d (.sl (a1.map SConstraint.e))] [] fun r' H' => r' = resOf [.hs 0 0 r.length 3] ∧ H' = [.lst (r.map SConstraint.e) 50 3] := by
  unfold m_slices_Clone_api_Constraint_api_Constraint at hm
  refine ACall.of_AWG (fnn := Try.f53) Try.func53 rfl (Nat.le_of_ble_eq_true rfl) (fun g0 w0 hw0 => ?_)
  refine AW.seqR ?_
  refine AL.s rfl (op_assignN (.e rfl)) ?_
  refine AL.nil ?_
  refine AW.seq ?_
  refine AW.seqR ?_
  refine AL.s rfl (op_moveD (.e rfl)) ?_
  refine AL.sE rfl (op_nilS (.r rfl) rfl sl22) ?_
  rintro _ ⟨b0, rfl, hb0⟩
  refine AL.nil ?_
  refine AW.cond (b := _) rfl (fun hc0 => ?_) (fun hc0 => ?_)
  · have hm : some ([] : (List SConstraint)) = some r := by have ha := hb0 hc0; simp only [List.map_eq_nil_iff] at ha; subst ha; simpa [app] using hm
    refine AW.seqR ?_
    refine AL.s rfl (op_assignN (.e rfl)) ?_
    refine AL.nil ?_
    refine AW.lstize (n := 0) 2 50 3 rfl rfl ?_
    refine AW.ret ?_
    refine tq_ret ?_
    obtain rfl := Option.some.inj hm
    exact ⟨_, [0], (.tmp (.e rfl) .nil), rfl, rfl, (.cons (.hs rfl rfl) .nil), (.lst rfl .nil)⟩
  · skip
    refine AW.skip ?_
    refine nq ?_
    refine AW.seqR ?_
    refine AL.s rfl (op_buildSlice (ds := ([] : List SConstraint).map SConstraint.e) sl22 .nil rfl (by decide)) ?_
    refine AL.s rfl (op_moveD (.e rfl)) ?_
    obtain ⟨v2, hv2, hm⟩ := bindE hm
    refine AL.s rfl (op_appendEH (n := 0) (f := SConstraint.e) (l' := a1) sl22 (.e rfl) (.r rfl) rfl enSConstraint hv2) ?_
    refine AL.s rfl (op_assignH (.e rfl)) ?_
    refine AL.nil ?_
    refine AW.ret ?_
    obtain rfl := Option.some.inj hm
    exact ⟨_, [1], (.tmp (.e rfl) .nil), rfl, rfl, (.cons (.hs rfl rfl) .nil), (.lst rfl .nil)⟩

set_option maxHeartbeats 20000000 in
theorem m_cmp_isNaN_int_ok {n : Nat} {a1 : Int} {r : Bool} (hm : m_cmp_isNaN_int n a1 = some r) : Fn Try.prog 70 [(.int .i64 a1)] (.bool r) := by
  unfold m_cmp_isNaN_int at hm
  refine Fn.of_AW (fnn := Try.f70) Try.func70 rfl (Nat.le_of_ble_eq_true rfl) (fun g0 w0 hw0 => ?_)
  refine AW.seqR ?_
  refine AL.s rfl (op_assignD (.e rfl)) ?_
  refine AL.nil ?_
  refine AW.seqR ?_
  refine AL.s rfl (op_moveD (.e rfl)) ?_
  refine AL.s rfl (op_moveD (.e rfl)) ?_
  refine AL.s rfl (op_neq (.r rfl) (.r rfl)) ?_
  refine AL.s rfl (op_assignD (.e rfl)) ?_
  refine AL.nil ?_
  refine AW.ret ?_
  obtain rfl := Option.some.inj hm
  exact EndQ.d (.tmp (.e rfl) .nil) rfl rfl

set_option maxHeartbeats 20000000 in
theorem m_cmp_Compare_int_ok {n : Nat} {a1 : Int} {a2 : Int} {r : Int} (hm : m_cmp_Compare_int n a1 a2 = some r) : Fn Try.prog 57 [(.int .i64 a1), (.int .i64 a2)] (.int .i64 r) := by
  unfold m_cmp_Compare_int at hm
  refine Fn.of_AW (fnn := Try.f57) Try.func57 rfl (Nat.le_of_ble_eq_true rfl) (fun g0 w0 hw0 => ?_)
  refine AW.seqR ?_
  refine AL.s rfl (op_assignD (.e rfl)) ?_
  refine AL.nil ?_
  refine AW.seqR ?_
  refine AL.s rfl (op_moveD (.e rfl)) ?_
  obtain ⟨v3, hv3, hm⟩ := bindE hm
  refine AL.s rfl (op_fn Try.call70 (.e rfl) (.cons (.r rfl) .nil) (m_cmp_isNaN_int_ok hv3)) ?_
  refine AL.s rfl (op_assignD (.e rfl)) ?_
  refine AL.nil ?_
  refine AW.seqR ?_
  refine AL.s rfl (op_moveD (.e rfl)) ?_
  obtain ⟨v4, hv4, hm⟩ := bindE hm
  refine AL.s rfl (op_fn Try.call70 (.e rfl) (.cons (.r rfl) .nil) (m_cmp_isNaN_int_ok hv4)) ?_
  refine AL.s rfl (op_assignD (.e rfl)) ?_
  refine AL.nil ?_
  refine AW.seq ?_
  refine AW.seqR ?_
  refine AL.s rfl (op_moveD (.e rfl)) ?_
  refine AL.nil ?_
  refine AW.cond (b := _) rfl (fun hc1 => ?_) (fun hc1 => ?_)
  · replace hm := iteT hc1 hm
    refine AW.seq ?_
    refine AW.seqR ?_
    refine AL.s rfl (op_moveD (.e rfl)) ?_
    refine AL.nil ?_
    refine AW.cond (b := _) rfl (fun hc2 => ?_) (fun hc2 => ?_)
    · replace hm := iteT hc2 hm
      refine AW.seqR ?_
      refine AL.s rfl (op_assignD (.e rfl)) ?_
      refine AL.nil ?_
      refine AW.ret ?_
      refine tq_ret ?_
      refine tq_ret ?_
      obtain rfl := Option.some.inj hm
      exact EndQ.d (.tmp (.e rfl) .nil) rfl rfl
    · replace hm := iteF hc2 hm
      refine AW.skip ?_
      refine nq ?_
      refine AW.seqR ?_
      refine AL.s rfl (op_assignD (.e rfl)) ?_
      refine AL.nil ?_
      refine AW.ret ?_
      refine tq_ret ?_
      obtain rfl := Option.some.inj hm
      exact EndQ.d (.tmp (.e rfl) .nil) rfl rfl
  · replace hm := iteF hc1 hm
    refine AW.skip ?_
    refine nq ?_
    refine AW.seq ?_
    refine AW.seqR ?_
    refine AL.s rfl (op_moveD (.e rfl)) ?_
    refine AL.nil ?_
    refine AW.cond (b := _) rfl (fun hc3 => ?_) (fun hc3 => ?_)
    · replace hm := iteT hc3 hm
      refine AW.seqR ?_
      refine AL.s rfl (op_assignD (.e rfl)) ?_
      refine AL.nil ?_
      refine AW.ret ?_
      refine tq_ret ?_
      obtain rfl := Option.some.inj hm
      exact EndQ.d (.tmp (.e rfl) .nil) rfl rfl
    · replace hm := iteF hc3 hm
      refine AW.skip ?_
      refine nq ?_
      refine AW.seq ?_
      refine AW.seqR ?_
      refine AL.s rfl (op_moveD (.e rfl)) ?_
      refine AL.s rfl (op_moveD (.e rfl)) ?_
      refine AL.s rfl (op_lss (.r rfl) (.r rfl)) ?_
      refine AL.nil ?_
      refine AW.cond (b := _) rfl (fun hc4 => ?_) (fun hc4 => ?_)
      · replace hm := iteT hc4 hm
        refine AW.seqR ?_
        refine AL.s rfl (op_assignD (.e rfl)) ?_
        refine AL.nil ?_
        refine AW.ret ?_
        refine tq_ret ?_
        obtain rfl := Option.some.inj hm
        exact EndQ.d (.tmp (.e rfl) .nil) rfl rfl
      · replace hm := iteF hc4 hm
        refine AW.skip ?_
        refine nq ?_
        refine AW.seq ?_
        refine AW.seqR ?_
        refine AL.s rfl (op_moveD (.e rfl)) ?_
        refine AL.s rfl (op_moveD (.e rfl)) ?_
        refine AL.s rfl (op_gtr (.r rfl) (.r rfl)) ?_
        refine AL.nil ?_
        refine AW.cond (b := _) rfl (fun hc5 => ?_) (fun hc5 => ?_)
        · replace hm := iteT hc5 hm
          refine AW.reset 0 [] [] (WOK.g0 hw0 (by simp)) ⟨[], rfl, rfl, rfl, trivial, trivial, .nil⟩ ?_
          refine AW.seqR ?_
          refine AL.s rfl (op_assignD (.e rfl)) ?_
          refine AL.nil ?_
          refine AW.ret ?_
          refine tq_ret ?_
          obtain rfl := Option.some.inj hm
          exact EndQ.d (.tmp (.e rfl) .nil) rfl rfl
        · replace hm := iteF hc5 hm
          refine AW.skip ?_
          refine nq ?_
          refine AW.seqR ?_
          refine AL.s rfl (op_assignD (.e rfl)) ?_
          refine AL.nil ?_
          refine AW.ret ?_
          obtain rfl := Option.some.inj hm
          exact EndQ.d (.tmp (.e rfl) .nil) rfl rfl

set_option maxHeartbeats 20000000 in
theorem m_cmp_Or_int_ok {n : Nat} {a1 : (List Int)} {r : Int} (hm : m_cmp_Or_int n a1 = some r) : Fn Try.prog 56 [(.sl (a1.map D.i))] (.int .i64 r) := by
  unfold m_cmp_Or_int at hm
  refine Fn.of_AW (fnn := Try.f56) Try.func56 rfl (Nat.le_of_ble_eq_true rfl) (fun g0 w0 hw0 => ?_)
  refine AW.reset 0 [(0, .d (.sl (a1.map D.i)))] [] (WOK.g0 hw0 (by simp)) ⟨[], rfl, rfl, rfl, ⟨(.d rfl), trivial⟩, trivial, .nil⟩ ?_
  refine AW.seqR ?_
  refine AL.s rfl (op_assignD (.e rfl)) ?_
  refine AL.nil ?_
  refine AW.seqR ?_
  refine AL.s rfl (op_assignD (.e rfl)) ?_
  refine AL.nil ?_
  refine AW.seq ?_
  refine AW.seqR ?_
  refine AL.s rfl (op_moveD (.e rfl)) ?_
  refine AL.s rfl (op_lenM (f := D.i) (.r rfl) sl42) ?_
  refine AL.s rfl (op_moveD (.e rfl)) ?_
  refine AL.nil ?_
  refine AW.block ?_
  obtain ⟨t_1, hI1, hk1⟩ := bindE hm
  refine AW.loopS (σ := Int) (τ := (Int ⊕ Unit)) 0 (fun x => [(3, .d (.int .i64 (0 : Int))), (6, .d (.sl (a1.map D.i))), (7, .d (.int .i64 (a1.length : Int))), (8, .d (.int .i64 x))]) (fun x => []) hI1 (WOK.g0 hw0 (by simp)) ⟨[], rfl, rfl, rfl, ⟨(.d rfl), (.d rfl), (.d rfl), (.d rfl), trivial⟩, trivial, .nil⟩ ?_
  rintro n1 s2 hI1
  obtain ⟨y_1, hm, hI1⟩ := iterS hI1
  replace hm : m_cmp_Or_int_L1 n _ s2 = some y_1 := hm
  unfold m_cmp_Or_int_L1 at hm
  try dsimp only at hm
  refine AW.seqR ?_
  refine AL.s rfl (op_lss (.r rfl) (.r rfl)) ?_
  refine AL.nil ?_
  refine AW.seq ?_
  refine AW.cond (b := _) rfl (fun hc1 => ?_) (fun hc1 => ?_)
  · replace hm := iteT hc1 hm
    refine AW.skip ?_
    refine nq ?_
    refine AW.seq ?_
    refine AW.block ?_
    refine AW.seqR ?_
    obtain ⟨v3, hv3, hm⟩ := bindE hm
    refine AL.s rfl (op_indexAddrM (f := D.i) (.r rfl) (.r rfl) hv3 En.i sl42) ?_
    refine AL.s rfl (op_load_vp1 (.e rfl) rfl sc3) ?_
    refine AL.s rfl (op_assignD (.e rfl)) ?_
    refine AL.nil ?_
    refine AW.seqR ?_
    refine AL.s rfl (op_moveD (.e rfl)) ?_
    refine AL.s rfl (op_moveD (.e rfl)) ?_
    refine AL.s rfl (op_neq (.r rfl) (.r rfl)) ?_
    refine AL.nil ?_
    refine AW.cond (b := _) rfl (fun hc2 => ?_) (fun hc2 => ?_)
    · replace hm := iteT hc2 hm
      refine AW.seqR ?_
      refine AL.s rfl (op_moveD (.e rfl)) ?_
      refine AL.s rfl (op_assignD (.e rfl)) ?_
      refine AL.nil ?_
      refine AW.ret ?_
      refine bq_ret ?_
      refine tq_ret ?_
      refine tq_ret ?_
      obtain rfl := Option.some.inj hm
      obtain rfl := Option.some.inj hI1
      replace hm := hk1
      try dsimp only at hm
      refine bq_ret ?_
      refine tq_ret ?_
      obtain rfl := Option.some.inj hm
      exact EndQ.d (.tmp (.e rfl) .nil) rfl rfl
    · replace hm := iteF hc2 hm
      refine AW.skip ?_
      refine bq_n ?_
      refine nq ?_
      refine AW.region ?_
      refine AL.s rfl (op_addw (.r rfl) (.r rfl)) ?_
      refine AL.s rfl (op_moveD (.e rfl)) ?_
      refine AL.nil ?_
      obtain rfl := Option.some.inj hm
      exact nq ⟨_, hI1, ⟨[], rfl, rfl, rfl, ⟨(.d rfl), (.d rfl), (.d rfl), (.d rfl), trivial⟩, trivial, .nil⟩⟩
  · replace hm := iteF hc1 hm
    refine AW.exit ?_
    refine tq_exit ?_
    refine tq_exit ?_
    obtain rfl := Option.some.inj hm
    obtain rfl := Option.some.inj hI1
    replace hm := hk1
    try dsimp only at hm
    refine bq_hit ?_
    refine nq ?_
    refine AW.seqR ?_
    refine AL.s rfl (op_moveD (.e rfl)) ?_
    refine AL.s rfl (op_assignD (.e rfl)) ?_
    refine AL.nil ?_
    refine AW.ret ?_
    obtain rfl := Option.some.inj hm
    exact EndQ.d (.tmp (.e rfl) .nil) rfl rfl

set_option maxHeartbeats 20000000 in
theorem m_constraint_normal_1_ok {n : Nat} {a1 : SConstraint} {a2 : SConstraint} {r : Int} (hm : m_constraint_normal_1 n a1 a2 = some r) : Fn Try.prog 55 [(SConstraint.e a1), (SConstraint.e a2)] (.int .i64 r) := by
  unfold m_constraint_normal_1 at hm
  refine Fn.of_AW (fnn := Try.f55) Try.func55 rfl (Nat.le_of_ble_eq_true rfl) (fun g0 w0 hw0 => ?_)
  refine AW.seqR ?_
  refine AL.s rfl (op_box (n := 0) (.e rfl) rfl rfl rfl) ?_
  refine AL.s rfl (op_box (n := 1) (.e rfl) rfl rfl rfl) ?_
  refine AL.s rfl (op_assignD (.e rfl)) ?_
  refine AL.nil ?_
  refine AW.seqD [([], []), ([0], []), ([], []), ([1], []), ([], []), ([], []), ([0], []), ([], []), ([1], []), ([], []), ([], []), ([0], []), ([], []), ([1], []), ([], []), ([], []), ([], []), ([], [])] mo (by decide +kernel) ?_
  refine AD.s (ws := []) rfl rfl (fun H' _ hH => op_field_ptr (.e rfl) fd50_0) ?_
  refine AD.s (ws := []) rfl rfl (fun H' _ hH => op_load_ptr1 (.e rfl) ((hH _ (by simp)).trans rfl) rfl sc3) ?_
  refine AD.s (ws := []) rfl rfl (fun H' _ hH => op_field_ptr (.e rfl) fd50_0) ?_
  refine AD.s (ws := []) rfl rfl (fun H' _ hH => op_load_ptr1 (.e rfl) ((hH _ (by simp)).trans rfl) rfl sc3) ?_
  obtain ⟨v3, hv3, hm⟩ := bindE hm
  refine AD.s (ws := []) rfl rfl (fun H' _ hH => op_fn Try.call57 (.e rfl) (.cons (.r rfl) (.cons (.r rfl) .nil)) (m_cmp_Compare_int_ok hv3)) ?_
  refine AD.s (ws := []) rfl rfl (fun H' _ hH => op_field_ptr (.e rfl) fd50_1) ?_
  refine AD.s (ws := []) rfl rfl (fun H' _ hH => op_load_ptr1 (.e rfl) ((hH _ (by simp)).trans rfl) rfl sc3) ?_
  refine AD.s (ws := []) rfl rfl (fun H' _ hH => op_field_ptr (.e rfl) fd50_1) ?_
  refine AD.s (ws := []) rfl rfl (fun H' _ hH => op_load_ptr1 (.e rfl) ((hH _ (by simp)).trans rfl) rfl sc3) ?_
  obtain ⟨v4, hv4, hm⟩ := bindE hm
  refine AD.s (ws := []) rfl rfl (fun H' _ hH => op_fn Try.call57 (.e rfl) (.cons (.r rfl) (.cons (.r rfl) .nil)) (m_cmp_Compare_int_ok hv4)) ?_
  refine AD.s (ws := []) rfl rfl (fun H' _ hH => op_field_ptr (.e rfl) fd50_2) ?_
  refine AD.s (ws := []) rfl rfl (fun H' _ hH => op_load_ptr1 (.e rfl) ((hH _ (by simp)).trans rfl) rfl sc3) ?_
  refine AD.s (ws := []) rfl rfl (fun H' _ hH => op_field_ptr (.e rfl) fd50_2) ?_
  refine AD.s (ws := []) rfl rfl (fun H' _ hH => op_load_ptr1 (.e rfl) ((hH _ (by simp)).trans rfl) rfl sc3) ?_
  obtain ⟨v5, hv5, hm⟩ := bindE hm
  refine AD.s (ws := []) rfl rfl (fun H' _ hH => op_fn Try.call57 (.e rfl) (.cons (.r rfl) (.cons (.r rfl) .nil)) (m_cmp_Compare_int_ok hv5)) ?_
  refine AD.s (ws := []) rfl rfl (fun H' _ hH => op_buildSlice (ds := ([v3, v4, v5] : List Int).map D.i) sl42 (.cons (.r rfl) rfl (En.i.one _) (.cons (.r rfl) rfl (En.i.one _) (.cons (.r rfl) rfl (En.i.one _) .nil))) rfl (by decide)) ?_
  obtain ⟨v6, hv6, hm⟩ := bindE hm
  refine AD.s (ws := []) rfl rfl (fun H' _ hH => op_fn Try.call56 (.e rfl) (.cons (.r rfl) .nil) (m_cmp_Or_int_ok hv6)) ?_
  refine AD.s (ws := []) rfl rfl (fun H' _ hH => op_assignD (.e rfl)) ?_
  refine AD.nil ?_
  refine AW.ret ?_
  obtain rfl := Option.some.inj hm
  exact EndQ.d (.tmp (.e rfl) .nil) rfl rfl

theorem m_slices_SortFunc_api_Constraint_api_Constraint_inv {n : Nat} {c1 r : List SConstraint} (hm : m_slices_SortFunc_api_Constraint_api_Constraint n c1 = some r) : 64 ≤ n ∧ c1.length < 4611686018427387904 ∧ r = isort (ltOf cfC) c1 := by
  unfold m_slices_SortFunc_api_Constraint_api_Constraint at hm
  split at hm
  · rename_i h; injection hm with hm; exact ⟨h.1, h.2, hm.symm⟩
  · cases hm
theorem m_slices_SortFunc_api_Constraint_api_Constraint_len {n : Nat} {c1 r : List SConstraint} (hm : m_slices_SortFunc_api_Constraint_api_Constraint n c1 = some r) : r.length = c1.length := by
  obtain ⟨_, _, rfl⟩ := m_slices_SortFunc_api_Constraint_api_Constraint_inv hm; exact isort_len _ _
theorem m_slices_SortFunc_api_Constraint_api_Constraint_ok {n : Nat} {c1 r : List SConstraint} (hm : m_slices_SortFunc_api_Constraint_api_Constraint n c1 = some r) : ACall Try.prog 54 [.hs 0 0 c1.length 3, .fn (.func 55) []] [.lst (c1.map SConstraint.e) 50 3] fun r' H' => r' = resOf [] ∧ H' = [.lst (r.map SConstraint.e) 50 3] := by
  obtain ⟨h1, h2, rfl⟩ := m_slices_SortFunc_api_Constraint_api_Constraint_inv hm
  exact ACall.sortF sortsC ⟨fun _ => rfl, fun x c hc => by simp [SConstraint.e, D.cells] at hc; first | (rcases hc with h | h | h <;> subst h <;> rfl) | (rcases hc with h | h <;> subst h <;> rfl) | (subst hc; rfl)⟩ (fun _ => rfl) (fun x y => m_constraint_normal_1_ok (cfC_ok h1 x y)) cfC_swo cfC_total h2

set_option maxHeartbeats 20000000 in
theorem m_slices_Compact_api_Constraint_api_Constraint_ok {n : Nat} {c1 : (List SConstraint)} {r : (List SConstraint)} (hm : m_slices_Compact_api_Constraint_api_Constraint n c1 = some r) : ACall Try.prog 58 [.hs 0 0 c1.length 3] [.lst (c1.map SConstraint.e) 50 3] fun r' H' => r' = resOf [.hs 1 0 r.length 3] ∧ H' = [.dead, .lst (r.map SConstraint.e) 50 3] := by
  unfold m_slices_Compact_api_Constraint_api_Constraint at hm
  refine ACall.of_AWG (fnn := Try.f58) Try.func58 rfl (Nat.le_of_ble_eq_true rfl) (fun g0 w0 hw0 => ?_)
  refine AW.reset 1 [(0, .hs 0 0 c1.length 3)] [.lst (c1.map SConstraint.e) 50 3] (WOK.g0 hw0 (by simp)) ⟨[0], rfl, rfl, rfl, ⟨(.hs rfl rfl), trivial⟩, trivial, (.lst rfl .nil)⟩ ?_
  refine AW.seqR ?_
  refine AL.s rfl (op_assignN (.e rfl)) ?_
  refine AL.nil ?_
  refine AW.seq ?_
  refine AW.seqR ?_
  refine AL.s rfl (op_moveH (.e rfl)) ?_
  refine AL.s rfl (op_len_hs (.e rfl) rfl sl22) ?_
  refine AL.s rfl (op_lss (.r rfl) (.r rfl)) ?_
  refine AL.nil ?_
  refine AW.cond (b := _) rfl (fun hc1 => ?_) (fun hc1 => ?_)
  · replace hm := iteT hc1 hm
    refine AW.seqR ?_
    refine AL.s rfl (op_moveH (.e rfl)) ?_
    refine AL.s rfl (op_assignH (.e rfl)) ?_
    refine AL.nil ?_
    refine AW.moveL (n := 1) (f := SConstraint.e) (l := c1) 0 [2] rfl rfl ⟨rfl, trivial⟩ ?_
    refine AW.ret ?_
    refine tq_ret ?_
    obtain rfl := Option.some.inj hm
    exact ⟨_, [0, 1], (.tmp (.e rfl) .nil), rfl, rfl, (.cons (.hs rfl rfl) .nil), (.dead (.lst rfl .nil))⟩
  · replace hm := iteF hc1 hm
    refine AW.skip ?_
    refine nq ?_
    refine AW.seq ?_
    refine AW.seqR ?_
    refine AL.s rfl (op_assignD (.e rfl)) ?_
    refine AL.nil ?_
    refine AW.block ?_
    obtain ⟨t_1, hI1, hk1⟩ := bindE hm
    refine AW.loopS (σ := Int) (τ := ((List SConstraint) ⊕ Unit)) 1 (fun x => [(0, .hs 0 0 c1.length 3), (3, .d (.int .i64 x))]) (fun x => [.lst (c1.map SConstraint.e) 50 3]) hI1 (WOK.g0 hw0 (by simp)) ⟨[0], rfl, rfl, rfl, ⟨(.hs rfl rfl), (.d rfl), trivial⟩, trivial, (.lst rfl .nil)⟩ ?_
    rintro n1 s2 hI1
    obtain ⟨y_1, hm, hI1⟩ := iterS hI1
    replace hm : m_slices_Compact_api_Constraint_api_Constraint_L1 n _ s2 = some y_1 := hm
    unfold m_slices_Compact_api_Constraint_api_Constraint_L1 at hm
    try dsimp only at hm
    refine AW.seq ?_
    refine AW.seqR ?_
    refine AL.s rfl (op_moveD (.e rfl)) ?_
    refine AL.s rfl (op_moveH (.e rfl)) ?_
    refine AL.s rfl (op_len_hs (.e rfl) rfl sl22) ?_
    refine AL.s rfl (op_lss (.r rfl) (.r rfl)) ?_
    refine AL.nil ?_
    refine AW.cond (b := _) rfl (fun hc2 => ?_) (fun hc2 => ?_)
    · replace hm := iteT hc2 hm
      refine AW.skip ?_
      refine nq ?_
      refine AW.seq ?_
      refine AW.block ?_
      refine AW.seqD [([], []), ([], []), ([0], []), ([0], []), ([], []), ([], []), ([], []), ([0], []), ([0], []), ([], [])] mo (by decide +kernel) ?_
      refine AD.s (ws := []) rfl rfl (fun H' _ hH => op_moveH (.e rfl)) ?_
      refine AD.s (ws := []) rfl rfl (fun H' _ hH => op_moveD (.e rfl)) ?_
      obtain ⟨v3, hv3, hm⟩ := bindE hm
      refine AD.s (ws := []) rfl rfl (fun H' _ hH => op_indexAddr_ls (f := SConstraint.e) (l := c1) (.e rfl) ((hH _ (by simp)).trans rfl) rfl (.r rfl) hv3 sl22) ?_
      obtain ⟨v4, hv4, hm⟩ := bindE hm
      refine AD.s (ws := []) rfl rfl (fun H' _ hH => op_load_lsA (f := SConstraint.e) (l := c1) (a := s2) enSConstraint rfl (.e rfl) ((hH _ (by simp)).trans rfl) hv4 ag50) ?_
      refine AD.s (ws := []) rfl rfl (fun H' _ hH => op_moveH (.e rfl)) ?_
      refine AD.s (ws := []) rfl rfl (fun H' _ hH => op_moveD (.e rfl)) ?_
      refine AD.s (ws := []) rfl rfl (fun H' _ hH => op_subw (.r rfl) (.r rfl)) ?_
      obtain ⟨v5, hv5, hm⟩ := bindE hm
      refine AD.s (ws := []) rfl rfl (fun H' _ hH => op_indexAddr_ls (f := SConstraint.e) (l := c1) (.e rfl) ((hH _ (by simp)).trans rfl) rfl (.r rfl) hv5 sl22) ?_
      obtain ⟨v6, hv6, hm⟩ := bindE hm
      refine AD.s (ws := []) rfl rfl (fun H' _ hH => op_load_lsA (f := SConstraint.e) (l := c1) (a := (IntKind.i64.wrap (s2 - (1 : Int)))) enSConstraint rfl (.e rfl) ((hH _ (by simp)).trans rfl) hv6 ag50) ?_
      refine AD.s (ws := []) rfl rfl (fun H' _ hH => op_eqlSt (a := v4) (b := v6) es50 (.r rfl) (.r rfl)) ?_
      refine AD.nil ?_
      refine AW.cond (b := _) rfl (fun hc3 => ?_) (fun hc3 => ?_)
      · replace hm := iteT hc3 hm
        refine AW.seqR ?_
        refine AL.s rfl (op_moveH (.e rfl)) ?_
        refine AL.s rfl (op_moveD (.e rfl)) ?_
        obtain ⟨v7, hv7, hm⟩ := bindE hm
        refine AL.s rfl (op_sliceH (f := SConstraint.e) (l := c1) (.e rfl) rfl rfl sl22 (.r rfl) rfl hv7) ?_
        refine AL.s rfl (op_assignH (.e rfl)) ?_
        refine AL.nil ?_
        refine AW.seq ?_
        refine AW.seqR ?_
        refine AL.s rfl (op_assignD (.e rfl)) ?_
        refine AL.nil ?_
        refine AW.block ?_
        obtain ⟨t_2, hI2, hk2⟩ := bindE hm
        refine AW.loopM (σ := (Int × Int × (List SConstraint))) (τ := (Int × (List SConstraint))) 1 [4] (fun x => [(0, .hs 0 0 x.2.2.length 3), (3, .d (.int .i64 x.1)), (5, .d (.int .i64 x.2.1))]) (fun x => [.lst (x.2.2.map SConstraint.e) 50 3]) hI2 (WOK.g0 hw0 (by simp)) ⟨[0], rfl, rfl, rfl, ⟨(.hs rfl rfl), (.d rfl), (.d rfl), trivial⟩, ⟨rfl, trivial⟩, (.lst rfl .nil)⟩ ?_
        rintro n2 ⟨s8, s9, s10⟩ hI2
        obtain ⟨y_2, hm, hI2⟩ := iterS hI2
        replace hm : m_slices_Compact_api_Constraint_api_Constraint_L2 n _ _ s8 s9 s10 = some y_2 := hm
        unfold m_slices_Compact_api_Constraint_api_Constraint_L2 at hm
        try dsimp only at hm
        refine AW.seq ?_
        refine AW.seqR ?_
        refine AL.s rfl (op_moveD (.e rfl)) ?_
        refine AL.s rfl (op_moveH (.e rfl)) ?_
        refine AL.s rfl (op_len_hs (.e rfl) rfl sl22) ?_
        refine AL.s rfl (op_lss (.r rfl) (.r rfl)) ?_
        refine AL.nil ?_
        refine AW.cond (b := _) rfl (fun hc4 => ?_) (fun hc4 => ?_)
        · replace hm := iteT hc4 hm
          refine AW.skip ?_
          refine nq ?_
          obtain ⟨t_j1, hm, hkj1⟩ := bindE hm
          refine AW.cutM (α := (Int × (List SConstraint))) 1 (fun x => x = t_j1) [4, 5] (fun x => [(0, .hs 0 0 x.2.length 3), (3, .d (.int .i64 x.1))]) (fun x => [.lst (x.2.map SConstraint.e) 50 3]) (WOK.g0 hw0 (by simp)) ?_ ?_
          · skip
            refine AW.block ?_
            refine AW.seqD [([], []), ([], []), ([0], []), ([0], []), ([], []), ([], []), ([], []), ([0], []), ([0], []), ([], [])] mo (by decide +kernel) ?_
            refine AD.s (ws := []) rfl rfl (fun H' _ hH => op_moveH (.e rfl)) ?_
            refine AD.s (ws := []) rfl rfl (fun H' _ hH => op_moveD (.e rfl)) ?_
            obtain ⟨v11, hv11, hm⟩ := bindE hm
            refine AD.s (ws := []) rfl rfl (fun H' _ hH => op_indexAddr_pc (lo := s2) (r := v7) (a := s9) (ls := s10.map SConstraint.e) (.e rfl) (slc_lo hv7) ((hH _ (by simp)).trans rfl) (.r rfl) hv11 sl22) ?_
            obtain ⟨v12, hv12, hm⟩ := bindE hm
            refine AD.s (ws := []) rfl rfl (fun H' _ hH => op_load_lsA (f := SConstraint.e) (l := s10) (a := (s2 + s9)) enSConstraint rfl (.e rfl) ((hH _ (by simp)).trans rfl) hv12 ag50) ?_
            refine AD.s (ws := []) rfl rfl (fun H' _ hH => op_moveH (.e rfl)) ?_
            refine AD.s (ws := []) rfl rfl (fun H' _ hH => op_moveD (.e rfl)) ?_
            refine AD.s (ws := []) rfl rfl (fun H' _ hH => op_subw (.r rfl) (.r rfl)) ?_
            obtain ⟨v13, hv13, hm⟩ := bindE hm
            refine AD.s (ws := []) rfl rfl (fun H' _ hH => op_indexAddr_pc (lo := s2) (r := v7) (a := (IntKind.i64.wrap (s9 - (1 : Int)))) (ls := s10.map SConstraint.e) (.e rfl) (slc_lo hv7) ((hH _ (by simp)).trans rfl) (.r rfl) hv13 sl22) ?_
            obtain ⟨v14, hv14, hm⟩ := bindE hm
            refine AD.s (ws := []) rfl rfl (fun H' _ hH => op_load_lsA (f := SConstraint.e) (l := s10) (a := (s2 + (IntKind.i64.wrap (s9 - (1 : Int))))) enSConstraint rfl (.e rfl) ((hH _ (by simp)).trans rfl) hv14 ag50) ?_
            refine AD.s (ws := []) rfl rfl (fun H' _ hH => op_neqSt (a := v12) (b := v14) es50 (.r rfl) (.r rfl)) ?_
            refine AD.nil ?_
            refine AW.cond (b := _) rfl (fun hc5 => ?_) (fun hc5 => ?_)
            · replace hm := iteT hc5 hm
              refine AW.seqR ?_
              refine AL.s rfl (op_moveH (.e rfl)) ?_
              refine AL.s rfl (op_moveD (.e rfl)) ?_
              refine AL.s rfl (op_moveH (.e rfl)) ?_
              refine AL.s rfl (op_moveD (.e rfl)) ?_
              obtain ⟨v15, hv15, hm⟩ := bindE hm
              refine AL.s rfl (op_indexAddr_pc (lo := s2) (r := v7) (a := s9) (ls := s10.map SConstraint.e) (.e rfl) (slc_lo hv7) rfl (.r rfl) hv15 sl22) ?_
              obtain ⟨v16, hv16, hm⟩ := bindE hm
              refine AL.s rfl (op_load_lsA (f := SConstraint.e) (l := s10) (a := (s2 + s9)) enSConstraint rfl (.e rfl) rfl hv16 ag50) ?_
              obtain ⟨v17, hv17, hm⟩ := bindE hm
              refine AL.s rfl (op_indexAddr_ls (f := SConstraint.e) (l := s10) (.e rfl) rfl rfl (.r rfl) hv17 sl22) ?_
              obtain ⟨v18, hv18, hm⟩ := bindE hm
              refine AL.s rfl (op_store_lsA (f := SConstraint.e) (l := s10) (a := s8) (v' := v16) enSConstraint (.e rfl) (.e rfl) rfl rfl ⟨_, rfl, rfl⟩ rfl hv18) ?_
              refine AL.nil ?_
              refine AW.region ?_
              refine AL.s rfl (op_moveD (.e rfl)) ?_
              refine AL.s rfl (op_addw (.r rfl) (.r rfl)) ?_
              refine AL.s rfl (op_assignD (.e rfl)) ?_
              refine AL.nil ?_
              refine bq_n ?_
              obtain rfl := Option.some.inj hm
              exact nq ⟨_, rfl, ⟨[0], rfl, rfl, rfl, ⟨(.hs rfl (setI_len hv18).symm), (.d rfl), trivial⟩, ⟨rfl, rfl, trivial⟩, (.lst rfl .nil)⟩⟩
            · replace hm := iteF hc5 hm
              refine AW.skip ?_
              refine bq_n ?_
              obtain rfl := Option.some.inj hm
              exact nq ⟨_, rfl, ⟨[0], rfl, rfl, rfl, ⟨(.hs rfl rfl), (.d rfl), trivial⟩, ⟨rfl, rfl, trivial⟩, (.lst rfl .nil)⟩⟩
          · rintro ⟨s19, s20⟩ rfl
            replace hm := hkj1
            try dsimp only at hm
            refine AW.region ?_
            refine AL.s rfl (op_moveD (.e rfl)) ?_
            refine AL.s rfl (op_addw (.r rfl) (.r rfl)) ?_
            refine AL.s rfl (op_assignD (.e rfl)) ?_
            refine AL.nil ?_
            obtain rfl := Option.some.inj hm
            exact nq ⟨_, hI2, ⟨[0], rfl, rfl, rfl, ⟨(.hs rfl rfl), (.d rfl), (.d rfl), trivial⟩, ⟨rfl, trivial⟩, (.lst rfl .nil)⟩⟩
        · replace hm := iteF hc4 hm
          refine AW.exit ?_
          refine tq_exit ?_
          refine tq_exit ?_
          obtain rfl := Option.some.inj hm
          obtain rfl := Option.some.inj hI2
          replace hm := hk2
          try dsimp only at hm
          refine bq_hit ?_
          refine nq ?_
          refine AW.seqR ?_
          refine AL.s rfl (op_moveH (.e rfl)) ?_
          refine AL.s rfl (op_moveD (.e rfl)) ?_
          obtain ⟨v21, hv21, hm⟩ := bindE hm
          refine AL.s rfl (op_sliceH (f := SConstraint.e) (l := s10) (.e rfl) rfl rfl sl22 (.r rfl) rfl hv21) ?_
          refine AL.s rfl (op_clear (f := SConstraint.e) (l := s10) (z := ((⟨(0 : Int), (0 : Int), (0 : Int)⟩ : SConstraint) : SConstraint)) enSConstraint (.e rfl) rfl (slc_le hv21) sl22 zr50 rfl) ?_
          refine AL.nil ?_
          refine AW.seqR ?_
          refine AL.s rfl (op_moveH (.e rfl)) ?_
          refine AL.s rfl (op_moveD (.e rfl)) ?_
          obtain ⟨v22, hv22, hm⟩ := bindE hm
          refine AL.s rfl (op_truncH (f := SConstraint.e) (l := (clrL s10 s8.toNat v21.length ((⟨(0 : Int), (0 : Int), (0 : Int)⟩ : SConstraint) : SConstraint))) (.e rfl) rfl (clrL_len (slc_le hv21)) sl22 (.r rfl) hv22) ?_
          refine AL.s rfl (op_assignH (.e rfl)) ?_
          refine AL.nil ?_
          refine AW.moveL (n := 1) (f := SConstraint.e) (l := v22) 0 [2] rfl rfl ⟨rfl, trivial⟩ ?_
          refine AW.ret ?_
          refine bq_ret ?_
          refine tq_ret ?_
          refine tq_ret ?_
          obtain rfl := Option.some.inj hm
          obtain rfl := Option.some.inj hI1
          replace hm := hk1
          try dsimp only at hm
          refine bq_ret ?_
          refine tq_ret ?_
          obtain rfl := Option.some.inj hm
          exact ⟨_, [0, 1], (.tmp (.e rfl) .nil), rfl, rfl, (.cons (.hs rfl rfl) .nil), (.dead (.lst rfl .nil))⟩
      · replace hm := iteF hc3 hm
        refine AW.skip ?_
        refine bq_n ?_
        refine nq ?_
        refine AW.region ?_
        refine AL.s rfl (op_moveD (.e rfl)) ?_
        refine AL.s rfl (op_addw (.r rfl) (.r rfl)) ?_
        refine AL.s rfl (op_assignD (.e rfl)) ?_
        refine AL.nil ?_
        obtain rfl := Option.some.inj hm
        exact nq ⟨_, hI1, ⟨[0], rfl, rfl, rfl, ⟨(.hs rfl rfl), (.d rfl), trivial⟩, trivial, (.lst rfl .nil)⟩⟩
    · replace hm := iteF hc2 hm
      refine AW.exit ?_
      refine tq_exit ?_
      refine tq_exit ?_
      obtain rfl := Option.some.inj hm
      obtain rfl := Option.some.inj hI1
      replace hm := hk1
      try dsimp only at hm
      refine bq_hit ?_
      refine nq ?_
      refine AW.seqR ?_
      refine AL.s rfl (op_moveH (.e rfl)) ?_
      refine AL.s rfl (op_assignH (.e rfl)) ?_
      refine AL.nil ?_
      refine AW.moveL (n := 1) (f := SConstraint.e) (l := c1) 0 [2] rfl rfl ⟨rfl, trivial⟩ ?_
      refine AW.ret ?_
      obtain rfl := Option.some.inj hm
      exact ⟨_, [0, 1], (.tmp (.e rfl) .nil), rfl, rfl, (.cons (.hs rfl rfl) .nil), (.dead (.lst rfl .nil))⟩

set_option maxHeartbeats 20000000 in
theorem m_constraint_normal_ok {n : Nat} {a1 : (List SConstraint)} {r : (List SConstraint)} (hm : m_constraint_normal n a1 = some r) : ACall Try.prog 36 [.d (.sl (a1.map SConstraint.e))] [] fun r' H' => r' = resOf [.hs 0 0 r.length 3] ∧ H' = [.lst (r.map SConstraint.e) 50 3] := by
  unfold m_constraint_normal at hm
  refine ACall.of_AWG (fnn := Try.f36) Try.func36 rfl (Nat.le_of_ble_eq_true rfl) (fun g0 w0 hw0 => ?_)
  refine AW.reset 0 [(0, .d (.sl (a1.map SConstraint.e)))] [] (WOK.g0 hw0 (by simp)) ⟨[], rfl, rfl, rfl, ⟨(.d rfl), trivial⟩, trivial, .nil⟩ ?_
  refine AW.seqR ?_
  refine AL.s rfl (op_assignN (.e rfl)) ?_
  refine AL.nil ?_
  refine AW.seqR ?_
  refine AL.s rfl (op_moveD (.e rfl)) ?_
  obtain ⟨v2, hv2, hm⟩ := bindE hm
  refine AL.s rfl (op_callF (v := .hs 0 0 v2.length 3) (H' := [.lst (v2.map SConstraint.e) 50 3]) [] Try.call53 (.e rfl) (.cons (.e rfl) .nil) (m_slices_Clone_api_Constraint_api_Constraint_ok hv2) rfl .nil rfl rfl rfl rfl rfl rfl rfl rfl) ?_
  refine AL.s rfl (op_assignH (.e rfl)) ?_
  refine AL.nil ?_
  refine AW.seq ?_
  refine AW.seqR ?_
  refine AL.s rfl (op_moveH (.e rfl)) ?_
  refine AL.s rfl (op_len_hs (.e rfl) rfl sl22) ?_
  refine AL.s rfl (op_moveD (.e rfl)) ?_
  refine AL.nil ?_
  refine AW.block ?_
  obtain ⟨t_1, hI1, hk1⟩ := bindE hm
  refine AW.loopS (σ := (Int × (List SConstraint))) (τ := (List SConstraint)) 0 (fun x => [(3, .hs 0 0 x.2.length 3), (8, .hs 0 0 x.2.length 3), (9, .d (.int .i64 (v2.length : Int))), (10, .d (.int .i64 x.1))]) (fun x => [.lst (x.2.map SConstraint.e) 50 3]) hI1 (WOK.g0 hw0 (by simp)) ⟨[0], rfl, rfl, rfl, ⟨(.hs rfl rfl), (.hs rfl rfl), (.d rfl), (.d rfl), trivial⟩, trivial, (.lst rfl .nil)⟩ ?_
  rintro n1 ⟨s3, s4⟩ hI1
  obtain ⟨y_1, hm, hI1⟩ := iterS hI1
  replace hm : m_constraint_normal_L1 n _ s3 s4 = some y_1 := hm
  unfold m_constraint_normal_L1 at hm
  try dsimp only at hm
  refine AW.seqR ?_
  refine AL.s rfl (op_lss (.r rfl) (.r rfl)) ?_
  refine AL.nil ?_
  refine AW.seq ?_
  refine AW.cond (b := _) rfl (fun hc1 => ?_) (fun hc1 => ?_)
  · replace hm := iteT hc1 hm
    refine AW.skip ?_
    refine nq ?_
    refine AW.seq ?_
    refine AW.block ?_
    refine AW.seqR ?_
    refine AL.s rfl (op_moveD (.e rfl)) ?_
    obtain ⟨v5, hv5, hm⟩ := bindE hm
    refine AL.s rfl (op_indexAddr_ls (f := SConstraint.e) (l := s4) (.e rfl) rfl rfl (.r rfl) hv5 sl22) ?_
    obtain ⟨v6, hv6, hm⟩ := bindE hm
    refine AL.s rfl (op_load_lsA (f := SConstraint.e) (l := s4) (a := s3) enSConstraint rfl (.e rfl) rfl hv6 ag50) ?_
    refine AL.s rfl (op_alloc (n := 1) zr50 rfl) ?_
    refine AL.s rfl (op_assignD (.e rfl)) ?_
    refine AL.s rfl (op_store (.e rfl) (.e rfl) rfl rfl rfl ⟨_, rfl, rfl⟩ rfl (Nat.le_of_ble_eq_true rfl)) ?_
    refine AL.nil ?_
    refine AW.drawn [([], []), ([], []), ([], []), ([], []), ([], []), ([1], []), ([], []), ([1], []), ([], []), ([], []), ([1], []), ([], []), ([1], []), ([], []), ([0], []), ([], []), ([0], [0]), ([0], []), ([], []), ([0], [0])] mo (by decide +kernel) ?_
    refine AD.s (ws := []) rfl rfl (fun H' _ hH => op_moveH (.e rfl)) ?_
    refine AD.s (ws := []) rfl rfl (fun H' _ hH => op_moveD (.e rfl)) ?_
    refine AD.s (ws := []) rfl rfl (fun H' _ hH => op_moveH (.e rfl)) ?_
    refine AD.s (ws := []) rfl rfl (fun H' _ hH => op_moveD (.e rfl)) ?_
    refine AD.s (ws := []) rfl rfl (fun H' _ hH => op_field_ptr (.e rfl) fd50_1) ?_
    refine AD.s (ws := []) rfl rfl (fun H' _ hH => op_load_ptr1 (.e rfl) ((hH _ (by simp)).trans rfl) rfl sc3) ?_
    refine AD.s (ws := []) rfl rfl (fun H' _ hH => op_field_ptr (.e rfl) fd50_2) ?_
    refine AD.s (ws := []) rfl rfl (fun H' _ hH => op_load_ptr1 (.e rfl) ((hH _ (by simp)).trans rfl) rfl sc3) ?_
    refine AD.s (ws := []) rfl rfl (fun H' _ hH => op_min (.r rfl) (.r rfl)) ?_
    refine AD.s (ws := []) rfl rfl (fun H' _ hH => op_field_ptr (.e rfl) fd50_1) ?_
    refine AD.s (ws := []) rfl rfl (fun H' _ hH => op_load_ptr1 (.e rfl) ((hH _ (by simp)).trans rfl) rfl sc3) ?_
    refine AD.s (ws := []) rfl rfl (fun H' _ hH => op_field_ptr (.e rfl) fd50_2) ?_
    refine AD.s (ws := []) rfl rfl (fun H' _ hH => op_load_ptr1 (.e rfl) ((hH _ (by simp)).trans rfl) rfl sc3) ?_
    refine AD.s (ws := []) rfl rfl (fun H' _ hH => op_max (.r rfl) (.r rfl)) ?_
    obtain ⟨v7, hv7, hm⟩ := bindE hm
    refine AD.s (ws := []) rfl rfl (fun H' _ hH => op_indexAddr_ls (f := SConstraint.e) (l := s4) (.e rfl) ((hH _ (by simp)).trans rfl) rfl (.r rfl) hv7 sl22) ?_
    refine AD.s (ws := []) rfl rfl (fun H' _ hH => op_field_ptr (.e rfl) fd50_1) ?_
    obtain ⟨v8, hv8, hm⟩ := bindE hm
    obtain ⟨v9, hv9, hm⟩ := bindE hm
    refine AD.s (ws := [(0, _)]) rfl rfl (fun H' _ hH => op_store_lsF (f := SConstraint.e) (l := s4) (a := s3) (v' := (⟨v8.fKind, (min v6.fA v6.fB), v8.fB⟩ : SConstraint)) (o := 1) enSConstraint (.e rfl) (.e rfl) rfl rfl ⟨_, rfl, rfl⟩ ((hH _ (by simp)).trans rfl) hv8 hv9 rfl rfl) ?_
    obtain ⟨v10, hv10, hm⟩ := bindE hm
    refine AD.s (ws := []) rfl rfl (fun H' _ hH => op_indexAddr_ls (f := SConstraint.e) (l := v9) (.e rfl) ((hH _ (by simp)).trans rfl) (setI_len hv9) (.r rfl) hv10 sl22) ?_
    refine AD.s (ws := []) rfl rfl (fun H' _ hH => op_field_ptr (.e rfl) fd50_2) ?_
    obtain ⟨v11, hv11, hm⟩ := bindE hm
    obtain ⟨v12, hv12, hm⟩ := bindE hm
    refine AD.s (ws := [(0, _)]) rfl rfl (fun H' _ hH => op_store_lsF (f := SConstraint.e) (l := v9) (a := s3) (v' := (⟨v11.fKind, v11.fA, (max v6.fA v6.fB)⟩ : SConstraint)) (o := 2) enSConstraint (.e rfl) (.e rfl) rfl rfl ⟨_, rfl, rfl⟩ ((hH _ (by simp)).trans rfl) hv11 hv12 rfl rfl) ?_
    refine AD.nil ?_
    refine bq_n ?_
    refine nq ?_
    refine AW.region ?_
    refine AL.s rfl (op_addw (.r rfl) (.r rfl)) ?_
    refine AL.s rfl (op_moveD (.e rfl)) ?_
    refine AL.nil ?_
    obtain rfl := Option.some.inj hm
    exact nq ⟨_, hI1, ⟨[0], rfl, rfl, rfl, ⟨(.hs rfl ((setI_len hv12).trans (setI_len hv9)).symm), (.hs rfl ((setI_len hv12).trans (setI_len hv9)).symm), (.d rfl), (.d rfl), trivial⟩, trivial, (.lst rfl .nil)⟩⟩
  · replace hm := iteF hc1 hm
    refine AW.exit ?_
    refine tq_exit ?_
    refine tq_exit ?_
    obtain rfl := Option.some.inj hm
    obtain rfl := Option.some.inj hI1
    replace hm := hk1
    try dsimp only at hm
    refine bq_hit ?_
    refine nq ?_
    refine AW.seqR ?_
    refine AL.s rfl (op_moveH (.e rfl)) ?_
    obtain ⟨v13, hv13, hm⟩ := bindE hm
    refine AL.s rfl (op_callF (v := .tup []) (H' := [.lst (v13.map SConstraint.e) 50 3]) [0] Try.call54 (.e rfl) (.cons (.e rfl) (.cons (.e rfl) .nil)) (m_slices_SortFunc_api_Constraint_api_Constraint_ok hv13) rfl (.cons rfl .nil) rfl rfl rfl rfl rfl rfl rfl rfl) ?_
    refine AL.nil ?_
    refine AW.reset 0 [(3, .hs 0 0 v13.length 3)] [.lst (v13.map SConstraint.e) 50 3] (WOK.g0 hw0 (by simp)) ⟨[0], rfl, rfl, rfl, ⟨(.hs rfl (m_slices_SortFunc_api_Constraint_api_Constraint_len hv13).symm), trivial⟩, trivial, (.lst rfl .nil)⟩ ?_
    refine AW.seqR ?_
    refine AL.s rfl (op_moveH (.e rfl)) ?_
    obtain ⟨v14, hv14, hm⟩ := bindE hm
    refine AL.s rfl (op_callF (v := .hs 1 0 v14.length 3) (H' := [.dead, .lst (v14.map SConstraint.e) 50 3]) [0] Try.call58 (.e rfl) (.cons (.e rfl) .nil) (m_slices_Compact_api_Constraint_api_Constraint_ok hv14) rfl (.cons rfl .nil) rfl rfl rfl rfl rfl rfl rfl rfl) ?_
    refine AL.s rfl (op_assignH (.e rfl)) ?_
    refine AL.nil ?_
    refine AW.ret ?_
    obtain rfl := Option.some.inj hm
    exact ⟨_, [1], (.tmp (.e rfl) .nil), rfl, rfl, (.cons (.hs rfl rfl) .nil), (.lst rfl .nil)⟩

set_option maxHeartbeats 20000000 in
theorem m_constraint_classes_of_ok {n : Nat} {c1 : (List (Int × Int))} {a2 : Int} {r : Int} (hm : m_constraint_classes_of n c1 a2 = some r) : ACall Try.prog 39 [.mp 0, .d (.int .i64 a2)] [.ob (mpO (c1.map (fun q => ((.int .i64 q.1), (.int .i64 q.2)))))] fun r' H' => r' = resOf [.d (.int .i64 r)] ∧ H' = [.ob (mpO (c1.map (fun q => ((.int .i64 q.1), (.int .i64 q.2)))))] := by
  unfold m_constraint_classes_of at hm
  refine ACall.of_AWG (fnn := Try.f39) Try.func39 rfl (Nat.le_of_ble_eq_true rfl) (fun g0 w0 hw0 => ?_)
  refine AW.reset 1 [(0, .mp 0), (1, .d (.int .i64 a2))] [.ob (mpO (c1.map (fun q => ((.int .i64 q.1), (.int .i64 q.2)))))] (WOK.g0 hw0 (by simp)) ⟨[0], rfl, rfl, rfl, ⟨(.mp rfl), (.d rfl), trivial⟩, trivial, (.ob rfl obR_mp .nil)⟩ ?_
  refine AW.seqR ?_
  refine AL.s rfl (op_assignD (.e rfl)) ?_
  refine AL.nil ?_
  refine AW.block ?_
  obtain ⟨t_1, hI1, hk1⟩ := bindE hm
  refine AW.loopS (σ := Int) (τ := Int) 1 (fun x => [(0, .mp 0), (1, .d (.int .i64 x))]) (fun x => [.ob (mpO (c1.map (fun q => ((.int .i64 q.1), (.int .i64 q.2)))))]) hI1 (WOK.g0 hw0 (by simp)) ⟨[0], rfl, rfl, rfl, ⟨(.mp rfl), (.d rfl), trivial⟩, trivial, (.ob rfl obR_mp .nil)⟩ ?_
  rintro n1 s3 hI1
  obtain ⟨y_1, hm, hI1⟩ := iterS hI1
  replace hm : m_constraint_classes_of_L1 n _ s3 = some y_1 := hm
  unfold m_constraint_classes_of_L1 at hm
  try dsimp only at hm
  refine AW.block ?_
  refine AW.seqR ?_
  refine AL.s rfl (op_moveM (.e rfl)) ?_
  refine AL.s rfl (op_moveD (.e rfl)) ?_
  refine AL.s rfl (op_lookupOk (m := c1) (k := s3) (z := ((0 : Int) : Int)) (fv := D.i) (keyInt Try.underlying3) Try.underlying64 (.e rfl) (.r rfl) rfl ⟨_, rfl, rfl⟩ (fun _ _ => .int _ _)) ?_
  refine AL.s rfl (op_moveU (.e rfl)) ?_
  refine AL.s rfl (op_extractV (.e rfl) rfl) ?_
  refine AL.s rfl (op_extractV (.e rfl) rfl) ?_
  refine AL.s rfl (op_assignD (.e rfl)) ?_
  refine AL.s rfl (op_assignD (.e rfl)) ?_
  refine AL.nil ?_
  refine AW.seq ?_
  refine AW.seqR ?_
  refine AL.s rfl (op_moveD (.e rfl)) ?_
  refine AL.s rfl (op_not (.r rfl)) ?_
  refine AL.s rfl (op_moveD (.e rfl)) ?_
  refine AL.sF rfl rfl rfl rfl (fun g => op_moveD (.e rfl)) ?_
  refine AL.sF rfl rfl rfl rfl (fun g => op_moveD (.e rfl)) ?_
  refine AL.sF rfl rfl rfl rfl (fun g => op_eql (.we (nt g) rfl rfl) (.we (nt g) rfl rfl)) ?_
  refine AL.s rfl (op_or (.r rfl) rfl (fun h => (.we (nt h) rfl rfl))) ?_
  refine AL.nil ?_
  refine AW.cond (b := _) rfl (fun hc1 => ?_) (fun hc1 => ?_)
  · replace hm := iteT hc1 hm
    refine AW.seqR ?_
    refine AL.s rfl (op_moveD (.e rfl)) ?_
    refine AL.s rfl (op_assignD (.e rfl)) ?_
    refine AL.nil ?_
    refine AW.ret ?_
    refine tq_ret ?_
    refine bq_ret ?_
    refine tq_ret ?_
    obtain rfl := Option.some.inj hm
    obtain rfl := Option.some.inj hI1
    replace hm := hk1
    try dsimp only at hm
    refine bq_ret ?_
    obtain rfl := Option.some.inj hm
    exact ⟨_, [0], (.tmp (.e rfl) .nil), rfl, rfl, (.cons (.d rfl) .nil), (.ob rfl obR_mp .nil)⟩
  · replace hm := iteF hc1 hm
    refine AW.skip ?_
    refine nq ?_
    refine AW.region ?_
    refine AL.s rfl (op_moveD (.e rfl)) ?_
    refine AL.s rfl (op_assignD (.e rfl)) ?_
    refine AL.nil ?_
    refine bq_n ?_
    obtain rfl := Option.some.inj hm
    exact nq ⟨_, hI1, ⟨[0], rfl, rfl, rfl, ⟨(.mp rfl), (.d rfl), trivial⟩, trivial, (.ob rfl obR_mp .nil)⟩⟩

set_option maxHeartbeats 20000000 in
theorem m_constraint_classesOf_ok {n : Nat} {a1 : (List SConstraint)} {r : (List (Int × Int))} (hm : m_constraint_classesOf n a1 = some r) : ACall Try.prog 37 [.d (.sl (a1.map SConstraint.e))] [] fun r' H' => r' = resOf [.mp 0] ∧ H' = [.ob (mpO (r.map (fun q => ((.int .i64 q.1), (.int .i64 q.2)))))] := by
  unfold m_constraint_classesOf at hm
  refine ACall.of_AWG (fnn := Try.f37) Try.func37 rfl (Nat.le_of_ble_eq_true rfl) (fun g0 w0 hw0 => ?_)
  refine AW.reset 0 [(0, .d (.sl (a1.map SConstraint.e)))] [] (WOK.g0 hw0 (by simp)) ⟨[], rfl, rfl, rfl, ⟨(.d rfl), trivial⟩, trivial, .nil⟩ ?_
  refine AW.seqR ?_
  refine AL.s rfl (op_assign_any) ?_
  refine AL.nil ?_
  refine AW.seqR ?_
  refine AL.s rfl (op_makeMap (n := 0) rfl) ?_
  refine AL.s rfl (op_assignM (.e rfl)) ?_
  refine AL.nil ?_
  refine AW.seq ?_
  refine AW.seqR ?_
  refine AL.s rfl (op_moveD (.e rfl)) ?_
  refine AL.s rfl (op_lenM (f := SConstraint.e) (.r rfl) sl22) ?_
  refine AL.s rfl (op_moveD (.e rfl)) ?_
  refine AL.nil ?_
  refine AW.block ?_
  obtain ⟨t_1, hI1, hk1⟩ := bindE hm
  refine AW.loopS (σ := (Int × (List (Int × Int)))) (τ := (List (Int × Int))) 0 (fun x => [(3, .mp 0), (9, .d (.sl (a1.map SConstraint.e))), (10, .d (.int .i64 (a1.length : Int))), (11, .d (.int .i64 x.1))]) (fun x => [.ob (mpO (x.2.map (fun q => ((.int .i64 q.1), (.int .i64 q.2)))))]) hI1 (WOK.g0 hw0 (by simp)) ⟨[0], rfl, rfl, rfl, ⟨(.mp rfl), (.d rfl), (.d rfl), (.d rfl), trivial⟩, trivial, (.ob rfl obR_mp .nil)⟩ ?_
  rintro n1 ⟨s2, s3⟩ hI1
  obtain ⟨y_1, hm, hI1⟩ := iterS hI1
  replace hm : m_constraint_classesOf_L1 n _ s2 s3 = some y_1 := hm
  unfold m_constraint_classesOf_L1 at hm
  try dsimp only at hm
  refine AW.seqR ?_
  refine AL.s rfl (op_lss (.r rfl) (.r rfl)) ?_
  refine AL.nil ?_
  refine AW.seq ?_
  refine AW.cond (b := _) rfl (fun hc1 => ?_) (fun hc1 => ?_)
  · replace hm := iteT hc1 hm
    refine AW.skip ?_
    refine nq ?_
    obtain ⟨t_j1, hm, hkj1⟩ := bindE hm
    refine AW.cutS (α := (List (Int × Int))) 0 (fun x => x = t_j1) (fun x => [(3, .mp 0), (9, .d (.sl (a1.map SConstraint.e))), (10, .d (.int .i64 (a1.length : Int))), (11, .d (.int .i64 s2))]) (fun x => [.ob (mpO (x.map (fun q => ((.int .i64 q.1), (.int .i64 q.2)))))]) (WOK.g0 hw0 (by simp)) ?_ ?_
    · skip
      refine AW.block ?_
      refine AW.seqR ?_
      obtain ⟨v4, hv4, hm⟩ := bindE hm
      refine AL.s rfl (op_indexAddrM (f := SConstraint.e) (.r rfl) (.r rfl) hv4 enSConstraint sl22) ?_
      refine AL.s rfl (op_loadA (.e rfl) rfl ag50) ?_
      refine AL.s rfl (op_alloc (n := 1) zr50 rfl) ?_
      refine AL.s rfl (op_store (.e rfl) (.e rfl) rfl rfl rfl ⟨_, rfl, rfl⟩ rfl (Nat.le_of_ble_eq_true rfl)) ?_
      refine AL.nil ?_
      refine AW.seqR ?_
      refine AL.s rfl (op_field_ptr (.e rfl) fd50_0) ?_
      refine AL.s rfl (op_load_ptr1 (.e rfl) rfl rfl sc3) ?_
      refine AL.s rfl (op_eql (.r rfl) (.r rfl)) ?_
      refine AL.nil ?_
      refine AW.cond (b := _) rfl (fun hc2 => ?_) (fun hc2 => ?_)
      · replace hm := iteT hc2 hm
        refine AW.seqD [([], []), ([], []), ([1], []), ([0], []), ([], []), ([], []), ([1], []), ([0], []), ([], []), ([], [])] mo (by decide +kernel) ?_
        refine AD.s (ws := []) rfl rfl (fun H' _ hH => op_moveM (.e rfl)) ?_
        refine AD.s (ws := []) rfl rfl (fun H' _ hH => op_field_ptr (.e rfl) fd50_1) ?_
        refine AD.s (ws := []) rfl rfl (fun H' _ hH => op_load_ptr1 (.e rfl) ((hH _ (by simp)).trans rfl) rfl sc3) ?_
        obtain ⟨v5, hv5, hm⟩ := bindE hm
        refine AD.s (ws := []) rfl rfl (fun H' _ hH => op_callQ [0] Try.call39 (.e rfl) (.cons (.e rfl) (.cons (.e rfl) .nil)) (m_constraint_classes_of_ok hv5) rfl (.cons ((hH _ (by simp)).trans rfl) .nil) rfl rfl rfl rfl rfl) ?_
        refine AD.s (ws := []) rfl rfl (fun H' _ hH => op_moveM (.e rfl)) ?_
        refine AD.s (ws := []) rfl rfl (fun H' _ hH => op_field_ptr (.e rfl) fd50_2) ?_
        refine AD.s (ws := []) rfl rfl (fun H' _ hH => op_load_ptr1 (.e rfl) ((hH _ (by simp)).trans rfl) rfl sc3) ?_
        obtain ⟨v6, hv6, hm⟩ := bindE hm
        refine AD.s (ws := []) rfl rfl (fun H' _ hH => op_callQ [0] Try.call39 (.e rfl) (.cons (.e rfl) (.cons (.e rfl) .nil)) (m_constraint_classes_of_ok hv6) rfl (.cons ((hH _ (by simp)).trans rfl) .nil) rfl rfl rfl rfl rfl) ?_
        refine AD.s (ws := []) rfl rfl (fun H' _ hH => op_assignD (.e rfl)) ?_
        refine AD.s (ws := []) rfl rfl (fun H' _ hH => op_assignD (.e rfl)) ?_
        refine AD.nil ?_
        refine AW.reset 0 [(3, .mp 0), (6, .d (.int .i64 v5)), (7, .d (.int .i64 v6)), (9, .d (.sl (a1.map SConstraint.e))), (10, .d (.int .i64 (a1.length : Int))), (11, .d (.int .i64 s2))] [.ob (mpO (s3.map (fun q => ((.int .i64 q.1), (.int .i64 q.2))))), .row [.d (.int .i64 v4.fKind), .d (.int .i64 v4.fA), .d (.int .i64 v4.fB)]] (WOK.g0 hw0 (by simp)) ⟨[0, 1], rfl, rfl, rfl, ⟨(.mp rfl), (.d rfl), (.d rfl), (.d rfl), (.d rfl), (.d rfl), trivial⟩, trivial, (.ob rfl obR_mp (.row rfl (.cons (.d rfl) (.cons (.d rfl) (.cons (.d rfl) .nil))) .nil))⟩ ?_
        refine AW.region ?_
        refine AL.s rfl (op_moveM (.e rfl)) ?_
        refine AL.s rfl (op_moveD (.e rfl)) ?_
        refine AL.s rfl (op_moveD (.e rfl)) ?_
        refine AL.s rfl (op_max (.r rfl) (.r rfl)) ?_
        refine AL.s rfl (op_moveD (.e rfl)) ?_
        refine AL.s rfl (op_moveD (.e rfl)) ?_
        refine AL.s rfl (op_min (.r rfl) (.r rfl)) ?_
        obtain ⟨v7, hv7, hm⟩ := bindE hm
        refine AL.s rfl (op_mapUpdateM (m := s3) (k := (max v5 v6)) (v := (min v5 v6)) (fv := D.i) (keyInt Try.underlying3) Try.underlying64 (.e rfl) (.r rfl) (.r rfl) rfl hv7) ?_
        refine AL.nil ?_
        refine bq_n ?_
        obtain rfl := Option.some.inj hm
        exact nq ⟨_, rfl, ⟨[0], rfl, rfl, rfl, ⟨(.mp rfl), (.d rfl), (.d rfl), (.d rfl), trivial⟩, trivial, (.ob rfl obR_mp .nil)⟩⟩
      · replace hm := iteF hc2 hm
        refine AW.skip ?_
        refine bq_n ?_
        obtain rfl := Option.some.inj hm
        exact nq ⟨_, rfl, ⟨[0], rfl, rfl, rfl, ⟨(.mp rfl), (.d rfl), (.d rfl), (.d rfl), trivial⟩, trivial, (.ob rfl obR_mp .nil)⟩⟩
    · rintro s8 rfl
      replace hm := hkj1
      try dsimp only at hm
      refine AW.region ?_
      refine AL.s rfl (op_addw (.r rfl) (.r rfl)) ?_
      refine AL.s rfl (op_moveD (.e rfl)) ?_
      refine AL.nil ?_
      obtain rfl := Option.some.inj hm
      exact nq ⟨_, hI1, ⟨[0], rfl, rfl, rfl, ⟨(.mp rfl), (.d rfl), (.d rfl), (.d rfl), trivial⟩, trivial, (.ob rfl obR_mp .nil)⟩⟩
  · replace hm := iteF hc1 hm
    refine AW.exit ?_
    refine tq_exit ?_
    refine tq_exit ?_
    obtain rfl := Option.some.inj hm
    obtain rfl := Option.some.inj hI1
    replace hm := hk1
    try dsimp only at hm
    refine bq_hit ?_
    refine nq ?_
    refine AW.seqR ?_
    refine AL.s rfl (op_moveM (.e rfl)) ?_
    refine AL.s rfl (op_assignM (.e rfl)) ?_
    refine AL.nil ?_
    refine AW.ret ?_
    obtain rfl := Option.some.inj hm
    exact ⟨_, [0], (.tmp (.e rfl) .nil), rfl, rfl, (.cons (.mp rfl) .nil), (.ob rfl obR_mp .nil)⟩

theorem m_slices_Sort_int_int_len {n : Nat} {c1 r : List Int} (hm : m_slices_Sort_int_int n c1 = some r) : r.length = c1.length := by
  unfold m_slices_Sort_int_int at hm
  split at hm
  · injection hm with hm; subst hm; exact isort_len _ _
  · cases hm
theorem m_slices_Sort_int_int_ok {n : Nat} {c1 r : List Int} (hm : m_slices_Sort_int_int n c1 = some r) : ACall Try.prog 59 [.hs 0 0 c1.length 1] [.lst (c1.map D.i) 3 1] fun r' H' => r' = resOf [] ∧ H' = [.lst (r.map D.i) 3 1] := by
  unfold m_slices_Sort_int_int at hm
  split at hm
  · rename_i h; injection hm with hm; subst hm; exact ACall.sort_int sortsI h
  · cases hm

set_option maxHeartbeats 20000000 in
theorem m_slices_Compact_int_int_ok {n : Nat} {c1 : (List Int)} {r : (List Int)} (hm : m_slices_Compact_int_int n c1 = some r) : ACall Try.prog 60 [.hs 0 0 c1.length 1] [.lst (c1.map D.i) 3 1] fun r' H' => r' = resOf [.hs 1 0 r.length 1] ∧ H' = [.dead, .lst (r.map D.i) 3 1] := by
  unfold m_slices_Compact_int_int at hm
  refine ACall.of_AWG (fnn := Try.f60) Try.func60 rfl (Nat.le_of_ble_eq_true rfl) (fun g0 w0 hw0 => ?_)
  refine AW.reset 1 [(0, .hs 0 0 c1.length 1)] [.lst (c1.map D.i) 3 1] (WOK.g0 hw0 (by simp)) ⟨[0], rfl, rfl, rfl, ⟨(.hs rfl rfl), trivial⟩, trivial, (.lst rfl .nil)⟩ ?_
  refine AW.seqR ?_
  refine AL.s rfl (op_assignN (.e rfl)) ?_
  refine AL.nil ?_
  refine AW.seq ?_
  refine AW.seqR ?_
  refine AL.s rfl (op_moveH (.e rfl)) ?_
  refine AL.s rfl (op_len_hs (.e rfl) rfl sl42) ?_
  refine AL.s rfl (op_lss (.r rfl) (.r rfl)) ?_
  refine AL.nil ?_
  refine AW.cond (b := _) rfl (fun hc1 => ?_) (fun hc1 => ?_)
  · replace hm := iteT hc1 hm
    refine AW.seqR ?_
    refine AL.s rfl (op_moveH (.e rfl)) ?_
    refine AL.s rfl (op_assignH (.e rfl)) ?_
    refine AL.nil ?_
    refine AW.moveL (n := 1) (f := D.i) (l := c1) 0 [2] rfl rfl ⟨rfl, trivial⟩ ?_
    refine AW.ret ?_
    refine tq_ret ?_
    obtain rfl := Option.some.inj hm
    exact ⟨_, [0, 1], (.tmp (.e rfl) .nil), rfl, rfl, (.cons (.hs rfl rfl) .nil), (.dead (.lst rfl .nil))⟩
  · replace hm := iteF hc1 hm
    refine AW.skip ?_
    refine nq ?_
    refine AW.seq ?_
    refine AW.seqR ?_
    refine AL.s rfl (op_assignD (.e rfl)) ?_
    refine AL.nil ?_
    refine AW.block ?_
    obtain ⟨t_1, hI1, hk1⟩ := bindE hm
    refine AW.loopS (σ := Int) (τ := ((List Int) ⊕ Unit)) 1 (fun x => [(0, .hs 0 0 c1.length 1), (3, .d (.int .i64 x))]) (fun x => [.lst (c1.map D.i) 3 1]) hI1 (WOK.g0 hw0 (by simp)) ⟨[0], rfl, rfl, rfl, ⟨(.hs rfl rfl), (.d rfl), trivial⟩, trivial, (.lst rfl .nil)⟩ ?_
    rintro n1 s2 hI1
    obtain ⟨y_1, hm, hI1⟩ := iterS hI1
    replace hm : m_slices_Compact_int_int_L1 n _ s2 = some y_1 := hm
    unfold m_slices_Compact_int_int_L1 at hm
    try dsimp only at hm
    refine AW.seq ?_
    refine AW.seqR ?_
    refine AL.s rfl (op_moveD (.e rfl)) ?_
    refine AL.s rfl (op_moveH (.e rfl)) ?_
    refine AL.s rfl (op_len_hs (.e rfl) rfl sl42) ?_
    refine AL.s rfl (op_lss (.r rfl) (.r rfl)) ?_
    refine AL.nil ?_
    refine AW.cond (b := _) rfl (fun hc2 => ?_) (fun hc2 => ?_)
    · replace hm := iteT hc2 hm
      refine AW.skip ?_
      refine nq ?_
      refine AW.seq ?_
      refine AW.block ?_
      refine AW.seqD [([], []), ([], []), ([0], []), ([0], []), ([], []), ([], []), ([], []), ([0], []), ([0], []), ([], [])] mo (by decide +kernel) ?_
      refine AD.s (ws := []) rfl rfl (fun H' _ hH => op_moveH (.e rfl)) ?_
      refine AD.s (ws := []) rfl rfl (fun H' _ hH => op_moveD (.e rfl)) ?_
      obtain ⟨v3, hv3, hm⟩ := bindE hm
      refine AD.s (ws := []) rfl rfl (fun H' _ hH => op_indexAddr_hs (f := D.i) (l := c1) (.e rfl) ((hH _ (by simp)).trans rfl) rfl (.r rfl) hv3 sl42) ?_
      obtain ⟨v4, hv4, hm⟩ := bindE hm
      refine AD.s (ws := []) rfl rfl (fun H' _ hH => op_load_lp (f := D.i) (fun _ => rfl) (.e rfl) ((hH _ (by simp)).trans rfl) hv4 sc3) ?_
      refine AD.s (ws := []) rfl rfl (fun H' _ hH => op_moveH (.e rfl)) ?_
      refine AD.s (ws := []) rfl rfl (fun H' _ hH => op_moveD (.e rfl)) ?_
      refine AD.s (ws := []) rfl rfl (fun H' _ hH => op_subw (.r rfl) (.r rfl)) ?_
      obtain ⟨v5, hv5, hm⟩ := bindE hm
      refine AD.s (ws := []) rfl rfl (fun H' _ hH => op_indexAddr_hs (f := D.i) (l := c1) (.e rfl) ((hH _ (by simp)).trans rfl) rfl (.r rfl) hv5 sl42) ?_
      obtain ⟨v6, hv6, hm⟩ := bindE hm
      refine AD.s (ws := []) rfl rfl (fun H' _ hH => op_load_lp (f := D.i) (fun _ => rfl) (.e rfl) ((hH _ (by simp)).trans rfl) hv6 sc3) ?_
      refine AD.s (ws := []) rfl rfl (fun H' _ hH => op_eql (.r rfl) (.r rfl)) ?_
      refine AD.nil ?_
      refine AW.cond (b := _) rfl (fun hc3 => ?_) (fun hc3 => ?_)
      · replace hm := iteT hc3 hm
        refine AW.seqR ?_
        refine AL.s rfl (op_moveH (.e rfl)) ?_
        refine AL.s rfl (op_moveD (.e rfl)) ?_
        obtain ⟨v7, hv7, hm⟩ := bindE hm
        refine AL.s rfl (op_sliceH (f := D.i) (l := c1) (.e rfl) rfl rfl sl42 (.r rfl) rfl hv7) ?_
        refine AL.s rfl (op_assignH (.e rfl)) ?_
        refine AL.nil ?_
        refine AW.seq ?_
        refine AW.seqR ?_
        refine AL.s rfl (op_assignD (.e rfl)) ?_
        refine AL.nil ?_
        refine AW.block ?_
        obtain ⟨t_2, hI2, hk2⟩ := bindE hm
        refine AW.loopM (σ := (Int × Int × (List Int))) (τ := (Int × (List Int))) 1 [4] (fun x => [(0, .hs 0 0 x.2.2.length 1), (3, .d (.int .i64 x.1)), (5, .d (.int .i64 x.2.1))]) (fun x => [.lst (x.2.2.map D.i) 3 1]) hI2 (WOK.g0 hw0 (by simp)) ⟨[0], rfl, rfl, rfl, ⟨(.hs rfl rfl), (.d rfl), (.d rfl), trivial⟩, ⟨rfl, trivial⟩, (.lst rfl .nil)⟩ ?_
        rintro n2 ⟨s8, s9, s10⟩ hI2
        obtain ⟨y_2, hm, hI2⟩ := iterS hI2
        replace hm : m_slices_Compact_int_int_L2 n _ _ s8 s9 s10 = some y_2 := hm
        unfold m_slices_Compact_int_int_L2 at hm
        try dsimp only at hm
        refine AW.seq ?_
        refine AW.seqR ?_
        refine AL.s rfl (op_moveD (.e rfl)) ?_
        refine AL.s rfl (op_moveH (.e rfl)) ?_
        refine AL.s rfl (op_len_hs (.e rfl) rfl sl42) ?_
        refine AL.s rfl (op_lss (.r rfl) (.r rfl)) ?_
        refine AL.nil ?_
        refine AW.cond (b := _) rfl (fun hc4 => ?_) (fun hc4 => ?_)
        · replace hm := iteT hc4 hm
          refine AW.skip ?_
          refine nq ?_
          obtain ⟨t_j1, hm, hkj1⟩ := bindE hm
          refine AW.cutM (α := (Int × (List Int))) 1 (fun x => x = t_j1) [4, 5] (fun x => [(0, .hs 0 0 x.2.length 1), (3, .d (.int .i64 x.1))]) (fun x => [.lst (x.2.map D.i) 3 1]) (WOK.g0 hw0 (by simp)) ?_ ?_
          · skip
            refine AW.block ?_
            refine AW.seqD [([], []), ([], []), ([0], []), ([0], []), ([], []), ([], []), ([], []), ([0], []), ([0], []), ([], [])] mo (by decide +kernel) ?_
            refine AD.s (ws := []) rfl rfl (fun H' _ hH => op_moveH (.e rfl)) ?_
            refine AD.s (ws := []) rfl rfl (fun H' _ hH => op_moveD (.e rfl)) ?_
            obtain ⟨v11, hv11, hm⟩ := bindE hm
            refine AD.s (ws := []) rfl rfl (fun H' _ hH => op_indexAddr_pc (lo := s2) (r := v7) (a := s9) (ls := s10.map D.i) (.e rfl) (slc_lo hv7) ((hH _ (by simp)).trans rfl) (.r rfl) hv11 sl42) ?_
            obtain ⟨v12, hv12, hm⟩ := bindE hm
            refine AD.s (ws := []) rfl rfl (fun H' _ hH => op_load_lp1 (f := D.i) (l := s10) (a := (s2 + s9)) (fun _ => rfl) (.e rfl) ((hH _ (by simp)).trans rfl) hv12 sc3) ?_
            refine AD.s (ws := []) rfl rfl (fun H' _ hH => op_moveH (.e rfl)) ?_
            refine AD.s (ws := []) rfl rfl (fun H' _ hH => op_moveD (.e rfl)) ?_
            refine AD.s (ws := []) rfl rfl (fun H' _ hH => op_subw (.r rfl) (.r rfl)) ?_
            obtain ⟨v13, hv13, hm⟩ := bindE hm
            refine AD.s (ws := []) rfl rfl (fun H' _ hH => op_indexAddr_pc (lo := s2) (r := v7) (a := (IntKind.i64.wrap (s9 - (1 : Int)))) (ls := s10.map D.i) (.e rfl) (slc_lo hv7) ((hH _ (by simp)).trans rfl) (.r rfl) hv13 sl42) ?_
            obtain ⟨v14, hv14, hm⟩ := bindE hm
            refine AD.s (ws := []) rfl rfl (fun H' _ hH => op_load_lp1 (f := D.i) (l := s10) (a := (s2 + (IntKind.i64.wrap (s9 - (1 : Int))))) (fun _ => rfl) (.e rfl) ((hH _ (by simp)).trans rfl) hv14 sc3) ?_
            refine AD.s (ws := []) rfl rfl (fun H' _ hH => op_neq (.r rfl) (.r rfl)) ?_
            refine AD.nil ?_
            refine AW.cond (b := _) rfl (fun hc5 => ?_) (fun hc5 => ?_)
            · replace hm := iteT hc5 hm
              refine AW.seqR ?_
              refine AL.s rfl (op_moveH (.e rfl)) ?_
              refine AL.s rfl (op_moveD (.e rfl)) ?_
              refine AL.s rfl (op_moveH (.e rfl)) ?_
              refine AL.s rfl (op_moveD (.e rfl)) ?_
              obtain ⟨v15, hv15, hm⟩ := bindE hm
              refine AL.s rfl (op_indexAddr_pc (lo := s2) (r := v7) (a := s9) (ls := s10.map D.i) (.e rfl) (slc_lo hv7) rfl (.r rfl) hv15 sl42) ?_
              obtain ⟨v16, hv16, hm⟩ := bindE hm
              refine AL.s rfl (op_load_lp1 (f := D.i) (l := s10) (a := (s2 + s9)) (fun _ => rfl) (.e rfl) rfl hv16 sc3) ?_
              obtain ⟨v17, hv17, hm⟩ := bindE hm
              refine AL.s rfl (op_indexAddr_hs (f := D.i) (l := s10) (.e rfl) rfl rfl (.r rfl) hv17 sl42) ?_
              obtain ⟨v18, hv18, hm⟩ := bindE hm
              refine AL.s rfl (op_store_lp (f := D.i) (fun _ => rfl) (.e rfl) (.r rfl) rfl hv18 ⟨_, rfl, rfl⟩ En.i) ?_
              refine AL.nil ?_
              refine AW.region ?_
              refine AL.s rfl (op_moveD (.e rfl)) ?_
              refine AL.s rfl (op_addw (.r rfl) (.r rfl)) ?_
              refine AL.s rfl (op_assignD (.e rfl)) ?_
              refine AL.nil ?_
              refine bq_n ?_
              obtain rfl := Option.some.inj hm
              exact nq ⟨_, rfl, ⟨[0], rfl, rfl, rfl, ⟨(.hs rfl (setI_len hv18).symm), (.d rfl), trivial⟩, ⟨rfl, rfl, trivial⟩, (.lst rfl .nil)⟩⟩
            · replace hm := iteF hc5 hm
              refine AW.skip ?_
              refine bq_n ?_
              obtain rfl := Option.some.inj hm
              exact nq ⟨_, rfl, ⟨[0], rfl, rfl, rfl, ⟨(.hs rfl rfl), (.d rfl), trivial⟩, ⟨rfl, rfl, trivial⟩, (.lst rfl .nil)⟩⟩
          · rintro ⟨s19, s20⟩ rfl
            replace hm := hkj1
            try dsimp only at hm
            refine AW.region ?_
            refine AL.s rfl (op_moveD (.e rfl)) ?_
            refine AL.s rfl (op_addw (.r rfl) (.r rfl)) ?_
            refine AL.s rfl (op_assignD (.e rfl)) ?_
            refine AL.nil ?_
            obtain rfl := Option.some.inj hm
            exact nq ⟨_, hI2, ⟨[0], rfl, rfl, rfl, ⟨(.hs rfl rfl), (.d rfl), (.d rfl), trivial⟩, ⟨rfl, trivial⟩, (.lst rfl .nil)⟩⟩
        · replace hm := iteF hc4 hm
          refine AW.exit ?_
          refine tq_exit ?_
          refine tq_exit ?_
          obtain rfl := Option.some.inj hm
          obtain rfl := Option.some.inj hI2
          replace hm := hk2
          try dsimp only at hm
          refine bq_hit ?_
          refine nq ?_
          refine AW.seqR ?_
          refine AL.s rfl (op_moveH (.e rfl)) ?_
          refine AL.s rfl (op_moveD (.e rfl)) ?_
          obtain ⟨v21, hv21, hm⟩ := bindE hm
          refine AL.s rfl (op_sliceH (f := D.i) (l := s10) (.e rfl) rfl rfl sl42 (.r rfl) rfl hv21) ?_
          refine AL.s rfl (op_clear (f := D.i) (l := s10) (z := ((0 : Int) : Int)) En.i (.e rfl) rfl (slc_le hv21) sl42 zr3 rfl) ?_
          refine AL.nil ?_
          refine AW.seqR ?_
          refine AL.s rfl (op_moveH (.e rfl)) ?_
          refine AL.s rfl (op_moveD (.e rfl)) ?_
          obtain ⟨v22, hv22, hm⟩ := bindE hm
          refine AL.s rfl (op_truncH (f := D.i) (l := (clrL s10 s8.toNat v21.length ((0 : Int) : Int))) (.e rfl) rfl (clrL_len (slc_le hv21)) sl42 (.r rfl) hv22) ?_
          refine AL.s rfl (op_assignH (.e rfl)) ?_
          refine AL.nil ?_
          refine AW.moveL (n := 1) (f := D.i) (l := v22) 0 [2] rfl rfl ⟨rfl, trivial⟩ ?_
          refine AW.ret ?_
          refine bq_ret ?_
          refine tq_ret ?_
          refine tq_ret ?_
          obtain rfl := Option.some.inj hm
          obtain rfl := Option.some.inj hI1
          replace hm := hk1
          try dsimp only at hm
          refine bq_ret ?_
          refine tq_ret ?_
          obtain rfl := Option.some.inj hm
          exact ⟨_, [0, 1], (.tmp (.e rfl) .nil), rfl, rfl, (.cons (.hs rfl rfl) .nil), (.dead (.lst rfl .nil))⟩
      · replace hm := iteF hc3 hm
        refine AW.skip ?_
        refine bq_n ?_
        refine nq ?_
        refine AW.region ?_
        refine AL.s rfl (op_moveD (.e rfl)) ?_
        refine AL.s rfl (op_addw (.r rfl) (.r rfl)) ?_
        refine AL.s rfl (op_assignD (.e rfl)) ?_
        refine AL.nil ?_
        obtain rfl := Option.some.inj hm
        exact nq ⟨_, hI1, ⟨[0], rfl, rfl, rfl, ⟨(.hs rfl rfl), (.d rfl), trivial⟩, trivial, (.lst rfl .nil)⟩⟩
    · replace hm := iteF hc2 hm
      refine AW.exit ?_
      refine tq_exit ?_
      refine tq_exit ?_
      obtain rfl := Option.some.inj hm
      obtain rfl := Option.some.inj hI1
      replace hm := hk1
      try dsimp only at hm
      refine bq_hit ?_
      refine nq ?_
      refine AW.seqR ?_
      refine AL.s rfl (op_moveH (.e rfl)) ?_
      refine AL.s rfl (op_assignH (.e rfl)) ?_
      refine AL.nil ?_
      refine AW.moveL (n := 1) (f := D.i) (l := c1) 0 [2] rfl rfl ⟨rfl, trivial⟩ ?_
      refine AW.ret ?_
      obtain rfl := Option.some.inj hm
      exact ⟨_, [0, 1], (.tmp (.e rfl) .nil), rfl, rfl, (.cons (.hs rfl rfl) .nil), (.dead (.lst rfl .nil))⟩

set_option maxHeartbeats 20000000 in
theorem m_constraint_records_ok {n : Nat} {a1 : (List SConstraint)} {r : (List Int)} (hm : m_constraint_records n a1 = some r) : ACall Try.prog 38 [.d (.sl (a1.map SConstraint.e))] [] fun r' H' => r' = resOf [.hs 0 0 r.length 1] ∧ H' = [.lst (r.map D.i) 3 1] := by
  unfold m_constraint_records at hm
  refine ACall.of_AWG (fnn := Try.f38) Try.func38 rfl (Nat.le_of_ble_eq_true rfl) (fun g0 w0 hw0 => ?_)
  refine AW.reset 0 [(0, .d (.sl (a1.map SConstraint.e)))] [] (WOK.g0 hw0 (by simp)) ⟨[], rfl, rfl, rfl, ⟨(.d rfl), trivial⟩, trivial, .nil⟩ ?_
  refine AW.seqR ?_
  refine AL.s rfl (op_assignN (.e rfl)) ?_
  refine AL.nil ?_
  refine AW.seqR ?_
  refine AL.s rfl (op_assignN (.e rfl)) ?_
  refine AL.nil ?_
  refine AW.seq ?_
  refine AW.seqR ?_
  refine AL.s rfl (op_moveD (.e rfl)) ?_
  refine AL.s rfl (op_lenM (f := SConstraint.e) (.r rfl) sl22) ?_
  refine AL.s rfl (op_moveD (.e rfl)) ?_
  refine AL.nil ?_
  refine AW.block ?_
  refine AW.lstize (n := 0) 3 3 1 rfl rfl ?_
  obtain ⟨t_1, hI1, hk1⟩ := bindE hm
  refine AW.loopS (σ := (Int × (List Int))) (τ := (List Int)) 0 (fun x => [(3, .hs 0 0 x.2.length 1), (6, .d (.sl (a1.map SConstraint.e))), (7, .d (.int .i64 (a1.length : Int))), (8, .d (.int .i64 x.1))]) (fun x => [.lst (x.2.map D.i) 3 1]) hI1 (WOK.g0 hw0 (by simp)) ⟨[0], rfl, rfl, rfl, ⟨(.hs rfl rfl), (.d rfl), (.d rfl), (.d rfl), trivial⟩, trivial, (.lst rfl .nil)⟩ ?_
  rintro n1 ⟨s2, s3⟩ hI1
  obtain ⟨y_1, hm, hI1⟩ := iterS hI1
  replace hm : m_constraint_records_L1 n _ s2 s3 = some y_1 := hm
  unfold m_constraint_records_L1 at hm
  try dsimp only at hm
  refine AW.seqR ?_
  refine AL.s rfl (op_lss (.r rfl) (.r rfl)) ?_
  refine AL.nil ?_
  refine AW.seq ?_
  refine AW.cond (b := _) rfl (fun hc1 => ?_) (fun hc1 => ?_)
  · replace hm := iteT hc1 hm
    refine AW.skip ?_
    refine nq ?_
    obtain ⟨t_j1, hm, hkj1⟩ := bindE hm
    refine AW.cutS (α := (List Int)) 0 (fun x => x = t_j1) (fun x => [(3, .hs 0 0 x.length 1), (6, .d (.sl (a1.map SConstraint.e))), (7, .d (.int .i64 (a1.length : Int))), (8, .d (.int .i64 s2))]) (fun x => [.lst (x.map D.i) 3 1]) (WOK.g0 hw0 (by simp)) ?_ ?_
    · skip
      refine AW.block ?_
      refine AW.seqR ?_
      obtain ⟨v4, hv4, hm⟩ := bindE hm
      refine AL.s rfl (op_indexAddrM (f := SConstraint.e) (.r rfl) (.r rfl) hv4 enSConstraint sl22) ?_
      refine AL.s rfl (op_loadA (.e rfl) rfl ag50) ?_
      refine AL.s rfl (op_alloc (n := 1) zr50 rfl) ?_
      refine AL.s rfl (op_store (.e rfl) (.e rfl) rfl rfl rfl ⟨_, rfl, rfl⟩ rfl (Nat.le_of_ble_eq_true rfl)) ?_
      refine AL.nil ?_
      refine AW.seqR ?_
      refine AL.s rfl (op_field_ptr (.e rfl) fd50_0) ?_
      refine AL.s rfl (op_load_ptr1 (.e rfl) rfl rfl sc3) ?_
      refine AL.s rfl (op_eql (.r rfl) (.r rfl)) ?_
      refine AL.nil ?_
      refine AW.cond (b := _) rfl (fun hc2 => ?_) (fun hc2 => ?_)
      · replace hm := iteT hc2 hm
        refine AW.region ?_
        refine AL.s rfl (op_moveH (.e rfl)) ?_
        refine AL.s rfl (op_field_ptr (.e rfl) fd50_1) ?_
        refine AL.s rfl (op_load_ptr1 (.e rfl) rfl rfl sc3) ?_
        refine AL.s rfl (op_field_ptr (.e rfl) fd50_2) ?_
        refine AL.s rfl (op_load_ptr1 (.e rfl) rfl rfl sc3) ?_
        refine AL.s rfl (op_buildSlice (ds := ([v4.fA, v4.fB] : List Int).map D.i) sl42 (.cons (.r rfl) rfl (En.i.one _) (.cons (.r rfl) rfl (En.i.one _) .nil)) rfl (by decide)) ?_
        obtain ⟨v5, hv5, hm⟩ := bindE hm
        refine AL.s rfl (op_appendHM (n := 2) (f := D.i) (l := s3) (l' := ([v4.fA, v4.fB] : List Int)) sl42 (.e rfl) (.r rfl) rfl rfl rfl En.i hv5) ?_
        refine AL.s rfl (op_assignH (.e rfl)) ?_
        refine AL.nil ?_
        refine bq_n ?_
        obtain rfl := Option.some.inj hm
        exact nq ⟨_, rfl, ⟨[2], rfl, rfl, rfl, ⟨(.hs rfl rfl), (.d rfl), (.d rfl), (.d rfl), trivial⟩, trivial, (.lst rfl .nil)⟩⟩
      · replace hm := iteF hc2 hm
        refine AW.skip ?_
        refine bq_n ?_
        obtain rfl := Option.some.inj hm
        exact nq ⟨_, rfl, ⟨[0], rfl, rfl, rfl, ⟨(.hs rfl rfl), (.d rfl), (.d rfl), (.d rfl), trivial⟩, trivial, (.lst rfl .nil)⟩⟩
    · rintro s6 rfl
      replace hm := hkj1
      try dsimp only at hm
      refine AW.region ?_
      refine AL.s rfl (op_addw (.r rfl) (.r rfl)) ?_
      refine AL.s rfl (op_moveD (.e rfl)) ?_
      refine AL.nil ?_
      obtain rfl := Option.some.inj hm
      exact nq ⟨_, hI1, ⟨[0], rfl, rfl, rfl, ⟨(.hs rfl rfl), (.d rfl), (.d rfl), (.d rfl), trivial⟩, trivial, (.lst rfl .nil)⟩⟩
  · replace hm := iteF hc1 hm
    refine AW.exit ?_
    refine tq_exit ?_
    refine tq_exit ?_
    obtain rfl := Option.some.inj hm
    obtain rfl := Option.some.inj hI1
    replace hm := hk1
    try dsimp only at hm
    refine bq_hit ?_
    refine nq ?_
    refine AW.seqR ?_
    refine AL.s rfl (op_moveH (.e rfl)) ?_
    obtain ⟨v7, hv7, hm⟩ := bindE hm
    refine AL.s rfl (op_callF (v := .tup []) (H' := [.lst (v7.map D.i) 3 1]) [0] Try.call59 (.e rfl) (.cons (.e rfl) .nil) (m_slices_Sort_int_int_ok hv7) rfl (.cons rfl .nil) rfl rfl rfl rfl rfl rfl rfl rfl) ?_
    refine AL.nil ?_
    refine AW.reset 0 [(3, .hs 0 0 v7.length 1)] [.lst (v7.map D.i) 3 1] (WOK.g0 hw0 (by simp)) ⟨[0], rfl, rfl, rfl, ⟨(.hs rfl (m_slices_Sort_int_int_len hv7).symm), trivial⟩, trivial, (.lst rfl .nil)⟩ ?_
    refine AW.seqR ?_
    refine AL.s rfl (op_moveH (.e rfl)) ?_
    obtain ⟨v8, hv8, hm⟩ := bindE hm
    refine AL.s rfl (op_callF (v := .hs 1 0 v8.length 1) (H' := [.dead, .lst (v8.map D.i) 3 1]) [0] Try.call60 (.e rfl) (.cons (.e rfl) .nil) (m_slices_Compact_int_int_ok hv8) rfl (.cons rfl .nil) rfl rfl rfl rfl rfl rfl rfl rfl) ?_
    refine AL.s rfl (op_assignH (.e rfl)) ?_
    refine AL.nil ?_
    refine AW.ret ?_
    obtain rfl := Option.some.inj hm
    exact ⟨_, [1], (.tmp (.e rfl) .nil), rfl, rfl, (.cons (.hs rfl rfl) .nil), (.lst rfl .nil)⟩

set_option maxHeartbeats 20000000 in
theorem m_constraint_Groups_ok {n : Nat} {a1 : (List SConstraint)} {r : ((List (List Int)) × Int)} (hm : m_constraint_Groups n a1 = some r) : Fn Try.prog 15 [(.sl (a1.map SConstraint.e))] (.tup [(.sl (r.1.map (esl D.i))), (.int .i64 r.2)]) := by
  unfold m_constraint_Groups at hm
  refine Fn.of_AW (fnn := Try.f15) Try.func15 rfl (Nat.le_of_ble_eq_true rfl) (fun g0 w0 hw0 => ?_)
  refine AW.reset 0 [(0, .d (.sl (a1.map SConstraint.e)))] [] (WOK.g0 hw0 (by simp)) ⟨[], rfl, rfl, rfl, ⟨(.d rfl), trivial⟩, trivial, .nil⟩ ?_
  refine AW.seqR ?_
  refine AL.s rfl (op_assignN (.e rfl)) ?_
  refine AL.s rfl (op_assignD (.e rfl)) ?_
  refine AL.nil ?_
  refine AW.seq ?_
  refine AW.seqR ?_
  refine AL.s rfl (op_moveD (.e rfl)) ?_
  obtain ⟨v2, hv2, hm⟩ := bindE hm
  refine AL.s rfl (op_fn Try.call30 (.e rfl) (.cons (.r rfl) .nil) (m_constraint_Valid_ok hv2)) ?_
  refine AL.s rfl (op_not (.r rfl)) ?_
  refine AL.nil ?_
  refine AW.cond (b := _) rfl (fun hc1 => ?_) (fun hc1 => ?_)
  · replace hm := iteT hc1 hm
    refine AW.seqR ?_
    refine AL.s rfl (op_assignN (.e rfl)) ?_
    refine AL.s rfl (op_assignD (.e rfl)) ?_
    refine AL.nil ?_
    refine AW.ret ?_
    refine tq_ret ?_
    obtain rfl := Option.some.inj hm
    exact EndQ.d (.tmp (.e rfl) (.tmp (.e rfl) .nil)) rfl rfl
  · replace hm := iteF hc1 hm
    refine AW.skip ?_
    refine nq ?_
    refine AW.seqR ?_
    refine AL.s rfl (op_moveD (.e rfl)) ?_
    obtain ⟨v3, hv3, hm⟩ := bindE hm
    refine AL.s rfl (op_callF (v := .mp 0) (H' := [.ob (mpO (v3.map (fun q => ((.int .i64 q.1), (.int .i64 q.2)))))]) [] Try.call37 (.e rfl) (.cons (.e rfl) .nil) (m_constraint_classesOf_ok hv3) rfl .nil rfl rfl rfl rfl rfl rfl rfl rfl) ?_
    refine AL.s rfl (op_assignM (.e rfl)) ?_
    refine AL.nil ?_
    refine AW.seqR ?_
    refine AL.s rfl (op_makeMap (n := 1) rfl) ?_
    refine AL.s rfl (op_assignM (.e rfl)) ?_
    refine AL.nil ?_
    refine AW.seqR ?_
    refine AL.s rfl (op_assignN (.e rfl)) ?_
    refine AL.nil ?_
    refine AW.seq ?_
    refine AW.seqR ?_
    refine AL.s rfl (op_moveD (.e rfl)) ?_
    obtain ⟨v4, hv4, hm⟩ := bindE hm
    refine AL.s rfl (op_callF (v := .hs 2 0 v4.length 1) (H' := [.ob (mpO (v3.map (fun q => ((.int .i64 q.1), (.int .i64 q.2))))), .ob (mpO (([] : (List (Int × Int))).map (fun q => ((.int .i64 q.1), (.int .i64 q.2))))), .lst (v4.map D.i) 3 1]) [] Try.call38 (.e rfl) (.cons (.e rfl) .nil) (m_constraint_records_ok hv4) rfl .nil rfl rfl rfl rfl rfl rfl rfl rfl) ?_
    refine AL.s rfl (op_len_hs (.e rfl) rfl sl42) ?_
    refine AL.s rfl (op_moveD (.e rfl)) ?_
    refine AL.nil ?_
    refine AW.block ?_
    refine AW.rsize (n := 3) D.i 6 3 42 rfl rfl ?_
    obtain ⟨t_1, hI1, hk1⟩ := bindE hm
    refine AW.loopS (σ := (Int × (List (Int × Int)) × (List (List Int)))) (τ := ((List (Int × Int)) × (List (List Int)))) 0 (fun x => [(4, .mp 0), (5, .mp 1), (6, .hs 3 0 x.2.2.length 1), (18, .hs 2 0 v4.length 1), (19, .d (.int .i64 (v4.length : Int))), (20, .d (.int .i64 x.1))]) (fun x => [.ob (mpO (v3.map (fun q => ((.int .i64 q.1), (.int .i64 q.2))))), .ob (mpO (x.2.1.map (fun q => ((.int .i64 q.1), (.int .i64 q.2))))), .lst (v4.map D.i) 3 1, rsE D.i 3 42 x.2.2 none]) hI1 (WOK.g0 hw0 (by simp)) ⟨[0, 1, 2, 3], rfl, rfl, rfl, ⟨(.mp rfl), (.mp rfl), (.hs rfl rfl), (.hs rfl rfl), (.d rfl), (.d rfl), trivial⟩, trivial, (.ob rfl obR_mp (.ob rfl obR_mp (.lst rfl (.rs rfl .nil))))⟩ ?_
    rintro n1 ⟨s5, s6, s7⟩ hI1
    obtain ⟨y_1, hm, hI1⟩ := iterS hI1
    replace hm : m_constraint_Groups_L1 n _ _ s5 s6 s7 = some y_1 := hm
    unfold m_constraint_Groups_L1 at hm
    try dsimp only at hm
    refine AW.seqR ?_
    refine AL.s rfl (op_lss (.r rfl) (.r rfl)) ?_
    refine AL.nil ?_
    refine AW.seq ?_
    refine AW.cond (b := _) rfl (fun hc2 => ?_) (fun hc2 => ?_)
    · replace hm := iteT hc2 hm
      refine AW.skip ?_
      refine nq ?_
      refine AW.seq ?_
      refine AW.block ?_
      refine AW.seqR ?_
      obtain ⟨v8, hv8, hm⟩ := bindE hm
      refine AL.s rfl (op_indexAddr_hs (f := D.i) (l := v4) (.e rfl) rfl rfl (.r rfl) hv8 sl42) ?_
      obtain ⟨v9, hv9, hm⟩ := bindE hm
      refine AL.s rfl (op_load_lp (f := D.i) (fun _ => rfl) (.e rfl) rfl hv9 sc3) ?_
      refine AL.s rfl (op_assignD (.e rfl)) ?_
      refine AL.nil ?_
      refine AW.seqR ?_
      refine AL.s rfl (op_moveM (.e rfl)) ?_
      refine AL.s rfl (op_moveM (.e rfl)) ?_
      refine AL.s rfl (op_moveD (.e rfl)) ?_
      obtain ⟨v10, hv10, hm⟩ := bindE hm
      refine AL.s rfl (op_callF (v := .d (.int .i64 v10)) (H' := [.ob (mpO (v3.map (fun q => ((.int .i64 q.1), (.int .i64 q.2))))), .ob (mpO (s6.map (fun q => ((.int .i64 q.1), (.int .i64 q.2))))), .lst (v4.map D.i) 3 1, rsE D.i 3 42 s7 none]) [0] Try.call39 (.e rfl) (.cons (.e rfl) (.cons (.e rfl) .nil)) (m_constraint_classes_of_ok hv10) rfl (.cons rfl .nil) rfl rfl rfl rfl rfl rfl rfl rfl) ?_
      refine AL.s rfl (op_lookupOk (m := s6) (k := v10) (z := ((0 : Int) : Int)) (fv := D.i) (keyInt Try.underlying3) Try.underlying63 (.e rfl) (.r rfl) rfl ⟨_, rfl, rfl⟩ (fun _ _ => .int _ _)) ?_
      refine AL.s rfl (op_moveU (.e rfl)) ?_
      refine AL.s rfl (op_extractV (.e rfl) rfl) ?_
      refine AL.s rfl (op_extractV (.e rfl) rfl) ?_
      refine AL.s rfl (op_assignD (.e rfl)) ?_
      refine AL.s rfl (op_assignD (.e rfl)) ?_
      refine AL.nil ?_
      obtain ⟨t_j1, hm, hkj1⟩ := bindE hm
      refine AW.cutS (α := (Int × (List (Int × Int)) × (List (List Int)))) 0 (fun x => x = t_j1) (fun x => [(4, .mp 0), (5, .mp 1), (6, .hs 3 0 x.2.2.length 1), (8, .d (.int .i64 v9)), (9, .d (.int .i64 x.1)), (18, .hs 2 0 v4.length 1), (19, .d (.int .i64 (v4.length : Int))), (20, .d (.int .i64 s5))]) (fun x => [.ob (mpO (v3.map (fun q => ((.int .i64 q.1), (.int .i64 q.2))))), .ob (mpO (x.2.1.map (fun q => ((.int .i64 q.1), (.int .i64 q.2))))), .lst (v4.map D.i) 3 1, rsE D.i 3 42 x.2.2 none]) (WOK.g0 hw0 (by simp)) ?_ ?_
      · skip
        refine AW.seqR ?_
        refine AL.s rfl (op_moveD (.e rfl)) ?_
        refine AL.s rfl (op_not (.r rfl)) ?_
        refine AL.nil ?_
        refine AW.cond (b := _) rfl (fun hc3 => ?_) (fun hc3 => ?_)
        · replace hm := iteT hc3 hm
          refine AW.seqR ?_
          refine AL.s rfl (op_moveH (.e rfl)) ?_
          refine AL.s rfl (op_len_rs (f := D.i) (m := s7) (.e rfl) rfl sl29) ?_
          refine AL.s rfl (op_assignD (.e rfl)) ?_
          refine AL.nil ?_
          refine AW.seqR ?_
          refine AL.s rfl (op_moveM (.e rfl)) ?_
          refine AL.s rfl (op_moveM (.e rfl)) ?_
          refine AL.s rfl (op_moveD (.e rfl)) ?_
          obtain ⟨v11, hv11, hm⟩ := bindE hm
          refine AL.s rfl (op_callF (v := .d (.int .i64 v11)) (H' := [.ob (mpO (v3.map (fun q => ((.int .i64 q.1), (.int .i64 q.2))))), .ob (mpO (s6.map (fun q => ((.int .i64 q.1), (.int .i64 q.2))))), .lst (v4.map D.i) 3 1, rsE D.i 3 42 s7 none]) [0] Try.call39 (.e rfl) (.cons (.e rfl) (.cons (.e rfl) .nil)) (m_constraint_classes_of_ok hv11) rfl (.cons rfl .nil) rfl rfl rfl rfl rfl rfl rfl rfl) ?_
          refine AL.s rfl (op_moveD (.e rfl)) ?_
          obtain ⟨v12, hv12, hm⟩ := bindE hm
          refine AL.s rfl (op_mapUpdateM (m := s6) (k := v11) (v := (s7.length : Int)) (fv := D.i) (keyInt Try.underlying3) Try.underlying63 (.e rfl) (.r rfl) (.r rfl) rfl hv12) ?_
          refine AL.nil ?_
          refine AW.region ?_
          refine AL.s rfl (op_moveH (.e rfl)) ?_
          refine AL.s rfl (op_buildNil sl29 rfl) ?_
          obtain ⟨v13, hv13, hm⟩ := bindE hm
          refine AL.s rfl (op_appendNil_rs (n := 4) (f := D.i) (m := s7) sl29 (.e rfl) (.r rfl) rfl rfl rfl hv13) ?_
          refine AL.s rfl (op_assignH (.e rfl)) ?_
          refine AL.nil ?_
          obtain rfl := Option.some.inj hm
          exact nq ⟨_, rfl, ⟨[0, 1, 2, 4], rfl, rfl, rfl, ⟨(.mp rfl), (.mp rfl), (.hs rfl rfl), (.d rfl), (.d rfl), (.hs rfl rfl), (.d rfl), (.d rfl), trivial⟩, trivial, (.ob rfl obR_mp (.ob rfl obR_mp (.lst rfl (.rs rfl .nil))))⟩⟩
        · replace hm := iteF hc3 hm
          refine AW.skip ?_
          obtain rfl := Option.some.inj hm
          exact nq ⟨_, rfl, ⟨[0, 1, 2, 3], rfl, rfl, rfl, ⟨(.mp rfl), (.mp rfl), (.hs rfl rfl), (.d rfl), (.d rfl), (.hs rfl rfl), (.d rfl), (.d rfl), trivial⟩, trivial, (.ob rfl obR_mp (.ob rfl obR_mp (.lst rfl (.rs rfl .nil))))⟩⟩
      · rintro ⟨s14, s15, s16⟩ rfl
        replace hm := hkj1
        try dsimp only at hm
        refine AW.region ?_
        refine AL.s rfl (op_moveH (.e rfl)) ?_
        refine AL.s rfl (op_moveD (.e rfl)) ?_
        refine AL.s rfl (op_moveH (.e rfl)) ?_
        refine AL.s rfl (op_moveD (.e rfl)) ?_
        obtain ⟨v17, hv17, hm⟩ := bindE hm
        refine AL.s rfl (op_index_rs (f := D.i) (m := s16) (a := s14) (.e rfl) rfl rfl (.r rfl) hv17 sl29) ?_
        refine AL.gh (Gh.lendS (f := D.i) (m := s16) (n := 4) (id := 3) (k := s14) (r := v17) (fun _ => rfl) rfl rfl hv17) ?_
        refine AL.s rfl (op_load_rs (f := D.i) (m := s16) (a := s14) (r := v17) (.e rfl) rfl hv17 sc42) ?_
        refine AL.s rfl (op_moveD (.e rfl)) ?_
        refine AL.s rfl (op_buildSlice (ds := ([v9] : List Int).map D.i) sl42 (.cons (.r rfl) rfl (En.i.one _) .nil) rfl (by decide)) ?_
        obtain ⟨v18, hv18, hm⟩ := bindE hm
        refine AL.s rfl (op_appendHM (n := 5) (f := D.i) (l := v17) (l' := ([v9] : List Int)) sl42 (.e rfl) (.r rfl) rfl rfl rfl En.i hv18) ?_
        obtain ⟨v19, hv19, hm⟩ := bindE hm
        refine AL.s rfl (op_index_rs (f := D.i) (m := s16) (a := s14) (.e rfl) rfl rfl (.r rfl) hv19 sl29) ?_
        refine AL.s rfl (op_store_rs (f := D.i) (m := s16) (a := s14) (r' := v18) (.e rfl) (.e rfl) rfl rfl rfl hv19 ⟨_, rfl, rfl⟩) ?_
        refine AL.gh (Gh.backS (f := D.i) (m := s16) (n := 5) (id := 3) (j := s14.toNat) (r := v18) (fun _ => rfl) rfl rfl rfl (ix_lt hv19)) ?_
        refine AL.nil ?_
        refine bq_n ?_
        refine nq ?_
        refine AW.region ?_
        refine AL.s rfl (op_addw (.r rfl) (.r rfl)) ?_
        refine AL.s rfl (op_moveD (.e rfl)) ?_
        refine AL.nil ?_
        obtain rfl := Option.some.inj hm
        exact nq ⟨_, hI1, ⟨[0, 1, 2, 3], rfl, rfl, rfl, ⟨(.mp rfl), (.mp rfl), (.hs rfl List.length_set.symm), (.hs rfl rfl), (.d rfl), (.d rfl), trivial⟩, trivial, (.ob rfl obR_mp (.ob rfl obR_mp (.lst rfl (.rs rfl .nil))))⟩⟩
    · replace hm := iteF hc2 hm
      refine AW.exit ?_
      refine tq_exit ?_
      refine tq_exit ?_
      obtain rfl := Option.some.inj hm
      obtain rfl := Option.some.inj hI1
      replace hm := hk1
      try dsimp only at hm
      refine bq_hit ?_
      refine nq ?_
      refine AW.seqR ?_
      refine AL.s rfl (op_moveH (.e rfl)) ?_
      refine AL.s rfl (op_assignH (.e rfl)) ?_
      refine AL.s rfl (op_assignD (.e rfl)) ?_
      refine AL.nil ?_
      refine AW.freezeRs (f := D.i) (m := s7) 3 [2, 6, 55] rfl (fun _ => rfl) ⟨rfl, rfl, rfl, trivial⟩ ?_
      refine AW.ret ?_
      obtain rfl := Option.some.inj hm
      exact EndQ.d (.tmp (.e rfl) (.tmp (.e rfl) .nil)) rfl rfl

end Go.Proofs.Ytkfffaoopcnaoaa.Ab
