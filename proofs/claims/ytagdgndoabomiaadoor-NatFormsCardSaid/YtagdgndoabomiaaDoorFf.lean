/- The functions do what they are in plain Lean. Conditions: none. -/
import Derived.Test.YtagdgndoabomiaaDoorTy
import Derived.Test.YtagdgndoabomiaaDoorMi
import Derived.Test.YtagdgndoabomiaaDoorIb
import Derived.Test.YtagdgndoabomiaaDoorFe
set_option maxRecDepth 100000
namespace Go.Proofs.YtagdgndoabomiaaDoor.Ab
open Go
attribute [local irreducible] AL AD AW

set_option maxHeartbeats 20000000 in
theorem m_law03_few_ok {n : Nat} {a1 : (List Int)} {a2 : (List Int)} {r : Bool} (hm : m_law03_few n a1 a2 = some r) : Fn Tryd.prog 19 [(.sl (a1.map D.i)), (.sl (a2.map D.i))] (.bool r) := by
  unfold m_law03_few at hm
  refine Fn.of_AW (fnn := Tryd.f19) Tryd.func19 rfl (Nat.le_of_ble_eq_true rfl) (fun g0 w0 hw0 => ?_)
  refine AW.seqR ?_
  refine AL.s rfl (op_assignD (.e rfl)) ?_
  refine AL.nil ?_
  refine AW.seqR ?_
  refine AL.s rfl (op_moveD (.e rfl)) ?_
  obtain ⟨v3, hv3, hm⟩ := bindE hm
  refine AL.s rfl (op_fn Tryd.call13 (.e rfl) (.cons (.r rfl) .nil) (m_ref03_Few_ok hv3)) ?_
  refine AL.s rfl (op_moveD (.e rfl)) ?_
  refine AL.sT rfl rfl rfl rfl (fun g => op_moveD (.e rfl)) ?_
  obtain ⟨v4, hv4, hm⟩ := bindE hm
  refine AL.sT rfl rfl rfl rfl (fun g => op_fn Tryd.call13 (.e rfl) (.cons (.we g rfl rfl) .nil) (m_ref03_Few_ok (iteT g hv4))) ?_
  refine AL.s rfl (op_and (.r rfl) (fun h => (.we h rfl rfl)) rfl) ?_
  refine AL.s rfl (op_assignD (.e rfl)) ?_
  refine AL.nil ?_
  refine AW.ret ?_
  obtain rfl := Option.some.inj hm
  exact EndQ.d (.tmp (.e rfl) .nil) rfl rfl

set_option maxHeartbeats 20000000 in
theorem m_law03_awake_ok {n : Nat} {r : Bool} (hm : m_law03_awake n  = some r) : Fn Tryd.prog 12 [] (.bool r) := by
  unfold m_law03_awake at hm
  refine Fn.of_AW (fnn := Tryd.f12) Tryd.func12 rfl (Nat.le_of_ble_eq_true rfl) (fun g0 w0 hw0 => ?_)
  refine AW.reset 0 [] [] (WOK.g0 hw0 (by simp)) ⟨[], rfl, rfl, rfl, trivial, trivial, .nil⟩ ?_
  refine AW.seqR ?_
  refine AL.s rfl (op_assignD (.e rfl)) ?_
  refine AL.nil ?_
  refine AW.seqR ?_
  obtain ⟨v1, hv1, hm⟩ := bindE hm
  refine AL.s rfl (op_fn Tryd.call37 (.e rfl) (.cons (.r rfl) .nil) (m_nat_Of_ok hv1)) ?_
  refine AL.s rfl (op_moveD (.e rfl)) ?_
  refine AL.s rfl (op_extractD (.e rfl) rfl) ?_
  refine AL.s rfl (op_extractD (.e rfl) rfl) ?_
  refine AL.s rfl (op_assignD (.e rfl)) ?_
  refine AL.s rfl (op_assignD (.e rfl)) ?_
  refine AL.nil ?_
  refine AW.seqR ?_
  refine AL.s rfl (op_buildSlice (ds := ([(1000 : Int)] : List Int).map D.i) sl29 (.cons (.r rfl) rfl (En.i.one _) .nil) rfl (by decide)) ?_
  obtain ⟨v2, hv2, hm⟩ := bindE hm
  refine AL.s rfl (op_fn Tryd.call20 (.e rfl) (.cons (.r rfl) (.cons (.r rfl) .nil)) (m_nat_Power_ok hv2)) ?_
  refine AL.s rfl (op_moveD (.e rfl)) ?_
  refine AL.s rfl (op_extractD (.e rfl) rfl) ?_
  refine AL.s rfl (op_extractD (.e rfl) rfl) ?_
  refine AL.s rfl (op_assignD (.e rfl)) ?_
  refine AL.s rfl (op_assignD (.e rfl)) ?_
  refine AL.nil ?_
  refine AW.seqR ?_
  refine AL.s rfl (op_moveD (.e rfl)) ?_
  obtain ⟨v3, hv3, hm⟩ := bindE hm
  refine AL.s rfl (op_fn Tryd.call14 (.e rfl) (.cons (.r rfl) .nil) (m_nat_Show_ok hv3)) ?_
  refine AL.s rfl (op_moveD (.e rfl)) ?_
  refine AL.s rfl (op_extractD (.e rfl) rfl) ?_
  refine AL.s rfl (op_extractD (.e rfl) rfl) ?_
  refine AL.s rfl (op_assignD (.e rfl)) ?_
  refine AL.s rfl (op_assignD (.e rfl)) ?_
  refine AL.nil ?_
  refine AW.seqR ?_
  refine AL.s rfl (op_buildSlice (ds := ([(34464 : Int), (1 : Int)] : List Int).map D.i) sl29 (.cons (.r rfl) rfl (En.i.one _) (.cons (.r rfl) rfl (En.i.one _) .nil)) rfl (by decide)) ?_
  refine AL.s rfl (op_buildSlice (ds := ([(7 : Int)] : List Int).map D.i) sl29 (.cons (.r rfl) rfl (En.i.one _) .nil) rfl (by decide)) ?_
  obtain ⟨v4, hv4, hm⟩ := bindE hm
  refine AL.s rfl (op_fn Tryd.call34 (.e rfl) (.cons (.r rfl) (.cons (.r rfl) .nil)) (m_nat_Divide_ok hv4)) ?_
  refine AL.s rfl (op_moveD (.e rfl)) ?_
  refine AL.s rfl (op_extractD (.e rfl) rfl) ?_
  refine AL.s rfl (op_extractD (.e rfl) rfl) ?_
  refine AL.s rfl (op_extractD (.e rfl) rfl) ?_
  refine AL.s rfl (op_assignD (.e rfl)) ?_
  refine AL.s rfl (op_assignD (.e rfl)) ?_
  refine AL.s rfl (op_assignD (.e rfl)) ?_
  refine AL.nil ?_
  refine AW.seqR ?_
  refine AL.s rfl (op_moveD (.e rfl)) ?_
  refine AL.s rfl (op_eql (.r rfl) (.r rfl)) ?_
  refine AL.s rfl (op_moveD (.e rfl)) ?_
  refine AL.sT rfl rfl rfl rfl (fun g => op_moveD (.e rfl)) ?_
  refine AL.sT rfl rfl rfl rfl (fun g => op_eql (.we g rfl rfl) (.r rfl)) ?_
  refine AL.s rfl (op_and (.r rfl) (fun h => (.we h rfl rfl)) rfl) ?_
  refine AL.s rfl (op_moveD (.e rfl)) ?_
  refine AL.sT rfl rfl rfl rfl (fun g => op_moveD (.e rfl)) ?_
  refine AL.sT rfl rfl rfl rfl (fun g => op_eql (.we g rfl rfl) (.r rfl)) ?_
  refine AL.s rfl (op_and (.r rfl) (fun h => (.we h rfl rfl)) rfl) ?_
  refine AL.s rfl (op_moveD (.e rfl)) ?_
  refine AL.sT rfl rfl rfl rfl (fun g => op_moveD (.e rfl)) ?_
  refine AL.sT rfl rfl rfl rfl (fun g => op_eql (.we g rfl rfl) (.r rfl)) ?_
  refine AL.s rfl (op_and (.r rfl) (fun h => (.we h rfl rfl)) rfl) ?_
  refine AL.s rfl (op_moveD (.e rfl)) ?_
  refine AL.sT rfl rfl rfl rfl (fun g => op_moveD (.e rfl)) ?_
  refine AL.sT rfl rfl rfl rfl (fun g => op_buildSlice (ds := ([(0 : Int), (1 : Int)] : List Int).map D.i) sl22 (.cons (.r rfl) rfl (En.i.one _) (.cons (.r rfl) rfl (En.i.one _) .nil)) rfl (by decide)) ?_
  obtain ⟨v5, hv5, hm⟩ := bindE hm
  refine AL.sT rfl rfl rfl rfl (fun g => op_fn Tryd.call18 (.e rfl) (.cons (.we g rfl rfl) (.cons (.we g rfl rfl) .nil)) (m_ref03_Same_ok (iteT g hv5))) ?_
  refine AL.s rfl (op_and (.r rfl) (fun h => (.we h rfl rfl)) rfl) ?_
  refine AL.s rfl (op_moveD (.e rfl)) ?_
  refine AL.sT rfl rfl rfl rfl (fun g => op_moveD (.e rfl)) ?_
  refine AL.sT rfl rfl rfl rfl (fun g => op_eqlS (.we g rfl rfl) (.r rfl)) ?_
  refine AL.s rfl (op_and (.r rfl) (fun h => (.we h rfl rfl)) rfl) ?_
  refine AL.s rfl (op_moveD (.e rfl)) ?_
  refine AL.sT rfl rfl rfl rfl (fun g => op_moveD (.e rfl)) ?_
  refine AL.sT rfl rfl rfl rfl (fun g => op_buildSlice (ds := ([(14285 : Int)] : List Int).map D.i) sl22 (.cons (.r rfl) rfl (En.i.one _) .nil) rfl (by decide)) ?_
  obtain ⟨v6, hv6, hm⟩ := bindE hm
  refine AL.sT rfl rfl rfl rfl (fun g => op_fn Tryd.call18 (.e rfl) (.cons (.we g rfl rfl) (.cons (.we g rfl rfl) .nil)) (m_ref03_Same_ok (iteT g hv6))) ?_
  refine AL.s rfl (op_and (.r rfl) (fun h => (.we h rfl rfl)) rfl) ?_
  refine AL.s rfl (op_moveD (.e rfl)) ?_
  refine AL.sT rfl rfl rfl rfl (fun g => op_moveD (.e rfl)) ?_
  refine AL.sT rfl rfl rfl rfl (fun g => op_buildSlice (ds := ([(5 : Int)] : List Int).map D.i) sl22 (.cons (.r rfl) rfl (En.i.one _) .nil) rfl (by decide)) ?_
  obtain ⟨v7, hv7, hm⟩ := bindE hm
  refine AL.sT rfl rfl rfl rfl (fun g => op_fn Tryd.call18 (.e rfl) (.cons (.we g rfl rfl) (.cons (.we g rfl rfl) .nil)) (m_ref03_Same_ok (iteT g hv7))) ?_
  refine AL.s rfl (op_and (.r rfl) (fun h => (.we h rfl rfl)) rfl) ?_
  refine AL.s rfl (op_moveD (.e rfl)) ?_
  obtain ⟨v8, hv8, hm⟩ := bindE hm
  refine AL.sT rfl rfl rfl rfl (fun g => op_fn Tryd.call41 (.e rfl) (.cons (.r rfl) .nil) (m_nat_Valid_ok (iteT g hv8))) ?_
  refine AL.s rfl (op_and (.r rfl) (fun h => (.we h rfl rfl)) rfl) ?_
  refine AL.s rfl (op_assignD (.e rfl)) ?_
  refine AL.nil ?_
  refine AW.ret ?_
  obtain rfl := Option.some.inj hm
  exact EndQ.d (.tmp (.e rfl) .nil) rfl rfl

set_option maxHeartbeats 20000000 in
theorem m_law03_NatForms_ok {n : Nat} {a1 : Int} {a2 : (List Int)} {a3 : (List Int)} {r : Bool} (hm : m_law03_NatForms n a1 a2 a3 = some r) : Fn Tryd.prog 11 [(.int .i64 a1), (.sl (a2.map D.i)), (.sl (a3.map D.i))] (.bool r) := by
  unfold m_law03_NatForms at hm
  refine Fn.of_AW (fnn := Tryd.f11) Tryd.func11 rfl (Nat.le_of_ble_eq_true rfl) (fun g0 w0 hw0 => ?_)
  refine AW.reset 0 [(0, .d (.int .i64 a1)), (1, .d (.sl (a2.map D.i))), (2, .d (.sl (a3.map D.i)))] [] (WOK.g0 hw0 (by simp)) ⟨[], rfl, rfl, rfl, ⟨(.d rfl), (.d rfl), (.d rfl), trivial⟩, trivial, .nil⟩ ?_
  refine AW.seqR ?_
  refine AL.s rfl (op_assignD (.e rfl)) ?_
  refine AL.nil ?_
  refine AW.seq ?_
  refine AW.seqR ?_
  obtain ⟨v4, hv4, hm⟩ := bindE hm
  refine AL.s rfl (op_fn Tryd.call12 (.e rfl) .nil (m_law03_awake_ok hv4)) ?_
  refine AL.s rfl (op_not (.r rfl)) ?_
  refine AL.s rfl (op_moveD (.e rfl)) ?_
  refine AL.sF rfl rfl rfl rfl (fun g => op_moveD (.e rfl)) ?_
  refine AL.sF rfl rfl rfl rfl (fun g => op_moveD (.e rfl)) ?_
  obtain ⟨v5, hv5, hm⟩ := bindE hm
  refine AL.sF rfl rfl rfl rfl (fun g => op_fn Tryd.call19 (.e rfl) (.cons (.we (nt g) rfl rfl) (.cons (.we (nt g) rfl rfl) .nil)) (m_law03_few_ok (iteT (nt g) hv5))) ?_
  refine AL.sF rfl rfl rfl rfl (fun g => op_not (.we (nt g) rfl rfl)) ?_
  refine AL.s rfl (op_or (.r rfl) rfl (fun h => (.we (nt h) rfl rfl))) ?_
  refine AL.nil ?_
  refine AW.cond (b := _) rfl (fun hc1 => ?_) (fun hc1 => ?_)
  · replace hm := iteT hc1 hm
    refine AW.seqR ?_
    obtain ⟨v6, hv6, hm⟩ := bindE hm
    refine AL.s rfl (op_fn Tryd.call12 (.e rfl) .nil (m_law03_awake_ok hv6)) ?_
    refine AL.s rfl (op_assignD (.e rfl)) ?_
    refine AL.nil ?_
    refine AW.ret ?_
    refine tq_ret ?_
    obtain rfl := Option.some.inj hm
    exact EndQ.d (.tmp (.e rfl) .nil) rfl rfl
  · replace hm := iteF hc1 hm
    refine AW.skip ?_
    refine nq ?_
    refine AW.seqR ?_
    refine AL.s rfl (op_moveD (.e rfl)) ?_
    obtain ⟨v7, hv7, hm⟩ := bindE hm
    refine AL.s rfl (op_fn Tryd.call37 (.e rfl) (.cons (.r rfl) .nil) (m_nat_Of_ok hv7)) ?_
    refine AL.s rfl (op_moveD (.e rfl)) ?_
    refine AL.s rfl (op_extractD (.e rfl) rfl) ?_
    refine AL.s rfl (op_extractD (.e rfl) rfl) ?_
    refine AL.s rfl (op_assignD (.e rfl)) ?_
    refine AL.s rfl (op_assignD (.e rfl)) ?_
    refine AL.nil ?_
    refine AW.seqR ?_
    refine AL.s rfl (op_moveD (.e rfl)) ?_
    obtain ⟨v8, hv8, hm⟩ := bindE hm
    refine AL.s rfl (op_fn Tryd.call38 (.e rfl) (.cons (.r rfl) .nil) (m_ref03_Of_ok hv8)) ?_
    refine AL.s rfl (op_moveD (.e rfl)) ?_
    refine AL.s rfl (op_extractD (.e rfl) rfl) ?_
    refine AL.s rfl (op_extractD (.e rfl) rfl) ?_
    refine AL.s rfl (op_assignD (.e rfl)) ?_
    refine AL.s rfl (op_assignD (.e rfl)) ?_
    refine AL.nil ?_
    refine AW.seqR ?_
    refine AL.s rfl (op_moveD (.e rfl)) ?_
    obtain ⟨v9, hv9, hm⟩ := bindE hm
    refine AL.s rfl (op_fn Tryd.call39 (.e rfl) (.cons (.r rfl) .nil) (natInt_fn hv9)) ?_
    refine AL.s rfl (op_moveD (.e rfl)) ?_
    refine AL.s rfl (op_extractD (.e rfl) rfl) ?_
    refine AL.s rfl (op_extractD (.e rfl) rfl) ?_
    refine AL.s rfl (op_assignD (.e rfl)) ?_
    refine AL.s rfl (op_assignD (.e rfl)) ?_
    refine AL.nil ?_
    refine AW.seqR ?_
    refine AL.s rfl (op_moveD (.e rfl)) ?_
    obtain ⟨v10, hv10, hm⟩ := bindE hm
    refine AL.s rfl (op_fn Tryd.call40 (.e rfl) (.cons (.r rfl) .nil) (m_ref03_Int_ok hv10)) ?_
    refine AL.s rfl (op_moveD (.e rfl)) ?_
    refine AL.s rfl (op_extractD (.e rfl) rfl) ?_
    refine AL.s rfl (op_extractD (.e rfl) rfl) ?_
    refine AL.s rfl (op_assignD (.e rfl)) ?_
    refine AL.s rfl (op_assignD (.e rfl)) ?_
    refine AL.nil ?_
    refine AW.seqR ?_
    refine AL.s rfl (op_moveD (.e rfl)) ?_
    refine AL.s rfl (op_moveD (.e rfl)) ?_
    obtain ⟨v11, hv11, hm⟩ := bindE hm
    refine AL.s rfl (op_fn Tryd.call18 (.e rfl) (.cons (.r rfl) (.cons (.r rfl) .nil)) (m_ref03_Same_ok hv11)) ?_
    refine AL.s rfl (op_moveD (.e rfl)) ?_
    refine AL.sT rfl rfl rfl rfl (fun g => op_moveD (.e rfl)) ?_
    refine AL.sT rfl rfl rfl rfl (fun g => op_moveD (.e rfl)) ?_
    refine AL.sT rfl rfl rfl rfl (fun g => op_eql (.we g rfl rfl) (.we g rfl rfl)) ?_
    refine AL.s rfl (op_and (.r rfl) (fun h => (.we h rfl rfl)) rfl) ?_
    refine AL.s rfl (op_moveD (.e rfl)) ?_
    refine AL.sT rfl rfl rfl rfl (fun g => op_moveD (.e rfl)) ?_
    refine AL.sT rfl rfl rfl rfl (fun g => op_moveD (.e rfl)) ?_
    refine AL.sT rfl rfl rfl rfl (fun g => op_eql (.we g rfl rfl) (.we g rfl rfl)) ?_
    refine AL.s rfl (op_and (.r rfl) (fun h => (.we h rfl rfl)) rfl) ?_
    refine AL.s rfl (op_moveD (.e rfl)) ?_
    refine AL.sT rfl rfl rfl rfl (fun g => op_moveD (.e rfl)) ?_
    refine AL.sT rfl rfl rfl rfl (fun g => op_moveD (.e rfl)) ?_
    refine AL.sT rfl rfl rfl rfl (fun g => op_eql (.we g rfl rfl) (.we g rfl rfl)) ?_
    refine AL.s rfl (op_and (.r rfl) (fun h => (.we h rfl rfl)) rfl) ?_
    refine AL.s rfl (op_moveD (.e rfl)) ?_
    refine AL.sT rfl rfl rfl rfl (fun g => op_moveD (.e rfl)) ?_
    obtain ⟨v12, hv12, hm⟩ := bindE hm
    refine AL.sT rfl rfl rfl rfl (fun g => op_fn Tryd.call41 (.e rfl) (.cons (.we g rfl rfl) .nil) (m_nat_Valid_ok (iteT g hv12))) ?_
    refine AL.sT rfl rfl rfl rfl (fun g => op_moveD (.e rfl)) ?_
    obtain ⟨v13, hv13, hm⟩ := bindE hm
    refine AL.sT rfl rfl rfl rfl (fun g => op_fn Tryd.call42 (.e rfl) (.cons (.we g rfl rfl) .nil) (m_ref03_Valid_ok (iteT g hv13))) ?_
    refine AL.sT rfl rfl rfl rfl (fun g => op_eqlB (.we g rfl rfl) (.we g rfl rfl) Tryd.underlying4) ?_
    refine AL.s rfl (op_and (.r rfl) (fun h => (.we h rfl rfl)) rfl) ?_
    refine AL.s rfl (op_moveD (.e rfl)) ?_
    refine AL.sT rfl rfl rfl rfl (fun g => op_moveD (.e rfl)) ?_
    refine AL.sT rfl rfl rfl rfl (fun g => op_moveD (.e rfl)) ?_
    obtain ⟨v14, hv14, hm⟩ := bindE hm
    refine AL.sT rfl rfl rfl rfl (fun g => op_fn Tryd.call27 (.e rfl) (.cons (.we g rfl rfl) (.cons (.we g rfl rfl) .nil)) (m_nat_Compare_ok (iteT g hv14))) ?_
    refine AL.sT rfl rfl rfl rfl (fun g => op_moveD (.e rfl)) ?_
    refine AL.sT rfl rfl rfl rfl (fun g => op_moveD (.e rfl)) ?_
    obtain ⟨v15, hv15, hm⟩ := bindE hm
    refine AL.sT rfl rfl rfl rfl (fun g => op_fn Tryd.call43 (.e rfl) (.cons (.we g rfl rfl) (.cons (.we g rfl rfl) .nil)) (m_ref03_Compare_ok (iteT g hv15))) ?_
    refine AL.sT rfl rfl rfl rfl (fun g => op_eql (.we g rfl rfl) (.we g rfl rfl)) ?_
    refine AL.s rfl (op_and (.r rfl) (fun h => (.we h rfl rfl)) rfl) ?_
    refine AL.s rfl (op_moveD (.e rfl)) ?_
    refine AL.sT rfl rfl rfl rfl (fun g => op_moveD (.e rfl)) ?_
    obtain ⟨v16, hv16, hm⟩ := bindE hm
    refine AL.sT rfl rfl rfl rfl (fun g => op_fn Tryd.call36 (.e rfl) (.cons (.we g rfl rfl) .nil) (m_nat_Bits_ok (iteT g hv16))) ?_
    refine AL.sT rfl rfl rfl rfl (fun g => op_moveD (.e rfl)) ?_
    obtain ⟨v17, hv17, hm⟩ := bindE hm
    refine AL.sT rfl rfl rfl rfl (fun g => op_fn Tryd.call44 (.e rfl) (.cons (.we g rfl rfl) .nil) (m_ref03_Bits_ok (iteT g hv17))) ?_
    refine AL.sT rfl rfl rfl rfl (fun g => op_eql (.we g rfl rfl) (.we g rfl rfl)) ?_
    refine AL.s rfl (op_and (.r rfl) (fun h => (.we h rfl rfl)) rfl) ?_
    refine AL.s rfl (op_assignD (.e rfl)) ?_
    refine AL.nil ?_
    refine AW.ret ?_
    obtain rfl := Option.some.inj hm
    exact EndQ.d (.tmp (.e rfl) .nil) rfl rfl

end Go.Proofs.YtagdgndoabomiaaDoor.Ab
