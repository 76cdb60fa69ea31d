/- The functions do what they are in plain Lean. Conditions: none. -/
import Derived.Test.YtlbiooppadlolaaGreatDoorOk
import Derived.Test.YtlbiooppadlolaaGreatDoorMi
import Derived.Test.YtlbiooppadlolaaGreatDoorE32
import Derived.Test.YtlbiooppadlolaaGreatDoorFb
set_option maxRecDepth 100000
namespace Go.Proofs.YtlbiooppadlolaaGreatDoor.Ab
open Go
attribute [local irreducible] AL AD AW nlO nlV nlD

set_option maxHeartbeats 20000000 in
theorem m_law35_WorkForms_ok {n : Nat} {a1 : (List SWork)} {a2 : (List SWork)} {a3 : Int} {r : Bool} (hm : m_law35_WorkForms n a1 a2 a3 = some r) : Fn Tryz.prog 3 [(.sl (a1.map SWork.e)), (.sl (a2.map SWork.e)), (.int .i64 a3)] (.bool r) := by
  unfold m_law35_WorkForms at hm
  refine Fn.of_AW (fnn := Tryz.f3) Tryz.func3 rfl (Nat.le_of_ble_eq_true rfl) (fun g0 w0 hw0 => ?_)
  refine AW.reset 0 [(0, .d (.sl (a1.map SWork.e))), (1, .d (.sl (a2.map SWork.e))), (2, .d (.int .i64 a3))] [] (WOK.g0 hw0 (by simp)) ⟨[], rfl, rfl, rfl, ⟨(.d rfl), (.d rfl), (.d rfl), trivial⟩, trivial, .nil⟩ ?_
  refine AW.seqR ?_
  refine AL.s rfl (op_assignD (.e rfl)) ?_
  refine AL.nil ?_
  refine AW.seq ?_
  refine AW.seqR ?_
  refine AL.s rfl (op_fn Tryz.call4 (.e rfl) .nil Ev.awake_fn) ?_
  refine AL.s rfl (op_not (.r rfl)) ?_
  refine AL.s rfl (op_moveD (.e rfl)) ?_
  refine AL.sF rfl rfl rfl rfl (fun g => op_moveD (.e rfl)) ?_
  obtain ⟨v4, hv4, hm⟩ := bindE hm
  refine AL.sF rfl rfl rfl rfl (fun g => op_fn Tryz.call5 (.e rfl) (.cons (.we (nt g) rfl rfl) .nil) (m_ref35_Few_ok (iteT (nt g) hv4))) ?_
  refine AL.sF rfl rfl rfl rfl (fun g => op_not (.we (nt g) rfl rfl)) ?_
  refine AL.s rfl (op_or (.r rfl) rfl (fun h => (.we (nt h) rfl rfl))) ?_
  refine AL.s rfl (op_moveD (.e rfl)) ?_
  refine AL.sF rfl rfl rfl rfl (fun g => op_moveD (.e rfl)) ?_
  obtain ⟨v5, hv5, hm⟩ := bindE hm
  refine AL.sF rfl rfl rfl rfl (fun g => op_fn Tryz.call5 (.e rfl) (.cons (.we (nt g) rfl rfl) .nil) (m_ref35_Few_ok (iteT (nt g) hv5))) ?_
  refine AL.sF rfl rfl rfl rfl (fun g => op_not (.we (nt g) rfl rfl)) ?_
  refine AL.s rfl (op_or (.r rfl) rfl (fun h => (.we (nt h) rfl rfl))) ?_
  refine AL.nil ?_
  refine AW.cond (b := _) rfl (fun hc1 => ?_) (fun hc1 => ?_)
  · replace hm := iteT hc1 hm
    refine AW.seqR ?_
    refine AL.s rfl (op_fn Tryz.call4 (.e rfl) .nil Ev.awake_fn) ?_
    refine AL.s rfl (op_assignD (.e rfl)) ?_
    refine AL.nil ?_
    refine AW.ret ?_
    refine tq_ret ?_
    obtain rfl := Option.some.inj hm
    exact EndQ.d (.tmp (.e rfl) .nil) rfl rfl
  · replace hm := iteF hc1 hm
    refine AW.skip ?_
    refine nq ?_
    refine AW.seqR ?_
    refine AL.s rfl (op_moveD (.e rfl)) ?_
    obtain ⟨v6, hv6, hm⟩ := bindE hm
    refine AL.s rfl (op_fn Tryz.call7 (.e rfl) (.cons (.r rfl) .nil) (m_law35_Own_ok hv6)) ?_
    refine AL.s rfl (op_moveD (.e rfl)) ?_
    obtain ⟨v7, hv7, hm⟩ := bindE hm
    refine AL.s rfl (op_fn Tryz.call6 (.e rfl) (.cons (.r rfl) (.cons (.r rfl) .nil)) (m_work_Find_ok hv7)) ?_
    refine AL.s rfl (op_moveD (.e rfl)) ?_
    refine AL.s rfl (op_extractD (.e rfl) rfl) ?_
    refine AL.s rfl (op_extractD (.e rfl) rfl) ?_
    refine AL.s rfl (op_alloc (n := 0) zr28 rfl) ?_
    refine AL.s rfl (op_store (.e rfl) (.e rfl) rfl rfl rfl ⟨_, rfl, rfl⟩ rfl (Nat.le_of_ble_eq_true rfl)) ?_
    refine AL.s rfl (op_assignD (.e rfl)) ?_
    refine AL.nil ?_
    refine AW.seqR ?_
    refine AL.s rfl (op_moveD (.e rfl)) ?_
    refine AL.s rfl (op_moveD (.e rfl)) ?_
    obtain ⟨v8, hv8, hm⟩ := bindE hm
    refine AL.s rfl (op_fn Tryz.call8 (.e rfl) (.cons (.r rfl) (.cons (.r rfl) .nil)) (m_ref35_Find_ok hv8)) ?_
    refine AL.s rfl (op_moveD (.e rfl)) ?_
    refine AL.s rfl (op_extractD (.e rfl) rfl) ?_
    refine AL.s rfl (op_extractD (.e rfl) rfl) ?_
    refine AL.s rfl (op_alloc (n := 1) zr33 rfl) ?_
    refine AL.s rfl (op_store (.e rfl) (.e rfl) rfl rfl rfl ⟨_, rfl, rfl⟩ rfl (Nat.le_of_ble_eq_true rfl)) ?_
    refine AL.s rfl (op_assignD (.e rfl)) ?_
    refine AL.nil ?_
    refine AW.seqR ?_
    refine AL.s rfl (op_moveD (.e rfl)) ?_
    obtain ⟨v9, hv9, hm⟩ := bindE hm
    refine AL.s rfl (op_fn Tryz.call7 (.e rfl) (.cons (.r rfl) .nil) (m_law35_Own_ok hv9)) ?_
    refine AL.s rfl (op_moveD (.e rfl)) ?_
    obtain ⟨v10, hv10, hm⟩ := bindE hm
    refine AL.s rfl (op_fn Tryz.call9 (.e rfl) (.cons (.r rfl) (.cons (.r rfl) .nil)) (m_work_Edition_ok hv10)) ?_
    refine AL.s rfl (op_moveD (.e rfl)) ?_
    refine AL.s rfl (op_extractD (.e rfl) rfl) ?_
    refine AL.s rfl (op_extractD (.e rfl) rfl) ?_
    refine AL.s rfl (op_assignD (.e rfl)) ?_
    refine AL.s rfl (op_assignD (.e rfl)) ?_
    refine AL.nil ?_
    refine AW.reset 0 [(0, .d (.sl (a1.map SWork.e))), (1, .d (.sl (a2.map SWork.e))), (2, .d (.int .i64 a3)), (7, .ptr 0 0), (8, .d (.bool v7.2)), (9, .ptr 1 0), (10, .d (.bool v8.2)), (11, .d (.sl (v10.1.map D.i))), (12, .d (.bool v10.2))] [.row [.d (.int .i64 v7.1.fID), .d (.sl (v7.1.fRecords.map D.i)), .d (.sl (v7.1.fEditions.map (esl D.i)))], .row [.d (.int .i64 v8.1.fID), .d (.sl (v8.1.fRecords.map D.i)), .d (.sl (v8.1.fEditions.map (esl D.i)))]] (WOK.g0 hw0 (by simp)) ⟨[0, 1], rfl, rfl, rfl, ⟨(.d rfl), (.d rfl), (.d rfl), (.ptr rfl), (.d rfl), (.ptr rfl), (.d rfl), (.d rfl), (.d rfl), trivial⟩, trivial, (.row rfl (.cons (.d rfl) (.cons (.d rfl) (.cons (.d rfl) .nil))) (.row rfl (.cons (.d rfl) (.cons (.d rfl) (.cons (.d rfl) .nil))) .nil))⟩ ?_
    refine AW.seqR ?_
    refine AL.s rfl (op_moveD (.e rfl)) ?_
    refine AL.s rfl (op_moveD (.e rfl)) ?_
    obtain ⟨v11, hv11, hm⟩ := bindE hm
    refine AL.s rfl (op_fn Tryz.call10 (.e rfl) (.cons (.r rfl) (.cons (.r rfl) .nil)) (m_ref35_Edition_ok hv11)) ?_
    refine AL.s rfl (op_moveD (.e rfl)) ?_
    refine AL.s rfl (op_extractD (.e rfl) rfl) ?_
    refine AL.s rfl (op_extractD (.e rfl) rfl) ?_
    refine AL.s rfl (op_assignD (.e rfl)) ?_
    refine AL.s rfl (op_assignD (.e rfl)) ?_
    refine AL.nil ?_
    refine AW.seq ?_
    refine AW.seqR ?_
    refine AL.s rfl (op_load_ptrA (.e rfl) rfl rfl rfl ag28) ?_
    refine AL.s rfl (op_load_ptrA (.e rfl) rfl rfl rfl ag33) ?_
    obtain ⟨v12, hv12, hm⟩ := bindE hm
    refine AL.s rfl (op_fn Tryz.call11 (.e rfl) (.cons (.r rfl) (.cons (.r rfl) .nil)) (m_ref35_SameWork_ok hv12)) ?_
    refine AL.s rfl (op_not (.r rfl)) ?_
    refine AL.s rfl (op_moveD (.e rfl)) ?_
    refine AL.sF rfl rfl rfl rfl (fun g => op_moveD (.e rfl)) ?_
    refine AL.sF rfl rfl rfl rfl (fun g => op_moveD (.e rfl)) ?_
    refine AL.sF rfl rfl rfl rfl (fun g => op_neqB (.we (nt g) rfl rfl) (.we (nt g) rfl rfl) Tryz.underlying4) ?_
    refine AL.s rfl (op_or (.r rfl) rfl (fun h => (.we (nt h) rfl rfl))) ?_
    refine AL.s rfl (op_moveD (.e rfl)) ?_
    refine AL.sF rfl rfl rfl rfl (fun g => op_moveD (.e rfl)) ?_
    refine AL.sF rfl rfl rfl rfl (fun g => op_moveD (.e rfl)) ?_
    obtain ⟨v13, hv13, hm⟩ := bindE hm
    refine AL.sF rfl rfl rfl rfl (fun g => op_fn Tryz.call12 (.e rfl) (.cons (.we (nt g) rfl rfl) (.cons (.we (nt g) rfl rfl) .nil)) (m_ref30_SameInts_ok (iteT (nt g) hv13))) ?_
    refine AL.sF rfl rfl rfl rfl (fun g => op_not (.we (nt g) rfl rfl)) ?_
    refine AL.s rfl (op_or (.r rfl) rfl (fun h => (.we (nt h) rfl rfl))) ?_
    refine AL.s rfl (op_moveD (.e rfl)) ?_
    refine AL.sF rfl rfl rfl rfl (fun g => op_moveD (.e rfl)) ?_
    refine AL.sF rfl rfl rfl rfl (fun g => op_moveD (.e rfl)) ?_
    refine AL.sF rfl rfl rfl rfl (fun g => op_neqB (.we (nt g) rfl rfl) (.we (nt g) rfl rfl) Tryz.underlying4) ?_
    refine AL.s rfl (op_or (.r rfl) rfl (fun h => (.we (nt h) rfl rfl))) ?_
    refine AL.s rfl (op_moveD (.e rfl)) ?_
    refine AL.sF rfl rfl rfl rfl (fun g => op_moveD (.e rfl)) ?_
    obtain ⟨v14, hv14, hm⟩ := bindE hm
    refine AL.sF rfl rfl rfl rfl (fun g => op_fn Tryz.call7 (.e rfl) (.cons (.we (nt g) rfl rfl) .nil) (m_law35_Own_ok (iteT (nt g) hv14))) ?_
    obtain ⟨v15, hv15, hm⟩ := bindE hm
    refine AL.sF rfl rfl rfl rfl (fun g => op_fn Tryz.call13 (.e rfl) (.cons (.we (nt g) rfl rfl) .nil) (m_work_Valid_ok (iteT (nt g) hv15))) ?_
    refine AL.sF rfl rfl rfl rfl (fun g => op_moveD (.e rfl)) ?_
    obtain ⟨v16, hv16, hm⟩ := bindE hm
    refine AL.sF rfl rfl rfl rfl (fun g => op_fn Tryz.call14 (.e rfl) (.cons (.we (nt g) rfl rfl) .nil) (m_ref35_Valid_ok (iteT (nt g) hv16))) ?_
    refine AL.sF rfl rfl rfl rfl (fun g => op_neqB (.we (nt g) rfl rfl) (.we (nt g) rfl rfl) Tryz.underlying4) ?_
    refine AL.s rfl (op_or (.r rfl) rfl (fun h => (.we (nt h) rfl rfl))) ?_
    refine AL.nil ?_
    refine AW.cond (b := _) rfl (fun hc2 => ?_) (fun hc2 => ?_)
    · replace hm := iteT hc2 hm
      refine AW.seqR ?_
      refine AL.s rfl (op_assignD (.e rfl)) ?_
      refine AL.nil ?_
      refine AW.ret ?_
      refine tq_ret ?_
      obtain rfl := Option.some.inj hm
      exact EndQ.d (.tmp (.e rfl) .nil) rfl rfl
    · replace hm := iteF hc2 hm
      refine AW.skip ?_
      refine nq ?_
      refine AW.seqR ?_
      refine AL.s rfl (op_moveD (.e rfl)) ?_
      obtain ⟨v17, hv17, hm⟩ := bindE hm
      refine AL.s rfl (op_fn Tryz.call7 (.e rfl) (.cons (.r rfl) .nil) (m_law35_Own_ok hv17)) ?_
      refine AL.s rfl (op_moveD (.e rfl)) ?_
      obtain ⟨v18, hv18, hm⟩ := bindE hm
      refine AL.s rfl (op_fn Tryz.call7 (.e rfl) (.cons (.r rfl) .nil) (m_law35_Own_ok hv18)) ?_
      obtain ⟨v19, hv19, hm⟩ := bindE hm
      refine AL.s rfl (op_fn Tryz.call15 (.e rfl) (.cons (.r rfl) (.cons (.r rfl) .nil)) (m_work_Touched_ok hv19)) ?_
      refine AL.s rfl (op_assignD (.e rfl)) ?_
      refine AL.nil ?_
      refine AW.seqR ?_
      refine AL.s rfl (op_moveD (.e rfl)) ?_
      refine AL.s rfl (op_moveD (.e rfl)) ?_
      refine AL.s rfl (op_moveD (.e rfl)) ?_
      obtain ⟨v20, hv20, hm⟩ := bindE hm
      refine AL.s rfl (op_fn Tryz.call16 (.e rfl) (.cons (.r rfl) (.cons (.r rfl) .nil)) (m_ref35_Touched_ok hv20)) ?_
      obtain ⟨v21, hv21, hm⟩ := bindE hm
      refine AL.s rfl (op_fn Tryz.call12 (.e rfl) (.cons (.r rfl) (.cons (.r rfl) .nil)) (m_ref30_SameInts_ok hv21)) ?_
      refine AL.s rfl (op_moveD (.e rfl)) ?_
      refine AL.sT rfl rfl rfl rfl (fun g => op_moveD (.e rfl)) ?_
      refine AL.sT rfl rfl rfl rfl (fun g => op_moveD (.e rfl)) ?_
      obtain ⟨v22, hv22, hm⟩ := bindE hm
      refine AL.sT rfl rfl rfl rfl (fun g => op_fn Tryz.call7 (.e rfl) (.cons (.we g rfl rfl) .nil) (m_law35_Own_ok (iteT g hv22))) ?_
      refine AL.sT rfl rfl rfl rfl (fun g => op_moveD (.e rfl)) ?_
      obtain ⟨v23, hv23, hm⟩ := bindE hm
      refine AL.sT rfl rfl rfl rfl (fun g => op_fn Tryz.call7 (.e rfl) (.cons (.we g rfl rfl) .nil) (m_law35_Own_ok (iteT g hv23))) ?_
      obtain ⟨v24, hv24, hm⟩ := bindE hm
      refine AL.sT rfl rfl rfl rfl (fun g => op_fn Tryz.call15 (.e rfl) (.cons (.we g rfl rfl) (.cons (.we g rfl rfl) .nil)) (m_work_Touched_ok (iteT g hv24))) ?_
      obtain ⟨v25, hv25, hm⟩ := bindE hm
      refine AL.sT rfl rfl rfl rfl (fun g => op_fn Tryz.call12 (.e rfl) (.cons (.we g rfl rfl) (.cons (.we g rfl rfl) .nil)) (m_ref30_SameInts_ok (iteT g hv25))) ?_
      refine AL.s rfl (op_and (.r rfl) (fun h => (.we h rfl rfl)) rfl) ?_
      refine AL.s rfl (op_moveD (.e rfl)) ?_
      refine AL.sT rfl rfl rfl rfl (fun g => op_moveD (.e rfl)) ?_
      obtain ⟨v26, hv26, hm⟩ := bindE hm
      refine AL.sT rfl rfl rfl rfl (fun g => op_fn Tryz.call7 (.e rfl) (.cons (.we g rfl rfl) .nil) (m_law35_Own_ok (iteT g hv26))) ?_
      refine AL.sT rfl rfl rfl rfl (fun g => op_moveD (.e rfl)) ?_
      obtain ⟨v27, hv27, hm⟩ := bindE hm
      refine AL.sT rfl rfl rfl rfl (fun g => op_fn Tryz.call7 (.e rfl) (.cons (.we g rfl rfl) .nil) (m_law35_Own_ok (iteT g hv27))) ?_
      obtain ⟨v28, hv28, hm⟩ := bindE hm
      refine AL.sT rfl rfl rfl rfl (fun g => op_fn Tryz.call15 (.e rfl) (.cons (.we g rfl rfl) (.cons (.we g rfl rfl) .nil)) (m_work_Touched_ok (iteT g hv28))) ?_
      refine AL.sT rfl rfl rfl rfl (fun g => op_lenM (f := D.i) (.we g rfl rfl) sl25) ?_
      refine AL.sT rfl rfl rfl rfl (fun g => op_eql (.we g rfl rfl) (.r rfl)) ?_
      refine AL.s rfl (op_and (.r rfl) (fun h => (.we h rfl rfl)) rfl) ?_
      refine AL.s rfl (op_assignD (.e rfl)) ?_
      refine AL.nil ?_
      refine AW.ret ?_
      obtain rfl := Option.some.inj hm
      exact EndQ.d (.tmp (.e rfl) .nil) rfl rfl

end Go.Proofs.YtlbiooppadlolaaGreatDoor.Ab
