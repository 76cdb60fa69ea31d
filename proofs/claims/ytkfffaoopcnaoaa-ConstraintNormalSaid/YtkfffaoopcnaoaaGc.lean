/- The functions do what they are in plain Lean. Conditions: none. -/
import Derived.Test.YtkfffaoopcnaoaaTy
import Derived.Test.YtkfffaoopcnaoaaMi
import Derived.Test.YtkfffaoopcnaoaaFd
set_option maxRecDepth 100000
namespace Go.Proofs.Ytkfffaoopcnaoaa.Ab
open Go
attribute [local irreducible] AL AD AW nlO nlV nlD

set_option maxHeartbeats 20000000 in
theorem m_law32_ConstraintNormal_ok {n : Nat} {a1 : (List SConstraint)} {a2 : Int} {a3 : Int} {r : Bool} (hm : m_law32_ConstraintNormal n a1 a2 a3 = some r) : Fn Try.prog 3 [(.sl (a1.map SConstraint.e)), (.int .i64 a2), (.int .i64 a3)] (.bool r) := by
  unfold m_law32_ConstraintNormal at hm
  refine Fn.of_AW (fnn := Try.f3) Try.func3 rfl (Nat.le_of_ble_eq_true rfl) (fun g0 w0 hw0 => ?_)
  refine AW.reset 0 [(0, .d (.sl (a1.map SConstraint.e))), (1, .d (.int .i64 a2)), (2, .d (.int .i64 a3))] [] (WOK.g0 hw0 (by simp)) ⟨[], rfl, rfl, rfl, ⟨(.d rfl), (.d rfl), (.d rfl), trivial⟩, trivial, .nil⟩ ?_
  refine AW.seqR ?_
  refine AL.s rfl (op_assignD (.e rfl)) ?_
  refine AL.nil ?_
  refine AW.seq ?_
  refine AW.seqR ?_
  obtain ⟨v4, hv4, hm⟩ := bindE hm
  refine AL.s rfl (op_fn Try.call11 (.e rfl) .nil (m_law32_awake_ok hv4)) ?_
  refine AL.s rfl (op_not (.r rfl)) ?_
  refine AL.s rfl (op_moveD (.e rfl)) ?_
  refine AL.sF rfl rfl rfl rfl (fun g => op_moveD (.e rfl)) ?_
  refine AL.sF rfl rfl rfl rfl (fun g => op_lenM (f := SConstraint.e) (.we (nt g) rfl rfl) sl22) ?_
  refine AL.sF rfl rfl rfl rfl (fun g => op_gtr (.we (nt g) rfl rfl) (.r rfl)) ?_
  refine AL.s rfl (op_or (.r rfl) rfl (fun h => (.we (nt h) rfl rfl))) ?_
  refine AL.s rfl (op_moveD (.e rfl)) ?_
  refine AL.sF rfl rfl rfl rfl (fun g => op_moveD (.e rfl)) ?_
  obtain ⟨v5, hv5, hm⟩ := bindE hm
  refine AL.sF rfl rfl rfl rfl (fun g => op_fn Try.call12 (.e rfl) (.cons (.we (nt g) rfl rfl) .nil) (m_ref32_Valid_ok (iteT (nt g) hv5))) ?_
  refine AL.sF rfl rfl rfl rfl (fun g => op_not (.we (nt g) rfl rfl)) ?_
  refine AL.s rfl (op_or (.r rfl) rfl (fun h => (.we (nt h) rfl rfl))) ?_
  refine AL.nil ?_
  refine AW.cond (b := _) rfl (fun hc1 => ?_) (fun hc1 => ?_)
  · replace hm := iteT hc1 hm
    refine AW.seqR ?_
    obtain ⟨v6, hv6, hm⟩ := bindE hm
    refine AL.s rfl (op_fn Try.call11 (.e rfl) .nil (m_law32_awake_ok hv6)) ?_
    refine AL.s rfl (op_assignD (.e rfl)) ?_
    refine AL.nil ?_
    refine AW.ret ?_
    refine tq_ret ?_
    obtain rfl := Option.some.inj hm
    exact EndQ.d (.tmp (.e rfl) .nil) rfl rfl
  · replace hm := iteF hc1 hm
    refine AW.skip ?_
    refine nq ?_
    refine AW.seqR ?_
    refine AL.s rfl (op_moveD (.e rfl)) ?_
    obtain ⟨v7, hv7, hm⟩ := bindE hm
    refine AL.s rfl (op_fn Try.call13 (.e rfl) (.cons (.r rfl) .nil) (m_constraint_Normal_ok hv7)) ?_
    refine AL.s rfl (op_moveD (.e rfl)) ?_
    refine AL.s rfl (op_extractD (.e rfl) rfl) ?_
    refine AL.s rfl (op_extractD (.e rfl) rfl) ?_
    refine AL.s rfl (op_assignD (.e rfl)) ?_
    refine AL.s rfl (op_assignD (.e rfl)) ?_
    refine AL.nil ?_
    refine AW.seqR ?_
    refine AL.s rfl (op_moveD (.e rfl)) ?_
    obtain ⟨v8, hv8, hm⟩ := bindE hm
    refine AL.s rfl (op_fn Try.call13 (.e rfl) (.cons (.r rfl) .nil) (m_constraint_Normal_ok hv8)) ?_
    refine AL.s rfl (op_moveD (.e rfl)) ?_
    refine AL.s rfl (op_extractD (.e rfl) rfl) ?_
    refine AL.s rfl (op_extractD (.e rfl) rfl) ?_
    refine AL.s rfl (op_assignD (.e rfl)) ?_
    refine AL.s rfl (op_assignD (.e rfl)) ?_
    refine AL.nil ?_
    refine AW.seq ?_
    refine AW.seqR ?_
    refine AL.s rfl (op_moveD (.e rfl)) ?_
    refine AL.s rfl (op_neq (.r rfl) (.r rfl)) ?_
    refine AL.s rfl (op_moveD (.e rfl)) ?_
    refine AL.sF rfl rfl rfl rfl (fun g => op_moveD (.e rfl)) ?_
    refine AL.sF rfl rfl rfl rfl (fun g => op_neq (.we (nt g) rfl rfl) (.r rfl)) ?_
    refine AL.s rfl (op_or (.r rfl) rfl (fun h => (.we (nt h) rfl rfl))) ?_
    refine AL.s rfl (op_moveD (.e rfl)) ?_
    refine AL.sF rfl rfl rfl rfl (fun g => op_moveD (.e rfl)) ?_
    refine AL.sF rfl rfl rfl rfl (fun g => op_moveD (.e rfl)) ?_
    obtain ⟨v9, hv9, hm⟩ := bindE hm
    refine AL.sF rfl rfl rfl rfl (fun g => op_fn Try.call14 (.e rfl) (.cons (.we (nt g) rfl rfl) (.cons (.we (nt g) rfl rfl) .nil)) (m_ref32_SameRules_ok (iteT (nt g) hv9))) ?_
    refine AL.sF rfl rfl rfl rfl (fun g => op_not (.we (nt g) rfl rfl)) ?_
    refine AL.s rfl (op_or (.r rfl) rfl (fun h => (.we (nt h) rfl rfl))) ?_
    refine AL.nil ?_
    refine AW.cond (b := _) rfl (fun hc2 => ?_) (fun hc2 => ?_)
    · replace hm := iteT hc2 hm
      refine AW.seqR ?_
      refine AL.s rfl (op_assignD (.e rfl)) ?_
      refine AL.nil ?_
      refine AW.ret ?_
      refine tq_ret ?_
      obtain rfl := Option.some.inj hm
      exact EndQ.d (.tmp (.e rfl) .nil) rfl rfl
    · replace hm := iteF hc2 hm
      refine AW.skip ?_
      refine nq ?_
      refine AW.reset 0 [(0, .d (.sl (a1.map SConstraint.e))), (1, .d (.int .i64 a2)), (2, .d (.int .i64 a3)), (7, .d (.sl (v7.1.map SConstraint.e)))] [] (WOK.g0 hw0 (by simp)) ⟨[], rfl, rfl, rfl, ⟨(.d rfl), (.d rfl), (.d rfl), (.d rfl), trivial⟩, trivial, .nil⟩ ?_
      refine AW.seqR ?_
      refine AL.s rfl (op_moveD (.e rfl)) ?_
      obtain ⟨v10, hv10, hm⟩ := bindE hm
      refine AL.s rfl (op_fn Try.call15 (.e rfl) (.cons (.r rfl) .nil) (m_constraint_Groups_ok hv10)) ?_
      refine AL.s rfl (op_moveD (.e rfl)) ?_
      refine AL.s rfl (op_extractD (.e rfl) rfl) ?_
      refine AL.s rfl (op_extractD (.e rfl) rfl) ?_
      refine AL.s rfl (op_assignD (.e rfl)) ?_
      refine AL.s rfl (op_assignD (.e rfl)) ?_
      refine AL.nil ?_
      refine AW.seqR ?_
      refine AL.s rfl (op_moveD (.e rfl)) ?_
      obtain ⟨v11, hv11, hm⟩ := bindE hm
      refine AL.s rfl (op_fn Try.call15 (.e rfl) (.cons (.r rfl) .nil) (m_constraint_Groups_ok hv11)) ?_
      refine AL.s rfl (op_moveD (.e rfl)) ?_
      refine AL.s rfl (op_extractD (.e rfl) rfl) ?_
      refine AL.s rfl (op_extractD (.e rfl) rfl) ?_
      refine AL.s rfl (op_assignD (.e rfl)) ?_
      refine AL.s rfl (op_assignD (.e rfl)) ?_
      refine AL.nil ?_
      refine AW.seqR ?_
      refine AL.s rfl (op_moveD (.e rfl)) ?_
      obtain ⟨v12, hv12, hm⟩ := bindE hm
      refine AL.s rfl (op_fn Try.call16 (.e rfl) (.cons (.r rfl) .nil) (m_constraint_Conflicts_ok hv12)) ?_
      refine AL.s rfl (op_moveD (.e rfl)) ?_
      refine AL.s rfl (op_extractD (.e rfl) rfl) ?_
      refine AL.s rfl (op_extractD (.e rfl) rfl) ?_
      refine AL.s rfl (op_assignD (.e rfl)) ?_
      refine AL.s rfl (op_assignD (.e rfl)) ?_
      refine AL.nil ?_
      refine AW.seqR ?_
      refine AL.s rfl (op_moveD (.e rfl)) ?_
      obtain ⟨v13, hv13, hm⟩ := bindE hm
      refine AL.s rfl (op_fn Try.call16 (.e rfl) (.cons (.r rfl) .nil) (m_constraint_Conflicts_ok hv13)) ?_
      refine AL.s rfl (op_moveD (.e rfl)) ?_
      refine AL.s rfl (op_extractD (.e rfl) rfl) ?_
      refine AL.s rfl (op_extractD (.e rfl) rfl) ?_
      refine AL.s rfl (op_assignD (.e rfl)) ?_
      refine AL.s rfl (op_assignD (.e rfl)) ?_
      refine AL.nil ?_
      refine AW.seqR ?_
      refine AL.s rfl (op_moveD (.e rfl)) ?_
      refine AL.s rfl (op_moveD (.e rfl)) ?_
      refine AL.s rfl (op_moveD (.e rfl)) ?_
      obtain ⟨v14, hv14, hm⟩ := bindE hm
      refine AL.s rfl (op_fn Try.call17 (.e rfl) (.cons (.r rfl) (.cons (.r rfl) (.cons (.r rfl) .nil))) (m_constraint_Apart_ok hv14)) ?_
      refine AL.s rfl (op_moveD (.e rfl)) ?_
      refine AL.s rfl (op_extractD (.e rfl) rfl) ?_
      refine AL.s rfl (op_extractD (.e rfl) rfl) ?_
      refine AL.s rfl (op_assignD (.e rfl)) ?_
      refine AL.s rfl (op_assignD (.e rfl)) ?_
      refine AL.nil ?_
      refine AW.seqR ?_
      refine AL.s rfl (op_moveD (.e rfl)) ?_
      refine AL.s rfl (op_moveD (.e rfl)) ?_
      refine AL.s rfl (op_moveD (.e rfl)) ?_
      obtain ⟨v15, hv15, hm⟩ := bindE hm
      refine AL.s rfl (op_fn Try.call17 (.e rfl) (.cons (.r rfl) (.cons (.r rfl) (.cons (.r rfl) .nil))) (m_constraint_Apart_ok hv15)) ?_
      refine AL.s rfl (op_moveD (.e rfl)) ?_
      refine AL.s rfl (op_extractD (.e rfl) rfl) ?_
      refine AL.s rfl (op_extractD (.e rfl) rfl) ?_
      refine AL.s rfl (op_assignD (.e rfl)) ?_
      refine AL.s rfl (op_assignD (.e rfl)) ?_
      refine AL.nil ?_
      refine AW.seqR ?_
      refine AL.s rfl (op_moveD (.e rfl)) ?_
      refine AL.s rfl (op_moveD (.e rfl)) ?_
      obtain ⟨v16, hv16, hm⟩ := bindE hm
      refine AL.s rfl (op_fn Try.call18 (.e rfl) (.cons (.r rfl) (.cons (.r rfl) .nil)) (m_ref32_SameGroups_ok hv16)) ?_
      refine AL.s rfl (op_moveD (.e rfl)) ?_
      refine AL.sT rfl rfl rfl rfl (fun g => op_moveD (.e rfl)) ?_
      obtain ⟨v17, hv17, hm⟩ := bindE hm
      refine AL.sT rfl rfl rfl rfl (fun g => op_fn Try.call20 (.e rfl) (.cons (.we g rfl rfl) .nil) (m_law32_theirs_ok (iteT g hv17))) ?_
      refine AL.sT rfl rfl rfl rfl (fun g => op_moveD (.e rfl)) ?_
      obtain ⟨v18, hv18, hm⟩ := bindE hm
      refine AL.sT rfl rfl rfl rfl (fun g => op_fn Try.call20 (.e rfl) (.cons (.we g rfl rfl) .nil) (m_law32_theirs_ok (iteT g hv18))) ?_
      obtain ⟨v19, hv19, hm⟩ := bindE hm
      refine AL.sT rfl rfl rfl rfl (fun g => op_fn Try.call19 (.e rfl) (.cons (.we g rfl rfl) (.cons (.we g rfl rfl) .nil)) (m_ref32_Same_ok (iteT g hv19))) ?_
      refine AL.s rfl (op_and (.r rfl) (fun h => (.we h rfl rfl)) rfl) ?_
      refine AL.s rfl (op_moveD (.e rfl)) ?_
      refine AL.sT rfl rfl rfl rfl (fun g => op_moveD (.e rfl)) ?_
      refine AL.sT rfl rfl rfl rfl (fun g => op_moveD (.e rfl)) ?_
      refine AL.sT rfl rfl rfl rfl (fun g => op_eqlB (.we g rfl rfl) (.we g rfl rfl) Try.underlying4) ?_
      refine AL.s rfl (op_and (.r rfl) (fun h => (.we h rfl rfl)) rfl) ?_
      refine AL.s rfl (op_assignD (.e rfl)) ?_
      refine AL.nil ?_
      refine AW.ret ?_
      obtain rfl := Option.some.inj hm
      exact EndQ.d (.tmp (.e rfl) .nil) rfl rfl

end Go.Proofs.Ytkfffaoopcnaoaa.Ab
