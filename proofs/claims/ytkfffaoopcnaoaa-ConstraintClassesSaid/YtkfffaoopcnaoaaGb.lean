/- The functions do what they are in plain Lean. Conditions: none. -/
import Derived.Test.YtkfffaoopcnaoaaTy
import Derived.Test.YtkfffaoopcnaoaaMi
import Derived.Test.YtkfffaoopcnaoaaFd
set_option maxRecDepth 100000
namespace Go.Proofs.Ytkfffaoopcnaoaa.Ab
open Go
attribute [local irreducible] AL AD AW nlO nlV nlD

set_option maxHeartbeats 20000000 in
theorem m_law32_ConstraintClasses_ok {n : Nat} {a1 : (List SConstraint)} {a2 : Int} {a3 : Int} {r : Bool} (hm : m_law32_ConstraintClasses n a1 a2 a3 = some r) : Fn Try.prog 6 [(.sl (a1.map SConstraint.e)), (.int .i64 a2), (.int .i64 a3)] (.bool r) := by
  unfold m_law32_ConstraintClasses at hm
  refine Fn.of_AW (fnn := Try.f6) Try.func6 rfl (Nat.le_of_ble_eq_true rfl) (fun g0 w0 hw0 => ?_)
  refine AW.reset 0 [(0, .d (.sl (a1.map SConstraint.e))), (1, .d (.int .i64 a2)), (2, .d (.int .i64 a3))] [] (WOK.g0 hw0 (by simp)) ⟨[], rfl, rfl, rfl, ⟨(.d rfl), (.d rfl), (.d rfl), trivial⟩, trivial, .nil⟩ ?_
  refine AW.seqR ?_
  refine AL.s rfl (op_assignD (.e rfl)) ?_
  refine AL.nil ?_
  refine AW.seq ?_
  refine AW.seqR ?_
  obtain ⟨v4, hv4, hm⟩ := bindE hm
  refine AL.s rfl (op_fn Try.call11 (.e rfl) .nil (m_law32_awake_ok hv4)) ?_
  refine AL.s rfl (op_not (.r rfl)) ?_
  refine AL.s rfl (op_moveD (.e rfl)) ?_
  refine AL.sF rfl rfl rfl rfl (fun g => op_moveD (.e rfl)) ?_
  refine AL.sF rfl rfl rfl rfl (fun g => op_lenM (f := SConstraint.e) (.we (nt g) rfl rfl) sl22) ?_
  refine AL.sF rfl rfl rfl rfl (fun g => op_gtr (.we (nt g) rfl rfl) (.r rfl)) ?_
  refine AL.s rfl (op_or (.r rfl) rfl (fun h => (.we (nt h) rfl rfl))) ?_
  refine AL.s rfl (op_moveD (.e rfl)) ?_
  refine AL.sF rfl rfl rfl rfl (fun g => op_moveD (.e rfl)) ?_
  obtain ⟨v5, hv5, hm⟩ := bindE hm
  refine AL.sF rfl rfl rfl rfl (fun g => op_fn Try.call12 (.e rfl) (.cons (.we (nt g) rfl rfl) .nil) (m_ref32_Valid_ok (iteT (nt g) hv5))) ?_
  refine AL.sF rfl rfl rfl rfl (fun g => op_not (.we (nt g) rfl rfl)) ?_
  refine AL.s rfl (op_or (.r rfl) rfl (fun h => (.we (nt h) rfl rfl))) ?_
  refine AL.nil ?_
  refine AW.cond (b := _) rfl (fun hc1 => ?_) (fun hc1 => ?_)
  · replace hm := iteT hc1 hm
    refine AW.seqR ?_
    obtain ⟨v6, hv6, hm⟩ := bindE hm
    refine AL.s rfl (op_fn Try.call11 (.e rfl) .nil (m_law32_awake_ok hv6)) ?_
    refine AL.s rfl (op_assignD (.e rfl)) ?_
    refine AL.nil ?_
    refine AW.ret ?_
    refine tq_ret ?_
    obtain rfl := Option.some.inj hm
    exact EndQ.d (.tmp (.e rfl) .nil) rfl rfl
  · replace hm := iteF hc1 hm
    refine AW.skip ?_
    refine nq ?_
    refine AW.seqR ?_
    refine AL.s rfl (op_moveD (.e rfl)) ?_
    refine AL.s rfl (op_moveD (.e rfl)) ?_
    obtain ⟨v7, hv7, hm⟩ := bindE hm
    refine AL.s rfl (op_fn Try.call28 (.e rfl) (.cons (.r rfl) (.cons (.r rfl) .nil)) (m_constraint_Group_ok hv7)) ?_
    refine AL.s rfl (op_moveD (.e rfl)) ?_
    refine AL.s rfl (op_extractD (.e rfl) rfl) ?_
    refine AL.s rfl (op_extractD (.e rfl) rfl) ?_
    refine AL.s rfl (op_assignD (.e rfl)) ?_
    refine AL.s rfl (op_assignD (.e rfl)) ?_
    refine AL.nil ?_
    refine AW.seqR ?_
    refine AL.s rfl (op_moveD (.e rfl)) ?_
    refine AL.s rfl (op_moveD (.e rfl)) ?_
    obtain ⟨v8, hv8, hm⟩ := bindE hm
    refine AL.s rfl (op_fn Try.call28 (.e rfl) (.cons (.r rfl) (.cons (.r rfl) .nil)) (m_constraint_Group_ok hv8)) ?_
    refine AL.s rfl (op_moveD (.e rfl)) ?_
    refine AL.s rfl (op_extractD (.e rfl) rfl) ?_
    refine AL.s rfl (op_extractD (.e rfl) rfl) ?_
    refine AL.s rfl (op_assignD (.e rfl)) ?_
    refine AL.s rfl (op_assignD (.e rfl)) ?_
    refine AL.nil ?_
    refine AW.seq ?_
    refine AW.seqR ?_
    refine AL.s rfl (op_moveD (.e rfl)) ?_
    refine AL.s rfl (op_neq (.r rfl) (.r rfl)) ?_
    refine AL.s rfl (op_moveD (.e rfl)) ?_
    refine AL.sF rfl rfl rfl rfl (fun g => op_moveD (.e rfl)) ?_
    refine AL.sF rfl rfl rfl rfl (fun g => op_neq (.we (nt g) rfl rfl) (.r rfl)) ?_
    refine AL.s rfl (op_or (.r rfl) rfl (fun h => (.we (nt h) rfl rfl))) ?_
    refine AL.s rfl (op_moveD (.e rfl)) ?_
    refine AL.sF rfl rfl rfl rfl (fun g => op_moveD (.e rfl)) ?_
    refine AL.sF rfl rfl rfl rfl (fun g => op_moveD (.e rfl)) ?_
    obtain ⟨v9, hv9, hm⟩ := bindE hm
    refine AL.sF rfl rfl rfl rfl (fun g => op_fn Try.call27 (.e rfl) (.cons (.we (nt g) rfl rfl) (.cons (.we (nt g) rfl rfl) .nil)) (m_ref32_Has_ok (iteT (nt g) hv9))) ?_
    refine AL.sF rfl rfl rfl rfl (fun g => op_not (.we (nt g) rfl rfl)) ?_
    refine AL.s rfl (op_or (.r rfl) rfl (fun h => (.we (nt h) rfl rfl))) ?_
    refine AL.s rfl (op_moveD (.e rfl)) ?_
    refine AL.sF rfl rfl rfl rfl (fun g => op_moveD (.e rfl)) ?_
    refine AL.sF rfl rfl rfl rfl (fun g => op_moveD (.e rfl)) ?_
    obtain ⟨v10, hv10, hm⟩ := bindE hm
    refine AL.sF rfl rfl rfl rfl (fun g => op_fn Try.call27 (.e rfl) (.cons (.we (nt g) rfl rfl) (.cons (.we (nt g) rfl rfl) .nil)) (m_ref32_Has_ok (iteT (nt g) hv10))) ?_
    refine AL.sF rfl rfl rfl rfl (fun g => op_not (.we (nt g) rfl rfl)) ?_
    refine AL.s rfl (op_or (.r rfl) rfl (fun h => (.we (nt h) rfl rfl))) ?_
    refine AL.s rfl (op_moveD (.e rfl)) ?_
    refine AL.sF rfl rfl rfl rfl (fun g => op_moveD (.e rfl)) ?_
    refine AL.sF rfl rfl rfl rfl (fun g => op_moveD (.e rfl)) ?_
    obtain ⟨v11, hv11, hm⟩ := bindE hm
    refine AL.sF rfl rfl rfl rfl (fun g => op_fn Try.call27 (.e rfl) (.cons (.we (nt g) rfl rfl) (.cons (.we (nt g) rfl rfl) .nil)) (m_ref32_Has_ok (iteT (nt g) hv11))) ?_
    refine AL.sF rfl rfl rfl rfl (fun g => op_moveD (.e rfl)) ?_
    refine AL.sF rfl rfl rfl rfl (fun g => op_moveD (.e rfl)) ?_
    obtain ⟨v12, hv12, hm⟩ := bindE hm
    refine AL.sF rfl rfl rfl rfl (fun g => op_fn Try.call27 (.e rfl) (.cons (.we (nt g) rfl rfl) (.cons (.we (nt g) rfl rfl) .nil)) (m_ref32_Has_ok (iteT (nt g) hv12))) ?_
    refine AL.sF rfl rfl rfl rfl (fun g => op_neqB (.we (nt g) rfl rfl) (.we (nt g) rfl rfl) Try.underlying4) ?_
    refine AL.s rfl (op_or (.r rfl) rfl (fun h => (.we (nt h) rfl rfl))) ?_
    refine AL.nil ?_
    refine AW.cond (b := _) rfl (fun hc2 => ?_) (fun hc2 => ?_)
    · replace hm := iteT hc2 hm
      refine AW.reset 0 [] [] (WOK.g0 hw0 (by simp)) ⟨[], rfl, rfl, rfl, trivial, trivial, .nil⟩ ?_
      refine AW.seqR ?_
      refine AL.s rfl (op_assignD (.e rfl)) ?_
      refine AL.nil ?_
      refine AW.ret ?_
      refine tq_ret ?_
      obtain rfl := Option.some.inj hm
      exact EndQ.d (.tmp (.e rfl) .nil) rfl rfl
    · replace hm := iteF hc2 hm
      refine AW.skip ?_
      refine nq ?_
      refine AW.seq ?_
      refine AW.seqR ?_
      refine AL.s rfl (op_moveD (.e rfl)) ?_
      refine AL.s rfl (op_lenM (f := SConstraint.e) (.r rfl) sl22) ?_
      refine AL.s rfl (op_moveD (.e rfl)) ?_
      refine AL.nil ?_
      refine AW.block ?_
      obtain ⟨t_1, hI1, hk1⟩ := bindE hm
      refine AW.loopS (σ := Int) (τ := (Bool ⊕ Unit)) 0 (fun x => [(0, .d (.sl (a1.map SConstraint.e))), (1, .d (.int .i64 a2)), (2, .d (.int .i64 a3)), (7, .d (.sl (v7.1.map D.i))), (9, .d (.sl (v8.1.map D.i))), (79, .d (.sl (a1.map SConstraint.e))), (80, .d (.int .i64 (a1.length : Int))), (81, .d (.int .i64 x))]) (fun x => []) hI1 (WOK.g0 hw0 (by simp)) ⟨[], rfl, rfl, rfl, ⟨(.d rfl), (.d rfl), (.d rfl), (.d rfl), (.d rfl), (.d rfl), (.d rfl), (.d rfl), trivial⟩, trivial, .nil⟩ ?_
      rintro n1 s13 hI1
      obtain ⟨y_1, hm, hI1⟩ := iterS hI1
      replace hm : m_law32_ConstraintClasses_L1 n _ s13 = some y_1 := hm
      unfold m_law32_ConstraintClasses_L1 at hm
      try dsimp only at hm
      refine AW.seqR ?_
      refine AL.s rfl (op_lss (.r rfl) (.r rfl)) ?_
      refine AL.nil ?_
      refine AW.seq ?_
      refine AW.cond (b := _) rfl (fun hc3 => ?_) (fun hc3 => ?_)
      · replace hm := iteT hc3 hm
        refine AW.skip ?_
        refine nq ?_
        refine AW.seq ?_
        refine AW.block ?_
        refine AW.seqR ?_
        obtain ⟨v14, hv14, hm⟩ := bindE hm
        refine AL.s rfl (op_indexAddrM (f := SConstraint.e) (.r rfl) (.r rfl) hv14 enSConstraint sl22) ?_
        refine AL.s rfl (op_loadA (.e rfl) rfl ag50) ?_
        refine AL.s rfl (op_alloc (n := 0) zr50 rfl) ?_
        refine AL.s rfl (op_store (.e rfl) (.e rfl) rfl rfl rfl ⟨_, rfl, rfl⟩ rfl (Nat.le_of_ble_eq_true rfl)) ?_
        refine AL.nil ?_
        refine AW.seqR ?_
        refine AL.s rfl (op_moveD (.e rfl)) ?_
        refine AL.s rfl (op_field_ptr (.e rfl) fd50_1) ?_
        refine AL.s rfl (op_load_ptr1 (.e rfl) rfl rfl sc3) ?_
        obtain ⟨v15, hv15, hm⟩ := bindE hm
        refine AL.s rfl (op_fn Try.call28 (.e rfl) (.cons (.r rfl) (.cons (.r rfl) .nil)) (m_constraint_Group_ok hv15)) ?_
        refine AL.s rfl (op_moveD (.e rfl)) ?_
        refine AL.s rfl (op_extractD (.e rfl) rfl) ?_
        refine AL.s rfl (op_extractD (.e rfl) rfl) ?_
        refine AL.s rfl (op_assignD (.e rfl)) ?_
        refine AL.s rfl (op_assignD (.e rfl)) ?_
        refine AL.nil ?_
        refine AW.seqR ?_
        refine AL.s rfl (op_moveD (.e rfl)) ?_
        refine AL.s rfl (op_field_ptr (.e rfl) fd50_2) ?_
        refine AL.s rfl (op_load_ptr1 (.e rfl) rfl rfl sc3) ?_
        refine AL.s rfl (op_field_ptr (.e rfl) fd50_1) ?_
        refine AL.s rfl (op_load_ptr1 (.e rfl) rfl rfl sc3) ?_
        obtain ⟨v16, hv16, hm⟩ := bindE hm
        refine AL.s rfl (op_fn Try.call17 (.e rfl) (.cons (.r rfl) (.cons (.r rfl) (.cons (.r rfl) .nil))) (m_constraint_Apart_ok hv16)) ?_
        refine AL.s rfl (op_moveD (.e rfl)) ?_
        refine AL.s rfl (op_extractD (.e rfl) rfl) ?_
        refine AL.s rfl (op_extractD (.e rfl) rfl) ?_
        refine AL.s rfl (op_assignD (.e rfl)) ?_
        refine AL.s rfl (op_assignD (.e rfl)) ?_
        refine AL.nil ?_
        refine AW.seqR ?_
        refine AL.s rfl (op_moveD (.e rfl)) ?_
        refine AL.s rfl (op_neq (.r rfl) (.r rfl)) ?_
        refine AL.s rfl (op_moveD (.e rfl)) ?_
        refine AL.sF rfl rfl rfl rfl (fun g => op_moveD (.e rfl)) ?_
        refine AL.sF rfl rfl rfl rfl (fun g => op_neq (.we (nt g) rfl rfl) (.r rfl)) ?_
        refine AL.s rfl (op_or (.r rfl) rfl (fun h => (.we (nt h) rfl rfl))) ?_
        refine AL.s rfl (op_moveD (.e rfl)) ?_
        refine AL.sF rfl rfl rfl rfl (fun g => op_field_ptr (.e rfl) fd50_0) ?_
        refine AL.sF rfl rfl rfl rfl (fun g => op_load_ptr1 (.we (nt g) rfl) rfl rfl sc3) ?_
        refine AL.sF rfl rfl rfl rfl (fun g => op_eql (.we (nt g) rfl rfl) (.r rfl)) ?_
        refine AL.sF rfl rfl rfl rfl (fun g => op_moveD (.we (nt g) rfl)) ?_
        refine AL.sTT rfl rfl rfl rfl (fun gp g => op_moveD (.e rfl)) ?_
        refine AL.sTT rfl rfl rfl rfl (fun gp g => op_field_ptr (.e rfl) fd50_2) ?_
        refine AL.sTT rfl rfl rfl rfl (fun gp g => op_load_ptr1 (.we (an gp g) rfl) rfl rfl sc3) ?_
        obtain ⟨v17, hv17, hm⟩ := bindE hm
        refine AL.sTT rfl rfl rfl rfl (fun gp g => op_fn Try.call27 (.e rfl) (.cons (.we (an gp g) rfl rfl) (.cons (.we (an gp g) rfl rfl) .nil)) (m_ref32_Has_ok (iteT (an gp g) hv17))) ?_
        refine AL.sTT rfl rfl rfl rfl (fun gp g => op_not (.we (an gp g) rfl rfl)) ?_
        refine AL.sF rfl rfl rfl rfl (fun g => op_and (.we (nt g) rfl rfl) (fun h => (.we (an (nt g) h) rfl rfl)) rfl) ?_
        refine AL.s rfl (op_or (.r rfl) rfl (fun h => (.we (nt h) rfl rfl))) ?_
        refine AL.s rfl (op_moveD (.e rfl)) ?_
        refine AL.sF rfl rfl rfl rfl (fun g => op_field_ptr (.e rfl) fd50_0) ?_
        refine AL.sF rfl rfl rfl rfl (fun g => op_load_ptr1 (.we (nt g) rfl) rfl rfl sc3) ?_
        refine AL.sF rfl rfl rfl rfl (fun g => op_eql (.we (nt g) rfl rfl) (.r rfl)) ?_
        refine AL.sF rfl rfl rfl rfl (fun g => op_moveD (.we (nt g) rfl)) ?_
        refine AL.sTT rfl rfl rfl rfl (fun gp g => op_moveD (.e rfl)) ?_
        refine AL.sTT rfl rfl rfl rfl (fun gp g => op_not (.we (an gp g) rfl rfl)) ?_
        refine AL.sF rfl rfl rfl rfl (fun g => op_and (.we (nt g) rfl rfl) (fun h => (.we (an (nt g) h) rfl rfl)) rfl) ?_
        refine AL.s rfl (op_or (.r rfl) rfl (fun h => (.we (nt h) rfl rfl))) ?_
        refine AL.nil ?_
        refine AW.cond (b := _) rfl (fun hc4 => ?_) (fun hc4 => ?_)
        · replace hm := iteT hc4 hm
          refine AW.reset 0 [] [.row [.d (.int .i64 v14.fKind), .d (.int .i64 v14.fA), .d (.int .i64 v14.fB)]] (WOK.g0 hw0 (by simp)) ⟨[0], rfl, rfl, rfl, trivial, trivial, (.row rfl (.cons (.d rfl) (.cons (.d rfl) (.cons (.d rfl) .nil))) .nil)⟩ ?_
          refine AW.seqR ?_
          refine AL.s rfl (op_assignD (.e rfl)) ?_
          refine AL.nil ?_
          refine AW.ret ?_
          refine bq_ret ?_
          refine tq_ret ?_
          refine tq_ret ?_
          obtain rfl := Option.some.inj hm
          obtain rfl := Option.some.inj hI1
          replace hm := hk1
          try dsimp only at hm
          refine bq_ret ?_
          refine tq_ret ?_
          obtain rfl := Option.some.inj hm
          exact EndQ.d (.tmp (.e rfl) .nil) rfl rfl
        · replace hm := iteF hc4 hm
          refine AW.skip ?_
          refine bq_n ?_
          refine nq ?_
          refine AW.region ?_
          refine AL.s rfl (op_addw (.r rfl) (.r rfl)) ?_
          refine AL.s rfl (op_moveD (.e rfl)) ?_
          refine AL.nil ?_
          obtain rfl := Option.some.inj hm
          exact nq ⟨_, hI1, ⟨[], rfl, rfl, rfl, ⟨(.d rfl), (.d rfl), (.d rfl), (.d rfl), (.d rfl), (.d rfl), (.d rfl), (.d rfl), trivial⟩, trivial, .nil⟩⟩
      · replace hm := iteF hc3 hm
        refine AW.exit ?_
        refine tq_exit ?_
        refine tq_exit ?_
        obtain rfl := Option.some.inj hm
        obtain rfl := Option.some.inj hI1
        replace hm := hk1
        try dsimp only at hm
        refine bq_hit ?_
        refine nq ?_
        refine AW.seqR ?_
        refine AL.s rfl (op_moveD (.e rfl)) ?_
        refine AL.s rfl (op_moveD (.e rfl)) ?_
        refine AL.s rfl (op_moveD (.e rfl)) ?_
        obtain ⟨v18, hv18, hm⟩ := bindE hm
        refine AL.s rfl (op_fn Try.call17 (.e rfl) (.cons (.r rfl) (.cons (.r rfl) (.cons (.r rfl) .nil))) (m_constraint_Apart_ok hv18)) ?_
        refine AL.s rfl (op_moveD (.e rfl)) ?_
        refine AL.s rfl (op_extractD (.e rfl) rfl) ?_
        refine AL.s rfl (op_extractD (.e rfl) rfl) ?_
        refine AL.s rfl (op_assignD (.e rfl)) ?_
        refine AL.s rfl (op_assignD (.e rfl)) ?_
        refine AL.nil ?_
        refine AW.seq ?_
        refine AW.seqR ?_
        refine AL.s rfl (op_moveD (.e rfl)) ?_
        refine AL.s rfl (op_neq (.r rfl) (.r rfl)) ?_
        refine AL.nil ?_
        refine AW.cond (b := _) rfl (fun hc5 => ?_) (fun hc5 => ?_)
        · replace hm := iteT hc5 hm
          refine AW.seqR ?_
          refine AL.s rfl (op_assignD (.e rfl)) ?_
          refine AL.nil ?_
          refine AW.ret ?_
          refine tq_ret ?_
          obtain rfl := Option.some.inj hm
          exact EndQ.d (.tmp (.e rfl) .nil) rfl rfl
        · replace hm := iteF hc5 hm
          refine AW.skip ?_
          refine nq ?_
          refine AW.seq ?_
          refine AW.seqR ?_
          refine AL.s rfl (op_moveD (.e rfl)) ?_
          refine AL.s rfl (op_lenM (f := D.i) (.r rfl) sl42) ?_
          refine AL.s rfl (op_moveD (.e rfl)) ?_
          refine AL.nil ?_
          refine AW.block ?_
          obtain ⟨t_2, hI2, hk2⟩ := bindE hm
          refine AW.loopS (σ := Int) (τ := (Bool ⊕ Unit)) 0 (fun x => [(0, .d (.sl (a1.map SConstraint.e))), (7, .d (.sl (v7.1.map D.i))), (9, .d (.sl (v8.1.map D.i))), (17, .d (.bool v18.1)), (138, .d (.sl (v7.1.map D.i))), (139, .d (.int .i64 (v7.1.length : Int))), (140, .d (.int .i64 x))]) (fun x => []) hI2 (WOK.g0 hw0 (by simp)) ⟨[], rfl, rfl, rfl, ⟨(.d rfl), (.d rfl), (.d rfl), (.d rfl), (.d rfl), (.d rfl), (.d rfl), trivial⟩, trivial, .nil⟩ ?_
          rintro n2 s19 hI2
          obtain ⟨y_2, hm, hI2⟩ := iterS hI2
          replace hm : m_law32_ConstraintClasses_L2 n _ _ _ _ s19 = some y_2 := hm
          unfold m_law32_ConstraintClasses_L2 at hm
          try dsimp only at hm
          refine AW.seqR ?_
          refine AL.s rfl (op_lss (.r rfl) (.r rfl)) ?_
          refine AL.nil ?_
          refine AW.seq ?_
          refine AW.cond (b := _) rfl (fun hc6 => ?_) (fun hc6 => ?_)
          · replace hm := iteT hc6 hm
            refine AW.skip ?_
            refine nq ?_
            refine AW.seq ?_
            refine AW.block ?_
            refine AW.seqR ?_
            obtain ⟨v20, hv20, hm⟩ := bindE hm
            refine AL.s rfl (op_indexAddrM (f := D.i) (.r rfl) (.r rfl) hv20 En.i sl42) ?_
            refine AL.s rfl (op_load_vp1 (.e rfl) rfl sc3) ?_
            refine AL.s rfl (op_assignD (.e rfl)) ?_
            refine AL.nil ?_
            refine AW.seqR ?_
            refine AL.s rfl (op_moveD (.e rfl)) ?_
            refine AL.s rfl (op_moveD (.e rfl)) ?_
            obtain ⟨v21, hv21, hm⟩ := bindE hm
            refine AL.s rfl (op_fn Try.call28 (.e rfl) (.cons (.r rfl) (.cons (.r rfl) .nil)) (m_constraint_Group_ok hv21)) ?_
            refine AL.s rfl (op_moveD (.e rfl)) ?_
            refine AL.s rfl (op_extractD (.e rfl) rfl) ?_
            refine AL.s rfl (op_extractD (.e rfl) rfl) ?_
            refine AL.s rfl (op_assignD (.e rfl)) ?_
            refine AL.s rfl (op_assignD (.e rfl)) ?_
            refine AL.nil ?_
            refine AW.seq ?_
            refine AW.seqR ?_
            refine AL.s rfl (op_moveD (.e rfl)) ?_
            refine AL.s rfl (op_moveD (.e rfl)) ?_
            obtain ⟨v22, hv22, hm⟩ := bindE hm
            refine AL.s rfl (op_fn Try.call25 (.e rfl) (.cons (.r rfl) (.cons (.r rfl) .nil)) (m_ref32_SameInts_ok hv22)) ?_
            refine AL.s rfl (op_not (.r rfl)) ?_
            refine AL.nil ?_
            refine AW.cond (b := _) rfl (fun hc7 => ?_) (fun hc7 => ?_)
            · replace hm := iteT hc7 hm
              refine AW.seqR ?_
              refine AL.s rfl (op_assignD (.e rfl)) ?_
              refine AL.nil ?_
              refine AW.ret ?_
              refine tq_ret ?_
              refine bq_ret ?_
              refine tq_ret ?_
              refine tq_ret ?_
              obtain rfl := Option.some.inj hm
              obtain rfl := Option.some.inj hI2
              replace hm := hk2
              try dsimp only at hm
              refine bq_ret ?_
              refine tq_ret ?_
              obtain rfl := Option.some.inj hm
              exact EndQ.d (.tmp (.e rfl) .nil) rfl rfl
            · replace hm := iteF hc7 hm
              refine AW.skip ?_
              refine nq ?_
              refine AW.seqR ?_
              refine AL.s rfl (op_moveD (.e rfl)) ?_
              refine AL.s rfl (op_lenM (f := D.i) (.r rfl) sl42) ?_
              refine AL.s rfl (op_moveD (.e rfl)) ?_
              refine AL.nil ?_
              refine AW.block ?_
              obtain ⟨t_3, hI3, hk3⟩ := bindE hm
              refine AW.loopS (σ := Int) (τ := (Bool ⊕ Unit)) 0 (fun x => [(0, .d (.sl (a1.map SConstraint.e))), (7, .d (.sl (v7.1.map D.i))), (9, .d (.sl (v8.1.map D.i))), (17, .d (.bool v18.1)), (20, .d (.int .i64 v20)), (138, .d (.sl (v7.1.map D.i))), (139, .d (.int .i64 (v7.1.length : Int))), (140, .d (.int .i64 s19)), (154, .d (.sl (v8.1.map D.i))), (155, .d (.int .i64 (v8.1.length : Int))), (156, .d (.int .i64 x))]) (fun x => []) hI3 (WOK.g0 hw0 (by simp)) ⟨[], rfl, rfl, rfl, ⟨(.d rfl), (.d rfl), (.d rfl), (.d rfl), (.d rfl), (.d rfl), (.d rfl), (.d rfl), (.d rfl), (.d rfl), (.d rfl), trivial⟩, trivial, .nil⟩ ?_
              rintro n3 s23 hI3
              obtain ⟨y_3, hm, hI3⟩ := iterS hI3
              replace hm : m_law32_ConstraintClasses_L3 n _ _ _ _ s23 = some y_3 := hm
              unfold m_law32_ConstraintClasses_L3 at hm
              try dsimp only at hm
              refine AW.seqR ?_
              refine AL.s rfl (op_lss (.r rfl) (.r rfl)) ?_
              refine AL.nil ?_
              refine AW.seq ?_
              refine AW.cond (b := _) rfl (fun hc8 => ?_) (fun hc8 => ?_)
              · replace hm := iteT hc8 hm
                refine AW.skip ?_
                refine nq ?_
                refine AW.seq ?_
                refine AW.block ?_
                refine AW.seqR ?_
                obtain ⟨v24, hv24, hm⟩ := bindE hm
                refine AL.s rfl (op_indexAddrM (f := D.i) (.r rfl) (.r rfl) hv24 En.i sl42) ?_
                refine AL.s rfl (op_load_vp1 (.e rfl) rfl sc3) ?_
                refine AL.s rfl (op_assignD (.e rfl)) ?_
                refine AL.nil ?_
                refine AW.seqR ?_
                refine AL.s rfl (op_moveD (.e rfl)) ?_
                refine AL.s rfl (op_moveD (.e rfl)) ?_
                refine AL.s rfl (op_moveD (.e rfl)) ?_
                obtain ⟨v25, hv25, hm⟩ := bindE hm
                refine AL.s rfl (op_fn Try.call17 (.e rfl) (.cons (.r rfl) (.cons (.r rfl) (.cons (.r rfl) .nil))) (m_constraint_Apart_ok hv25)) ?_
                refine AL.s rfl (op_moveD (.e rfl)) ?_
                refine AL.s rfl (op_extractD (.e rfl) rfl) ?_
                refine AL.s rfl (op_extractD (.e rfl) rfl) ?_
                refine AL.s rfl (op_assignD (.e rfl)) ?_
                refine AL.s rfl (op_assignD (.e rfl)) ?_
                refine AL.nil ?_
                refine AW.seqR ?_
                refine AL.s rfl (op_moveD (.e rfl)) ?_
                refine AL.s rfl (op_neq (.r rfl) (.r rfl)) ?_
                refine AL.s rfl (op_moveD (.e rfl)) ?_
                refine AL.sF rfl rfl rfl rfl (fun g => op_moveD (.e rfl)) ?_
                refine AL.sF rfl rfl rfl rfl (fun g => op_moveD (.e rfl)) ?_
                refine AL.sF rfl rfl rfl rfl (fun g => op_neqB (.we (nt g) rfl rfl) (.we (nt g) rfl rfl) Try.underlying4) ?_
                refine AL.s rfl (op_or (.r rfl) rfl (fun h => (.we (nt h) rfl rfl))) ?_
                refine AL.nil ?_
                refine AW.cond (b := _) rfl (fun hc9 => ?_) (fun hc9 => ?_)
                · replace hm := iteT hc9 hm
                  refine AW.seqR ?_
                  refine AL.s rfl (op_assignD (.e rfl)) ?_
                  refine AL.nil ?_
                  refine AW.ret ?_
                  refine bq_ret ?_
                  refine tq_ret ?_
                  refine tq_ret ?_
                  obtain rfl := Option.some.inj hm
                  obtain rfl := Option.some.inj hI3
                  replace hm := hk3
                  try dsimp only at hm
                  refine bq_ret ?_
                  refine bq_ret ?_
                  refine tq_ret ?_
                  refine tq_ret ?_
                  obtain rfl := Option.some.inj hm
                  obtain rfl := Option.some.inj hI2
                  replace hm := hk2
                  try dsimp only at hm
                  refine bq_ret ?_
                  refine tq_ret ?_
                  obtain rfl := Option.some.inj hm
                  exact EndQ.d (.tmp (.e rfl) .nil) rfl rfl
                · replace hm := iteF hc9 hm
                  refine AW.skip ?_
                  refine bq_n ?_
                  refine nq ?_
                  refine AW.region ?_
                  refine AL.s rfl (op_addw (.r rfl) (.r rfl)) ?_
                  refine AL.s rfl (op_moveD (.e rfl)) ?_
                  refine AL.nil ?_
                  obtain rfl := Option.some.inj hm
                  exact nq ⟨_, hI3, ⟨[], rfl, rfl, rfl, ⟨(.d rfl), (.d rfl), (.d rfl), (.d rfl), (.d rfl), (.d rfl), (.d rfl), (.d rfl), (.d rfl), (.d rfl), (.d rfl), trivial⟩, trivial, .nil⟩⟩
              · replace hm := iteF hc8 hm
                refine AW.exit ?_
                refine tq_exit ?_
                refine tq_exit ?_
                obtain rfl := Option.some.inj hm
                obtain rfl := Option.some.inj hI3
                replace hm := hk3
                try dsimp only at hm
                refine bq_hit ?_
                refine bq_n ?_
                refine nq ?_
                refine AW.region ?_
                refine AL.s rfl (op_addw (.r rfl) (.r rfl)) ?_
                refine AL.s rfl (op_moveD (.e rfl)) ?_
                refine AL.nil ?_
                obtain rfl := Option.some.inj hm
                exact nq ⟨_, hI2, ⟨[], rfl, rfl, rfl, ⟨(.d rfl), (.d rfl), (.d rfl), (.d rfl), (.d rfl), (.d rfl), (.d rfl), trivial⟩, trivial, .nil⟩⟩
          · replace hm := iteF hc6 hm
            refine AW.exit ?_
            refine tq_exit ?_
            refine tq_exit ?_
            obtain rfl := Option.some.inj hm
            obtain rfl := Option.some.inj hI2
            replace hm := hk2
            try dsimp only at hm
            refine bq_hit ?_
            refine nq ?_
            refine AW.seqR ?_
            refine AL.s rfl (op_assignD (.e rfl)) ?_
            refine AL.nil ?_
            refine AW.ret ?_
            obtain rfl := Option.some.inj hm
            exact EndQ.d (.tmp (.e rfl) .nil) rfl rfl

end Go.Proofs.Ytkfffaoopcnaoaa.Ab
