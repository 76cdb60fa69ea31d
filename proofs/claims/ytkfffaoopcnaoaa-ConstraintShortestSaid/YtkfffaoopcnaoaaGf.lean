/- The functions do what they are in plain Lean. Conditions: none. -/
import Derived.Test.YtkfffaoopcnaoaaTy
import Derived.Test.YtkfffaoopcnaoaaMi
import Derived.Test.YtkfffaoopcnaoaaFc
set_option maxRecDepth 100000
namespace Go.Proofs.Ytkfffaoopcnaoaa.Ab
open Go
attribute [local irreducible] AL AD AW nlO nlV nlD

set_option maxHeartbeats 20000000 in
theorem m_law32_ConstraintShortest_ok {n : Nat} {a1 : (List SConstraint)} {a2 : Int} {a3 : (List Int)} {r : Bool} (hm : m_law32_ConstraintShortest n a1 a2 a3 = some r) : Fn Try.prog 5 [(.sl (a1.map SConstraint.e)), (.int .i64 a2), (.sl (a3.map (D.int .u8)))] (.bool r) := by
  unfold m_law32_ConstraintShortest at hm
  refine Fn.of_AW (fnn := Try.f5) Try.func5 rfl (Nat.le_of_ble_eq_true rfl) (fun g0 w0 hw0 => ?_)
  refine AW.reset 0 [(0, .d (.sl (a1.map SConstraint.e))), (1, .d (.int .i64 a2)), (2, .d (.sl (a3.map (D.int .u8))))] [] (WOK.g0 hw0 (by simp)) ⟨[], rfl, rfl, rfl, ⟨(.d rfl), (.d rfl), (.d rfl), trivial⟩, trivial, .nil⟩ ?_
  refine AW.seqR ?_
  refine AL.s rfl (op_assignD (.e rfl)) ?_
  refine AL.nil ?_
  refine AW.seq ?_
  refine AW.seqR ?_
  obtain ⟨v4, hv4, hm⟩ := bindE hm
  refine AL.s rfl (op_fn Try.call11 (.e rfl) .nil (m_law32_awake_ok hv4)) ?_
  refine AL.s rfl (op_not (.r rfl)) ?_
  refine AL.s rfl (op_moveD (.e rfl)) ?_
  refine AL.sF rfl rfl rfl rfl (fun g => op_moveD (.e rfl)) ?_
  refine AL.sF rfl rfl rfl rfl (fun g => op_lenM (f := SConstraint.e) (.we (nt g) rfl rfl) sl22) ?_
  refine AL.sF rfl rfl rfl rfl (fun g => op_gtr (.we (nt g) rfl rfl) (.r rfl)) ?_
  refine AL.s rfl (op_or (.r rfl) rfl (fun h => (.we (nt h) rfl rfl))) ?_
  refine AL.s rfl (op_moveD (.e rfl)) ?_
  refine AL.sF rfl rfl rfl rfl (fun g => op_moveD (.e rfl)) ?_
  obtain ⟨v5, hv5, hm⟩ := bindE hm
  refine AL.sF rfl rfl rfl rfl (fun g => op_fn Try.call12 (.e rfl) (.cons (.we (nt g) rfl rfl) .nil) (m_ref32_Valid_ok (iteT (nt g) hv5))) ?_
  refine AL.sF rfl rfl rfl rfl (fun g => op_not (.we (nt g) rfl rfl)) ?_
  refine AL.s rfl (op_or (.r rfl) rfl (fun h => (.we (nt h) rfl rfl))) ?_
  refine AL.s rfl (op_moveD (.e rfl)) ?_
  refine AL.sF rfl rfl rfl rfl (fun g => op_moveD (.e rfl)) ?_
  refine AL.sF rfl rfl rfl rfl (fun g => op_lenM (f := (D.int .u8)) (.we (nt g) rfl rfl) sl48) ?_
  refine AL.sF rfl rfl rfl rfl (fun g => op_gtr (.we (nt g) rfl rfl) (.r rfl)) ?_
  refine AL.s rfl (op_or (.r rfl) rfl (fun h => (.we (nt h) rfl rfl))) ?_
  refine AL.nil ?_
  refine AW.cond (b := _) rfl (fun hc1 => ?_) (fun hc1 => ?_)
  · replace hm := iteT hc1 hm
    refine AW.seqR ?_
    obtain ⟨v6, hv6, hm⟩ := bindE hm
    refine AL.s rfl (op_fn Try.call11 (.e rfl) .nil (m_law32_awake_ok hv6)) ?_
    refine AL.s rfl (op_assignD (.e rfl)) ?_
    refine AL.nil ?_
    refine AW.ret ?_
    refine tq_ret ?_
    obtain rfl := Option.some.inj hm
    exact EndQ.d (.tmp (.e rfl) .nil) rfl rfl
  · replace hm := iteF hc1 hm
    refine AW.skip ?_
    refine nq ?_
    refine AW.seqR ?_
    refine AL.s rfl (op_moveD (.e rfl)) ?_
    refine AL.s rfl (op_assignD (.e rfl)) ?_
    refine AL.nil ?_
    obtain ⟨t_j1, hm, hkj1⟩ := bindE hm
    refine AW.cutS (α := Int) 0 (fun x => x = t_j1) (fun x => [(0, .d (.sl (a1.map SConstraint.e))), (1, .d (.int .i64 a2)), (2, .d (.sl (a3.map (D.int .u8)))), (7, .d (.int .i64 x))]) (fun x => []) (WOK.g0 hw0 (by simp)) ?_ ?_
    · skip
      refine AW.reset 0 [(0, .d (.sl (a1.map SConstraint.e))), (1, .d (.int .i64 a2)), (2, .d (.sl (a3.map (D.int .u8)))), (7, .d (.int .i64 a2))] [] (WOK.g0 hw0 (by simp)) ⟨[], rfl, rfl, rfl, ⟨(.d rfl), (.d rfl), (.d rfl), (.d rfl), trivial⟩, trivial, .nil⟩ ?_
      refine AW.seqR ?_
      refine AL.s rfl (op_moveD (.e rfl)) ?_
      refine AL.s rfl (op_lenM (f := (D.int .u8)) (.r rfl) sl48) ?_
      refine AL.s rfl (op_moveD (.e rfl)) ?_
      refine AL.nil ?_
      refine AW.block ?_
      obtain ⟨t_1, hI1, hk1⟩ := bindE hm
      refine AW.loopS (σ := (Int × Int)) (τ := Int) 0 (fun x => [(0, .d (.sl (a1.map SConstraint.e))), (1, .d (.int .i64 a2)), (2, .d (.sl (a3.map (D.int .u8)))), (7, .d (.int .i64 x.1)), (41, .d (.sl (a3.map (D.int .u8)))), (42, .d (.int .i64 (a3.length : Int))), (43, .d (.int .i64 x.2))]) (fun x => []) hI1 (WOK.g0 hw0 (by simp)) ⟨[], rfl, rfl, rfl, ⟨(.d rfl), (.d rfl), (.d rfl), (.d rfl), (.d rfl), (.d rfl), (.d rfl), trivial⟩, trivial, .nil⟩ ?_
      rintro n1 ⟨s7, s8⟩ hI1
      obtain ⟨y_1, hm, hI1⟩ := iterS hI1
      replace hm : m_law32_ConstraintShortest_L1 n _ _ s7 s8 = some y_1 := hm
      unfold m_law32_ConstraintShortest_L1 at hm
      try dsimp only at hm
      refine AW.seqR ?_
      refine AL.s rfl (op_lss (.r rfl) (.r rfl)) ?_
      refine AL.nil ?_
      refine AW.seq ?_
      refine AW.cond (b := _) rfl (fun hc2 => ?_) (fun hc2 => ?_)
      · replace hm := iteT hc2 hm
        refine AW.skip ?_
        refine nq ?_
        obtain ⟨t_j2, hm, hkj2⟩ := bindE hm
        refine AW.cutS (α := Int) 0 (fun x => (.inr x) = t_j2) (fun x => [(0, .d (.sl (a1.map SConstraint.e))), (1, .d (.int .i64 a2)), (2, .d (.sl (a3.map (D.int .u8)))), (7, .d (.int .i64 x)), (41, .d (.sl (a3.map (D.int .u8)))), (42, .d (.int .i64 (a3.length : Int))), (43, .d (.int .i64 s8))]) (fun x => []) (WOK.g0 hw0 (by simp)) ?_ ?_
        · skip
          refine AW.block ?_
          refine AW.reset 0 [(0, .d (.sl (a1.map SConstraint.e))), (1, .d (.int .i64 a2)), (2, .d (.sl (a3.map (D.int .u8)))), (7, .d (.int .i64 s7)), (41, .d (.sl (a3.map (D.int .u8)))), (42, .d (.int .i64 (a3.length : Int))), (43, .d (.int .i64 s8))] [] (WOK.g0 hw0 (by simp)) ⟨[], rfl, rfl, rfl, ⟨(.d rfl), (.d rfl), (.d rfl), (.d rfl), (.d rfl), (.d rfl), (.d rfl), trivial⟩, trivial, .nil⟩ ?_
          refine AW.seqR ?_
          obtain ⟨v9, hv9, hm⟩ := bindE hm
          refine AL.s rfl (op_indexAddrM (f := (D.int .u8)) (.r rfl) (.r rfl) hv9 En.int sl48) ?_
          refine AL.s rfl (op_load_vp1 (.e rfl) rfl sc5) ?_
          refine AL.s rfl (op_assignD (.e rfl)) ?_
          refine AL.nil ?_
          refine AW.seq ?_
          refine AW.seqR ?_
          refine AL.s rfl (op_moveD (.e rfl)) ?_
          refine AL.s rfl (op_lenM (f := SConstraint.e) (.r rfl) sl22) ?_
          refine AL.s rfl (op_eql (.r rfl) (.r rfl)) ?_
          refine AL.nil ?_
          refine AW.cond (b := _) rfl (fun hc3 => ?_) (fun hc3 => ?_)
          · replace hm := iteT hc3 hm
            refine AW.exit ?_
            refine tq_exit ?_
            refine bq_miss rfl ?_
            refine tq_exit ?_
            obtain rfl := Option.some.inj hm
            replace hm := hkj2
            try dsimp only at hm
            refine tq_exit ?_
            obtain rfl := Option.some.inj hm
            obtain rfl := Option.some.inj hI1
            replace hm := hk1
            try dsimp only at hm
            refine bq_hit ?_
            obtain rfl := Option.some.inj hm
            exact nq ⟨_, rfl, ⟨[], rfl, rfl, rfl, ⟨(.d rfl), (.d rfl), (.d rfl), (.d rfl), trivial⟩, trivial, .nil⟩⟩
          · replace hm := iteF hc3 hm
            refine AW.skip ?_
            refine nq ?_
            refine AW.seqR ?_
            refine AL.s rfl (op_moveD (.e rfl)) ?_
            refine AL.s rfl (op_moveD (.e rfl)) ?_
            refine AL.s rfl (op_conv_int (.r rfl) ⟨_, Try.underlying5⟩ Try.underlying3) ?_
            refine AL.s rfl (op_moveD (.e rfl)) ?_
            refine AL.s rfl (op_lenM (f := SConstraint.e) (.r rfl) sl22) ?_
            obtain ⟨v10, hv10, hm⟩ := bindE hm
            refine AL.s rfl (op_remM (.r rfl) (.r rfl) hv10) ?_
            obtain ⟨v11, hv11, hm⟩ := bindE hm
            refine AL.s rfl (op_indexAddrM (f := SConstraint.e) (.r rfl) (.r rfl) hv11 enSConstraint sl22) ?_
            refine AL.s rfl (op_loadA (.e rfl) rfl ag50) ?_
            refine AL.s rfl (op_alloc (n := 0) zr50 rfl) ?_
            refine AL.s rfl (op_store (.e rfl) (.e rfl) rfl rfl rfl ⟨_, rfl, rfl⟩ rfl (Nat.le_of_ble_eq_true rfl)) ?_
            refine AL.nil ?_
            refine AW.block ?_
            refine AW.seqR ?_
            refine AL.s rfl (op_field_ptr (.e rfl) fd50_0) ?_
            refine AL.s rfl (op_load_ptr1 (.e rfl) rfl rfl sc3) ?_
            refine AL.s rfl (op_eql (.r rfl) (.r rfl)) ?_
            refine AL.s rfl (op_moveD (.e rfl)) ?_
            refine AL.sT rfl rfl rfl rfl (fun g => op_field_ptr (.e rfl) fd50_1) ?_
            refine AL.sT rfl rfl rfl rfl (fun g => op_load_ptr1 (.we g rfl) rfl rfl sc3) ?_
            refine AL.sT rfl rfl rfl rfl (fun g => op_moveD (.e rfl)) ?_
            refine AL.sT rfl rfl rfl rfl (fun g => op_eql (.we g rfl rfl) (.we g rfl rfl)) ?_
            refine AL.s rfl (op_and (.r rfl) (fun h => (.we h rfl rfl)) rfl) ?_
            refine AL.s rfl (op_assignD (.e rfl)) ?_
            refine AL.nil ?_
            refine AW.cond (b := _) rfl (fun hc4 => ?_) (fun hc4 => ?_)
            · replace hm := iteT hc4 hm
              refine AW.region ?_
              refine AL.s rfl (op_field_ptr (.e rfl) fd50_2) ?_
              refine AL.s rfl (op_load_ptr1 (.e rfl) rfl rfl sc3) ?_
              refine AL.s rfl (op_assignD (.e rfl)) ?_
              refine AL.nil ?_
              refine bq_n ?_
              refine bq_n ?_
              obtain rfl := Option.some.inj hm
              exact nq ⟨_, rfl, ⟨[], rfl, rfl, rfl, ⟨(.d rfl), (.d rfl), (.d rfl), (.d rfl), (.d rfl), (.d rfl), (.d rfl), trivial⟩, trivial, .nil⟩⟩
            · replace hm := iteF hc4 hm
              refine AW.seqR ?_
              refine AL.s rfl (op_field_ptr (.e rfl) fd50_0) ?_
              refine AL.s rfl (op_load_ptr1 (.e rfl) rfl rfl sc3) ?_
              refine AL.s rfl (op_eql (.r rfl) (.r rfl)) ?_
              refine AL.s rfl (op_moveD (.e rfl)) ?_
              refine AL.sT rfl rfl rfl rfl (fun g => op_field_ptr (.e rfl) fd50_2) ?_
              refine AL.sT rfl rfl rfl rfl (fun g => op_load_ptr1 (.we g rfl) rfl rfl sc3) ?_
              refine AL.sT rfl rfl rfl rfl (fun g => op_moveD (.e rfl)) ?_
              refine AL.sT rfl rfl rfl rfl (fun g => op_eql (.we g rfl rfl) (.we g rfl rfl)) ?_
              refine AL.s rfl (op_and (.r rfl) (fun h => (.we h rfl rfl)) rfl) ?_
              refine AL.s rfl (op_assignD (.e rfl)) ?_
              refine AL.nil ?_
              refine AW.cond (b := _) rfl (fun hc5 => ?_) (fun hc5 => ?_)
              · replace hm := iteT hc5 hm
                refine AW.region ?_
                refine AL.s rfl (op_field_ptr (.e rfl) fd50_1) ?_
                refine AL.s rfl (op_load_ptr1 (.e rfl) rfl rfl sc3) ?_
                refine AL.s rfl (op_assignD (.e rfl)) ?_
                refine AL.nil ?_
                refine bq_n ?_
                refine bq_n ?_
                obtain rfl := Option.some.inj hm
                exact nq ⟨_, rfl, ⟨[], rfl, rfl, rfl, ⟨(.d rfl), (.d rfl), (.d rfl), (.d rfl), (.d rfl), (.d rfl), (.d rfl), trivial⟩, trivial, .nil⟩⟩
              · replace hm := iteF hc5 hm
                refine AW.skip ?_
                refine bq_n ?_
                refine bq_n ?_
                obtain rfl := Option.some.inj hm
                exact nq ⟨_, rfl, ⟨[], rfl, rfl, rfl, ⟨(.d rfl), (.d rfl), (.d rfl), (.d rfl), (.d rfl), (.d rfl), (.d rfl), trivial⟩, trivial, .nil⟩⟩
        · rintro s12 rfl
          replace hm := hkj2
          try dsimp only at hm
          refine AW.region ?_
          refine AL.s rfl (op_addw (.r rfl) (.r rfl)) ?_
          refine AL.s rfl (op_moveD (.e rfl)) ?_
          refine AL.nil ?_
          obtain rfl := Option.some.inj hm
          exact nq ⟨_, hI1, ⟨[], rfl, rfl, rfl, ⟨(.d rfl), (.d rfl), (.d rfl), (.d rfl), (.d rfl), (.d rfl), (.d rfl), trivial⟩, trivial, .nil⟩⟩
      · replace hm := iteF hc2 hm
        refine AW.exit ?_
        refine tq_exit ?_
        refine tq_exit ?_
        obtain rfl := Option.some.inj hm
        obtain rfl := Option.some.inj hI1
        replace hm := hk1
        try dsimp only at hm
        refine bq_hit ?_
        obtain rfl := Option.some.inj hm
        exact nq ⟨_, rfl, ⟨[], rfl, rfl, rfl, ⟨(.d rfl), (.d rfl), (.d rfl), (.d rfl), trivial⟩, trivial, .nil⟩⟩
    · rintro s13 rfl
      replace hm := hkj1
      try dsimp only at hm
      refine AW.seqR ?_
      refine AL.s rfl (op_moveD (.e rfl)) ?_
      refine AL.s rfl (op_moveD (.e rfl)) ?_
      refine AL.s rfl (op_moveD (.e rfl)) ?_
      obtain ⟨v14, hv14, hm⟩ := bindE hm
      refine AL.s rfl (op_fn Try.call22 (.e rfl) (.cons (.r rfl) (.cons (.r rfl) (.cons (.r rfl) .nil))) (m_constraint_Path_ok hv14)) ?_
      refine AL.s rfl (op_moveD (.e rfl)) ?_
      refine AL.s rfl (op_extractD (.e rfl) rfl) ?_
      refine AL.s rfl (op_extractD (.e rfl) rfl) ?_
      refine AL.s rfl (op_assignD (.e rfl)) ?_
      refine AL.s rfl (op_assignD (.e rfl)) ?_
      refine AL.nil ?_
      refine AW.seq ?_
      refine AW.seqR ?_
      refine AL.s rfl (op_moveD (.e rfl)) ?_
      refine AL.s rfl (op_neq (.r rfl) (.r rfl)) ?_
      refine AL.s rfl (op_moveD (.e rfl)) ?_
      refine AL.sF rfl rfl rfl rfl (fun g => op_moveD (.e rfl)) ?_
      refine AL.sF rfl rfl rfl rfl (fun g => op_lenM (f := D.i) (.we (nt g) rfl rfl) sl42) ?_
      refine AL.sF rfl rfl rfl rfl (fun g => op_lss (.we (nt g) rfl rfl) (.r rfl)) ?_
      refine AL.s rfl (op_or (.r rfl) rfl (fun h => (.we (nt h) rfl rfl))) ?_
      refine AL.s rfl (op_moveD (.e rfl)) ?_
      refine AL.sF rfl rfl rfl rfl (fun g => op_moveD (.e rfl)) ?_
      refine AL.sF rfl rfl rfl rfl (fun g => op_lenM (f := D.i) (.we (nt g) rfl rfl) sl42) ?_
      refine AL.sF rfl rfl rfl rfl (fun g => op_moveD (.e rfl)) ?_
      refine AL.sF rfl rfl rfl rfl (fun g => op_lenM (f := (D.int .u8)) (.we (nt g) rfl rfl) sl48) ?_
      refine AL.sF rfl rfl rfl rfl (fun g => op_addw (.we (nt g) rfl rfl) (.r rfl)) ?_
      refine AL.sF rfl rfl rfl rfl (fun g => op_gtr (.we (nt g) rfl rfl) (.we (nt g) rfl rfl)) ?_
      refine AL.s rfl (op_or (.r rfl) rfl (fun h => (.we (nt h) rfl rfl))) ?_
      refine AL.s rfl (op_moveD (.e rfl)) ?_
      refine AL.sF rfl rfl rfl rfl (fun g => op_moveD (.e rfl)) ?_
      obtain ⟨v15, hv15, hm⟩ := bindE hm
      refine AL.sF rfl rfl rfl rfl (fun g => op_indexAddrM (f := D.i) (.we (nt g) rfl rfl) (.r rfl) (iteT (nt g) hv15) En.i sl42) ?_
      refine AL.sF rfl rfl rfl rfl (fun g => op_load_vp1 (.we (nt g) rfl) rfl sc3) ?_
      refine AL.sF rfl rfl rfl rfl (fun g => op_moveD (.e rfl)) ?_
      refine AL.sF rfl rfl rfl rfl (fun g => op_neq (.we (nt g) rfl rfl) (.we (nt g) rfl rfl)) ?_
      refine AL.s rfl (op_or (.r rfl) rfl (fun h => (.we (nt h) rfl rfl))) ?_
      refine AL.s rfl (op_moveD (.e rfl)) ?_
      refine AL.sF rfl rfl rfl rfl (fun g => op_moveD (.e rfl)) ?_
      refine AL.sF rfl rfl rfl rfl (fun g => op_moveD (.e rfl)) ?_
      refine AL.sF rfl rfl rfl rfl (fun g => op_lenM (f := D.i) (.we (nt g) rfl rfl) sl42) ?_
      refine AL.sF rfl rfl rfl rfl (fun g => op_subw (.we (nt g) rfl rfl) (.r rfl)) ?_
      obtain ⟨v16, hv16, hm⟩ := bindE hm
      refine AL.sF rfl rfl rfl rfl (fun g => op_indexAddrM (f := D.i) (.we (nt g) rfl rfl) (.we (nt g) rfl rfl) (iteT (nt g) hv16) En.i sl42) ?_
      refine AL.sF rfl rfl rfl rfl (fun g => op_load_vp1 (.we (nt g) rfl) rfl sc3) ?_
      refine AL.sF rfl rfl rfl rfl (fun g => op_moveD (.e rfl)) ?_
      refine AL.sF rfl rfl rfl rfl (fun g => op_neq (.we (nt g) rfl rfl) (.we (nt g) rfl rfl)) ?_
      refine AL.s rfl (op_or (.r rfl) rfl (fun h => (.we (nt h) rfl rfl))) ?_
      refine AL.nil ?_
      refine AW.cond (b := _) rfl (fun hc6 => ?_) (fun hc6 => ?_)
      · replace hm := iteT hc6 hm
        refine AW.reset 0 [] [] (WOK.g0 hw0 (by simp)) ⟨[], rfl, rfl, rfl, trivial, trivial, .nil⟩ ?_
        refine AW.seqR ?_
        refine AL.s rfl (op_assignD (.e rfl)) ?_
        refine AL.nil ?_
        refine AW.ret ?_
        refine tq_ret ?_
        obtain rfl := Option.some.inj hm
        exact EndQ.d (.tmp (.e rfl) .nil) rfl rfl
      · replace hm := iteF hc6 hm
        refine AW.skip ?_
        refine nq ?_
        refine AW.seq ?_
        refine AW.seqR ?_
        refine AL.s rfl (op_moveD (.e rfl)) ?_
        refine AL.s rfl (op_lenM (f := D.i) (.r rfl) sl42) ?_
        refine AL.s rfl (op_moveD (.e rfl)) ?_
        refine AL.nil ?_
        refine AW.block ?_
        obtain ⟨t_2, hI2, hk2⟩ := bindE hm
        refine AW.loopS (σ := Int) (τ := (Bool ⊕ Unit)) 0 (fun x => [(0, .d (.sl (a1.map SConstraint.e))), (11, .d (.sl (v14.1.map D.i))), (123, .d (.int .i64 (v14.1.length : Int))), (124, .d (.int .i64 x))]) (fun x => []) hI2 (WOK.g0 hw0 (by simp)) ⟨[], rfl, rfl, rfl, ⟨(.d rfl), (.d rfl), (.d rfl), (.d rfl), trivial⟩, trivial, .nil⟩ ?_
        rintro n2 s17 hI2
        obtain ⟨y_2, hm, hI2⟩ := iterS hI2
        replace hm : m_law32_ConstraintShortest_L2 n _ _ s17 = some y_2 := hm
        unfold m_law32_ConstraintShortest_L2 at hm
        try dsimp only at hm
        refine AW.seqR ?_
        refine AL.s rfl (op_lss (.r rfl) (.r rfl)) ?_
        refine AL.nil ?_
        refine AW.seq ?_
        refine AW.cond (b := _) rfl (fun hc7 => ?_) (fun hc7 => ?_)
        · replace hm := iteT hc7 hm
          refine AW.skip ?_
          refine nq ?_
          refine AW.seq ?_
          refine AW.block ?_
          refine AW.seqR ?_
          refine AL.s rfl (op_moveD (.e rfl)) ?_
          refine AL.s rfl (op_assignD (.e rfl)) ?_
          refine AL.nil ?_
          refine AW.seqD [([], []), ([], []), ([], []), ([], []), ([], []), ([], []), ([], []), ([], []), ([], []), ([], []), ([], []), ([], []), ([], []), ([], []), ([], []), ([], []), ([], []), ([], []), ([], []), ([], []), ([], []), ([], []), ([], []), ([], []), ([], []), ([], [])] mo (by decide +kernel) ?_
          refine AD.s (ws := []) rfl rfl (fun H' _ hH => op_moveD (.e rfl)) ?_
          refine AD.s (ws := []) rfl rfl (fun H' _ hH => op_gtr (.r rfl) (.r rfl)) ?_
          refine AD.s (ws := []) rfl rfl (fun H' _ hH => op_moveD (.e rfl)) ?_
          refine AD.sT rfl rfl rfl rfl (fun g H' _ hH => op_moveD (.e rfl)) ?_
          refine AD.sT rfl rfl rfl rfl (fun g H' _ hH => op_moveD (.e rfl)) ?_
          refine AD.sT rfl rfl rfl rfl (fun g H' _ hH => op_moveD (.e rfl)) ?_
          refine AD.sT rfl rfl rfl rfl (fun g H' _ hH => op_subw (.we g rfl rfl) (.r rfl)) ?_
          obtain ⟨v18, hv18, hm⟩ := bindE hm
          refine AD.sT rfl rfl rfl rfl (fun g H' _ hH => op_indexAddrM (f := D.i) (.we g rfl rfl) (.we g rfl rfl) (iteT g hv18) En.i sl42) ?_
          refine AD.sT rfl rfl rfl rfl (fun g H' _ hH => op_load_vp1 (.we g rfl) rfl sc3) ?_
          refine AD.sT rfl rfl rfl rfl (fun g H' _ hH => op_moveD (.e rfl)) ?_
          refine AD.sT rfl rfl rfl rfl (fun g H' _ hH => op_moveD (.e rfl)) ?_
          obtain ⟨v19, hv19, hm⟩ := bindE hm
          refine AD.sT rfl rfl rfl rfl (fun g H' _ hH => op_indexAddrM (f := D.i) (.we g rfl rfl) (.we g rfl rfl) (iteT g hv19) En.i sl42) ?_
          refine AD.sT rfl rfl rfl rfl (fun g H' _ hH => op_load_vp1 (.we g rfl) rfl sc3) ?_
          obtain ⟨v20, hv20, hm⟩ := bindE hm
          refine AD.sT rfl rfl rfl rfl (fun g H' _ hH => op_fn Try.call26 (.e rfl) (.cons (.we g rfl rfl) (.cons (.we g rfl rfl) (.cons (.we g rfl rfl) .nil))) (m_ref32_Linked_ok (iteT g hv20))) ?_
          refine AD.sT rfl rfl rfl rfl (fun g H' _ hH => op_not (.we g rfl rfl)) ?_
          refine AD.s (ws := []) rfl rfl (fun H' _ hH => op_and (.r rfl) (fun h => (.we h rfl rfl)) rfl) ?_
          refine AD.s (ws := []) rfl rfl (fun H' _ hH => op_moveD (.e rfl)) ?_
          refine AD.sF rfl rfl rfl rfl (fun g H' _ hH => op_moveD (.e rfl)) ?_
          refine AD.sF rfl rfl rfl rfl (fun g H' _ hH => op_moveD (.e rfl)) ?_
          obtain ⟨v21, hv21, hm⟩ := bindE hm
          refine AD.sF rfl rfl rfl rfl (fun g H' _ hH => op_sliceM (f := D.i) (.we (nt g) rfl rfl) sl42 rfl (.we (nt g) rfl rfl) En.i (iteT (nt g) hv21)) ?_
          refine AD.sF rfl rfl rfl rfl (fun g H' _ hH => op_moveD (.e rfl)) ?_
          refine AD.sF rfl rfl rfl rfl (fun g H' _ hH => op_moveD (.e rfl)) ?_
          obtain ⟨v22, hv22, hm⟩ := bindE hm
          refine AD.sF rfl rfl rfl rfl (fun g H' _ hH => op_indexAddrM (f := D.i) (.we (nt g) rfl rfl) (.we (nt g) rfl rfl) (iteT (nt g) hv22) En.i sl42) ?_
          refine AD.sF rfl rfl rfl rfl (fun g H' _ hH => op_load_vp1 (.we (nt g) rfl) rfl sc3) ?_
          obtain ⟨v23, hv23, hm⟩ := bindE hm
          refine AD.sF rfl rfl rfl rfl (fun g H' _ hH => op_fn Try.call27 (.e rfl) (.cons (.we (nt g) rfl rfl) (.cons (.we (nt g) rfl rfl) .nil)) (m_ref32_Has_ok (iteT (nt g) hv23))) ?_
          refine AD.s (ws := []) rfl rfl (fun H' _ hH => op_or (.r rfl) rfl (fun h => (.we (nt h) rfl rfl))) ?_
          refine AD.nil ?_
          refine AW.cond (b := _) rfl (fun hc8 => ?_) (fun hc8 => ?_)
          · replace hm := iteT hc8 hm
            refine AW.seqR ?_
            refine AL.s rfl (op_assignD (.e rfl)) ?_
            refine AL.nil ?_
            refine AW.ret ?_
            refine bq_ret ?_
            refine tq_ret ?_
            refine tq_ret ?_
            obtain rfl := Option.some.inj hm
            obtain rfl := Option.some.inj hI2
            replace hm := hk2
            try dsimp only at hm
            refine bq_ret ?_
            refine tq_ret ?_
            obtain rfl := Option.some.inj hm
            exact EndQ.d (.tmp (.e rfl) .nil) rfl rfl
          · replace hm := iteF hc8 hm
            refine AW.skip ?_
            refine bq_n ?_
            refine nq ?_
            refine AW.region ?_
            refine AL.s rfl (op_addw (.r rfl) (.r rfl)) ?_
            refine AL.s rfl (op_moveD (.e rfl)) ?_
            refine AL.nil ?_
            obtain rfl := Option.some.inj hm
            exact nq ⟨_, hI2, ⟨[], rfl, rfl, rfl, ⟨(.d rfl), (.d rfl), (.d rfl), (.d rfl), trivial⟩, trivial, .nil⟩⟩
        · replace hm := iteF hc7 hm
          refine AW.exit ?_
          refine tq_exit ?_
          refine tq_exit ?_
          obtain rfl := Option.some.inj hm
          obtain rfl := Option.some.inj hI2
          replace hm := hk2
          try dsimp only at hm
          refine bq_hit ?_
          refine nq ?_
          refine AW.seqR ?_
          refine AL.s rfl (op_moveD (.e rfl)) ?_
          obtain ⟨v24, hv24, hm⟩ := bindE hm
          refine AL.s rfl (op_fn Try.call16 (.e rfl) (.cons (.r rfl) .nil) (m_constraint_Conflicts_ok hv24)) ?_
          refine AL.s rfl (op_moveD (.e rfl)) ?_
          refine AL.s rfl (op_extractD (.e rfl) rfl) ?_
          refine AL.s rfl (op_extractD (.e rfl) rfl) ?_
          refine AL.s rfl (op_assignD (.e rfl)) ?_
          refine AL.s rfl (op_assignD (.e rfl)) ?_
          refine AL.nil ?_
          refine AW.seq ?_
          refine AW.seqR ?_
          refine AL.s rfl (op_moveD (.e rfl)) ?_
          refine AL.s rfl (op_lenM (f := SConflict.e) (.r rfl) sl32) ?_
          refine AL.s rfl (op_moveD (.e rfl)) ?_
          refine AL.nil ?_
          refine AW.block ?_
          obtain ⟨t_3, hI3, hk3⟩ := bindE hm
          refine AW.loopS (σ := Int) (τ := (Bool ⊕ Unit)) 0 (fun x => [(0, .d (.sl (a1.map SConstraint.e))), (15, .d (.int .i64 v24.2)), (159, .d (.sl (v24.1.map SConflict.e))), (160, .d (.int .i64 (v24.1.length : Int))), (161, .d (.int .i64 x))]) (fun x => []) hI3 (WOK.g0 hw0 (by simp)) ⟨[], rfl, rfl, rfl, ⟨(.d rfl), (.d rfl), (.d rfl), (.d rfl), (.d rfl), trivial⟩, trivial, .nil⟩ ?_
          rintro n3 s25 hI3
          obtain ⟨y_3, hm, hI3⟩ := iterS hI3
          replace hm : m_law32_ConstraintShortest_L3 n _ _ s25 = some y_3 := hm
          unfold m_law32_ConstraintShortest_L3 at hm
          try dsimp only at hm
          refine AW.seqR ?_
          refine AL.s rfl (op_lss (.r rfl) (.r rfl)) ?_
          refine AL.nil ?_
          refine AW.seq ?_
          refine AW.cond (b := _) rfl (fun hc9 => ?_) (fun hc9 => ?_)
          · replace hm := iteT hc9 hm
            refine AW.skip ?_
            refine nq ?_
            refine AW.seq ?_
            refine AW.block ?_
            refine AW.seqR ?_
            obtain ⟨v26, hv26, hm⟩ := bindE hm
            refine AL.s rfl (op_indexAddrM (f := SConflict.e) (.r rfl) (.r rfl) hv26 enSConflict sl32) ?_
            refine AL.s rfl (op_loadA (.e rfl) rfl ag55) ?_
            refine AL.s rfl (op_alloc (n := 0) zr55 rfl) ?_
            refine AL.s rfl (op_store (.e rfl) (.e rfl) rfl rfl rfl ⟨_, rfl, rfl⟩ rfl (Nat.le_of_ble_eq_true rfl)) ?_
            refine AL.nil ?_
            refine AW.seqR ?_
            refine AL.s rfl (op_field_ptr (.e rfl) fd55_1) ?_
            refine AL.s rfl (op_load_ptr1 (.e rfl) rfl rfl sc42) ?_
            refine AL.s rfl (op_lenM (f := D.i) (.r rfl) sl42) ?_
            refine AL.s rfl (op_assignD (.e rfl)) ?_
            refine AL.nil ?_
            refine AW.seq ?_
            refine AW.seqD [([], []), ([], []), ([], []), ([], []), ([0], []), ([], []), ([], []), ([], []), ([], []), ([0], []), ([], []), ([], []), ([], []), ([], []), ([0], []), ([], []), ([], []), ([], []), ([], []), ([], []), ([], []), ([0], []), ([], []), ([], []), ([], []), ([], []), ([], []), ([0], []), ([], []), ([], []), ([0], []), ([], []), ([], [])] mo (by decide +kernel) ?_
            refine AD.s (ws := []) rfl rfl (fun H' _ hH => op_moveD (.e rfl)) ?_
            refine AD.s (ws := []) rfl rfl (fun H' _ hH => op_lss (.r rfl) (.r rfl)) ?_
            refine AD.s (ws := []) rfl rfl (fun H' _ hH => op_moveD (.e rfl)) ?_
            refine AD.sF rfl rfl rfl rfl (fun g H' _ hH => op_field_ptr (.e rfl) fd55_1) ?_
            refine AD.sF rfl rfl rfl rfl (fun g H' _ hH => op_load_ptr1 (.we (nt g) rfl) ((hH _ (by simp)).trans rfl) rfl sc42) ?_
            obtain ⟨v27, hv27, hm⟩ := bindE hm
            refine AD.sF rfl rfl rfl rfl (fun g H' _ hH => op_indexAddrM (f := D.i) (.we (nt g) rfl rfl) (.r rfl) (iteT (nt g) hv27) En.i sl42) ?_
            refine AD.sF rfl rfl rfl rfl (fun g H' _ hH => op_load_vp1 (.we (nt g) rfl) rfl sc3) ?_
            refine AD.sF rfl rfl rfl rfl (fun g H' _ hH => op_field_ptr (.e rfl) fd55_0) ?_
            refine AD.sF rfl rfl rfl rfl (fun g H' _ hH => op_field_ptr (.we (nt g) rfl) fd53_0) ?_
            refine AD.sF rfl rfl rfl rfl (fun g H' _ hH => op_load_ptr1 (.we (nt g) rfl) ((hH _ (by simp)).trans rfl) rfl sc3) ?_
            refine AD.sF rfl rfl rfl rfl (fun g H' _ hH => op_neq (.we (nt g) rfl rfl) (.we (nt g) rfl rfl)) ?_
            refine AD.s (ws := []) rfl rfl (fun H' _ hH => op_or (.r rfl) rfl (fun h => (.we (nt h) rfl rfl))) ?_
            refine AD.s (ws := []) rfl rfl (fun H' _ hH => op_moveD (.e rfl)) ?_
            refine AD.sF rfl rfl rfl rfl (fun g H' _ hH => op_field_ptr (.e rfl) fd55_1) ?_
            refine AD.sF rfl rfl rfl rfl (fun g H' _ hH => op_load_ptr1 (.we (nt g) rfl) ((hH _ (by simp)).trans rfl) rfl sc42) ?_
            refine AD.sF rfl rfl rfl rfl (fun g H' _ hH => op_moveD (.e rfl)) ?_
            refine AD.sF rfl rfl rfl rfl (fun g H' _ hH => op_subw (.we (nt g) rfl rfl) (.r rfl)) ?_
            obtain ⟨v28, hv28, hm⟩ := bindE hm
            refine AD.sF rfl rfl rfl rfl (fun g H' _ hH => op_indexAddrM (f := D.i) (.we (nt g) rfl rfl) (.we (nt g) rfl rfl) (iteT (nt g) hv28) En.i sl42) ?_
            refine AD.sF rfl rfl rfl rfl (fun g H' _ hH => op_load_vp1 (.we (nt g) rfl) rfl sc3) ?_
            refine AD.sF rfl rfl rfl rfl (fun g H' _ hH => op_field_ptr (.e rfl) fd55_0) ?_
            refine AD.sF rfl rfl rfl rfl (fun g H' _ hH => op_field_ptr (.we (nt g) rfl) fd53_1) ?_
            refine AD.sF rfl rfl rfl rfl (fun g H' _ hH => op_load_ptr1 (.we (nt g) rfl) ((hH _ (by simp)).trans rfl) rfl sc3) ?_
            refine AD.sF rfl rfl rfl rfl (fun g H' _ hH => op_neq (.we (nt g) rfl rfl) (.we (nt g) rfl rfl)) ?_
            refine AD.s (ws := []) rfl rfl (fun H' _ hH => op_or (.r rfl) rfl (fun h => (.we (nt h) rfl rfl))) ?_
            refine AD.s (ws := []) rfl rfl (fun H' _ hH => op_moveD (.e rfl)) ?_
            refine AD.sF rfl rfl rfl rfl (fun g H' _ hH => op_field_ptr (.e rfl) fd55_0) ?_
            refine AD.sF rfl rfl rfl rfl (fun g H' _ hH => op_field_ptr (.we (nt g) rfl) fd53_0) ?_
            refine AD.sF rfl rfl rfl rfl (fun g H' _ hH => op_load_ptr1 (.we (nt g) rfl) ((hH _ (by simp)).trans rfl) rfl sc3) ?_
            refine AD.sF rfl rfl rfl rfl (fun g H' _ hH => op_field_ptr (.e rfl) fd55_0) ?_
            refine AD.sF rfl rfl rfl rfl (fun g H' _ hH => op_field_ptr (.we (nt g) rfl) fd53_1) ?_
            refine AD.sF rfl rfl rfl rfl (fun g H' _ hH => op_load_ptr1 (.we (nt g) rfl) ((hH _ (by simp)).trans rfl) rfl sc3) ?_
            refine AD.sF rfl rfl rfl rfl (fun g H' _ hH => op_geq (.we (nt g) rfl rfl) (.we (nt g) rfl rfl)) ?_
            refine AD.s (ws := []) rfl rfl (fun H' _ hH => op_or (.r rfl) rfl (fun h => (.we (nt h) rfl rfl))) ?_
            refine AD.nil ?_
            refine AW.cond (b := _) rfl (fun hc10 => ?_) (fun hc10 => ?_)
            · replace hm := iteT hc10 hm
              refine AW.reset 0 [] [.row [.d (.int .i64 v26.fPair.fA), .d (.int .i64 v26.fPair.fB), .d (.sl (v26.fPath.map D.i))]] (WOK.g0 hw0 (by simp)) ⟨[0], rfl, rfl, rfl, trivial, trivial, (.row rfl (.cons (.d rfl) (.cons (.d rfl) (.cons (.d rfl) .nil))) .nil)⟩ ?_
              refine AW.seqR ?_
              refine AL.s rfl (op_assignD (.e rfl)) ?_
              refine AL.nil ?_
              refine AW.ret ?_
              refine tq_ret ?_
              refine bq_ret ?_
              refine tq_ret ?_
              refine tq_ret ?_
              obtain rfl := Option.some.inj hm
              obtain rfl := Option.some.inj hI3
              replace hm := hk3
              try dsimp only at hm
              refine bq_ret ?_
              refine tq_ret ?_
              obtain rfl := Option.some.inj hm
              exact EndQ.d (.tmp (.e rfl) .nil) rfl rfl
            · replace hm := iteF hc10 hm
              refine AW.skip ?_
              refine nq ?_
              refine AW.seqR ?_
              refine AL.s rfl (op_assignD (.e rfl)) ?_
              refine AL.nil ?_
              refine AW.seq ?_
              refine AW.seqR ?_
              refine AL.s rfl (op_moveD (.e rfl)) ?_
              refine AL.s rfl (op_lenM (f := SConstraint.e) (.r rfl) sl22) ?_
              refine AL.s rfl (op_moveD (.e rfl)) ?_
              refine AL.nil ?_
              refine AW.block ?_
              obtain ⟨t_4, hI4, hk4⟩ := bindE hm
              refine AW.loopS (σ := (Bool × Int)) (τ := Bool) 0 (fun x => [(0, .d (.sl (a1.map SConstraint.e))), (15, .d (.int .i64 v24.2)), (17, .ptr 0 0), (19, .d (.bool x.1)), (159, .d (.sl (v24.1.map SConflict.e))), (160, .d (.int .i64 (v24.1.length : Int))), (161, .d (.int .i64 s25)), (201, .d (.sl (a1.map SConstraint.e))), (202, .d (.int .i64 (a1.length : Int))), (203, .d (.int .i64 x.2))]) (fun x => [.row [.d (.int .i64 v26.fPair.fA), .d (.int .i64 v26.fPair.fB), .d (.sl (v26.fPath.map D.i))]]) hI4 (WOK.g0 hw0 (by simp)) ⟨[0], rfl, rfl, rfl, ⟨(.d rfl), (.d rfl), (.ptr rfl), (.d rfl), (.d rfl), (.d rfl), (.d rfl), (.d rfl), (.d rfl), (.d rfl), trivial⟩, trivial, (.row rfl (.cons (.d rfl) (.cons (.d rfl) (.cons (.d rfl) .nil))) .nil)⟩ ?_
              rintro n4 ⟨s29, s30⟩ hI4
              obtain ⟨y_4, hm, hI4⟩ := iterS hI4
              replace hm : m_law32_ConstraintShortest_L4 n _ _ s29 s30 = some y_4 := hm
              unfold m_law32_ConstraintShortest_L4 at hm
              try dsimp only at hm
              refine AW.seqR ?_
              refine AL.s rfl (op_lss (.r rfl) (.r rfl)) ?_
              refine AL.nil ?_
              refine AW.seq ?_
              refine AW.cond (b := _) rfl (fun hc11 => ?_) (fun hc11 => ?_)
              · replace hm := iteT hc11 hm
                refine AW.skip ?_
                refine nq ?_
                refine AW.seq ?_
                refine AW.block ?_
                refine AW.seqR ?_
                obtain ⟨v31, hv31, hm⟩ := bindE hm
                refine AL.s rfl (op_indexAddrM (f := SConstraint.e) (.r rfl) (.r rfl) hv31 enSConstraint sl22) ?_
                refine AL.s rfl (op_loadA (.e rfl) rfl ag50) ?_
                refine AL.s rfl (op_alloc (n := 1) zr50 rfl) ?_
                refine AL.s rfl (op_store (.e rfl) (.e rfl) rfl rfl rfl ⟨_, rfl, rfl⟩ rfl (Nat.le_of_ble_eq_true rfl)) ?_
                refine AL.nil ?_
                refine AW.region ?_
                refine AL.s rfl (op_moveD (.e rfl)) ?_
                refine AL.s rfl (op_moveD (.e rfl)) ?_
                refine AL.sF rfl rfl rfl rfl (fun g => op_field_ptr (.e rfl) fd50_0) ?_
                refine AL.sF rfl rfl rfl rfl (fun g => op_load_ptr1 (.we (nt g) rfl) rfl rfl sc3) ?_
                refine AL.sF rfl rfl rfl rfl (fun g => op_eql (.we (nt g) rfl rfl) (.r rfl)) ?_
                refine AL.sF rfl rfl rfl rfl (fun g => op_moveD (.we (nt g) rfl)) ?_
                refine AL.sTT rfl rfl rfl rfl (fun gp g => op_field_ptr (.e rfl) fd50_1) ?_
                refine AL.sTT rfl rfl rfl rfl (fun gp g => op_load_ptr1 (.we (an gp g) rfl) rfl rfl sc3) ?_
                refine AL.sTT rfl rfl rfl rfl (fun gp g => op_field_ptr (.e rfl) fd55_0) ?_
                refine AL.sTT rfl rfl rfl rfl (fun gp g => op_field_ptr (.we (an gp g) rfl) fd53_0) ?_
                refine AL.sTT rfl rfl rfl rfl (fun gp g => op_load_ptr1 (.we (an gp g) rfl) rfl rfl sc3) ?_
                refine AL.sTT rfl rfl rfl rfl (fun gp g => op_eql (.we (an gp g) rfl rfl) (.we (an gp g) rfl rfl)) ?_
                refine AL.sTT rfl rfl rfl rfl (fun gp g => op_moveD (.we (an gp g) rfl)) ?_
                refine AL.sTT rfl rfl rfl rfl (fun gp g => op_field_ptr (.e rfl) fd50_2) ?_
                refine AL.sTT rfl rfl rfl rfl (fun gp g => op_load_ptr1 (.we (an gp g) rfl) rfl rfl sc3) ?_
                refine AL.sTT rfl rfl rfl rfl (fun gp g => op_field_ptr (.e rfl) fd55_0) ?_
                refine AL.sTT rfl rfl rfl rfl (fun gp g => op_field_ptr (.we (an gp g) rfl) fd53_1) ?_
                refine AL.sTT rfl rfl rfl rfl (fun gp g => op_load_ptr1 (.we (an gp g) rfl) rfl rfl sc3) ?_
                refine AL.sTT rfl rfl rfl rfl (fun gp g => op_eql (.we (an gp g) rfl rfl) (.we (an gp g) rfl rfl)) ?_
                refine AL.sTT rfl rfl rfl rfl (fun gp g => op_and (.we (an gp g) rfl rfl) (fun h => (.we (an (an gp g) h) rfl rfl)) rfl) ?_
                refine AL.sTT rfl rfl rfl rfl (fun gp g => op_moveD (.we (an gp g) rfl)) ?_
                refine AL.sFF rfl rfl rfl rfl (fun gp g => op_field_ptr (.e rfl) fd50_1) ?_
                refine AL.sFF rfl rfl rfl rfl (fun gp g => op_load_ptr1 (.we (an gp (nt g)) rfl) rfl rfl sc3) ?_
                refine AL.sFF rfl rfl rfl rfl (fun gp g => op_field_ptr (.e rfl) fd55_0) ?_
                refine AL.sFF rfl rfl rfl rfl (fun gp g => op_field_ptr (.we (an gp (nt g)) rfl) fd53_1) ?_
                refine AL.sFF rfl rfl rfl rfl (fun gp g => op_load_ptr1 (.we (an gp (nt g)) rfl) rfl rfl sc3) ?_
                refine AL.sFF rfl rfl rfl rfl (fun gp g => op_eql (.we (an gp (nt g)) rfl rfl) (.we (an gp (nt g)) rfl rfl)) ?_
                refine AL.sFF rfl rfl rfl rfl (fun gp g => op_moveD (.we (an gp (nt g)) rfl)) ?_
                refine AL.sTT rfl rfl rfl rfl (fun gp g => op_field_ptr (.e rfl) fd50_2) ?_
                refine AL.sTT rfl rfl rfl rfl (fun gp g => op_load_ptr1 (.we (an gp g) rfl) rfl rfl sc3) ?_
                refine AL.sTT rfl rfl rfl rfl (fun gp g => op_field_ptr (.e rfl) fd55_0) ?_
                refine AL.sTT rfl rfl rfl rfl (fun gp g => op_field_ptr (.we (an gp g) rfl) fd53_0) ?_
                refine AL.sTT rfl rfl rfl rfl (fun gp g => op_load_ptr1 (.we (an gp g) rfl) rfl rfl sc3) ?_
                refine AL.sTT rfl rfl rfl rfl (fun gp g => op_eql (.we (an gp g) rfl rfl) (.we (an gp g) rfl rfl)) ?_
                refine AL.sFF rfl rfl rfl rfl (fun gp g => op_and (.we (an gp (nt g)) rfl rfl) (fun h => (.we (an (an gp (nt g)) h) rfl rfl)) rfl) ?_
                refine AL.sTT rfl rfl rfl rfl (fun gp g => op_or (.we (an gp g) rfl rfl) rfl (fun h => (.we (an (an gp g) (nt h)) rfl rfl))) ?_
                refine AL.sF rfl rfl rfl rfl (fun g => op_and (.we (nt g) rfl rfl) (fun h => (.we (an (nt g) h) rfl rfl)) rfl) ?_
                refine AL.s rfl (op_or (.r rfl) rfl (fun h => (.we (nt h) rfl rfl))) ?_
                refine AL.s rfl (op_assignD (.e rfl)) ?_
                refine AL.nil ?_
                refine bq_n ?_
                refine nq ?_
                refine AW.reset 0 [(0, .d (.sl (a1.map SConstraint.e))), (15, .d (.int .i64 v24.2)), (17, .ptr 0 0), (19, .d (.bool (s29 || ((decide (v31.fKind = (2 : Int))) && (((decide (v31.fA = v26.fPair.fA)) && (decide (v31.fB = v26.fPair.fB))) || ((decide (v31.fA = v26.fPair.fB)) && (decide (v31.fB = v26.fPair.fA)))))))), (159, .d (.sl (v24.1.map SConflict.e))), (160, .d (.int .i64 (v24.1.length : Int))), (161, .d (.int .i64 s25)), (201, .d (.sl (a1.map SConstraint.e))), (202, .d (.int .i64 (a1.length : Int))), (203, .d (.int .i64 s30))] [.row [.d (.int .i64 v26.fPair.fA), .d (.int .i64 v26.fPair.fB), .d (.sl (v26.fPath.map D.i))], .row [.d (.int .i64 v31.fKind), .d (.int .i64 v31.fA), .d (.int .i64 v31.fB)]] (WOK.g0 hw0 (by simp)) ⟨[0, 1], rfl, rfl, rfl, ⟨(.d rfl), (.d rfl), (.ptr rfl), (.d rfl), (.d rfl), (.d rfl), (.d rfl), (.d rfl), (.d rfl), (.d rfl), trivial⟩, trivial, (.row rfl (.cons (.d rfl) (.cons (.d rfl) (.cons (.d rfl) .nil))) (.row rfl (.cons (.d rfl) (.cons (.d rfl) (.cons (.d rfl) .nil))) .nil))⟩ ?_
                refine AW.region ?_
                refine AL.s rfl (op_addw (.r rfl) (.r rfl)) ?_
                refine AL.s rfl (op_moveD (.e rfl)) ?_
                refine AL.nil ?_
                obtain rfl := Option.some.inj hm
                exact nq ⟨_, hI4, ⟨[0], rfl, rfl, rfl, ⟨(.d rfl), (.d rfl), (.ptr rfl), (.d rfl), (.d rfl), (.d rfl), (.d rfl), (.d rfl), (.d rfl), (.d rfl), trivial⟩, trivial, (.row rfl (.cons (.d rfl) (.cons (.d rfl) (.cons (.d rfl) .nil))) .nil)⟩⟩
              · replace hm := iteF hc11 hm
                refine AW.exit ?_
                refine tq_exit ?_
                refine tq_exit ?_
                obtain rfl := Option.some.inj hm
                obtain rfl := Option.some.inj hI4
                replace hm := hk4
                try dsimp only at hm
                refine bq_hit ?_
                refine nq ?_
                refine AW.seqR ?_
                refine AL.s rfl (op_moveD (.e rfl)) ?_
                refine AL.s rfl (op_not (.r rfl)) ?_
                refine AL.nil ?_
                refine AW.cond (b := _) rfl (fun hc12 => ?_) (fun hc12 => ?_)
                · replace hm := iteT hc12 hm
                  refine AW.seqR ?_
                  refine AL.s rfl (op_assignD (.e rfl)) ?_
                  refine AL.nil ?_
                  refine AW.ret ?_
                  refine bq_ret ?_
                  refine tq_ret ?_
                  refine tq_ret ?_
                  obtain rfl := Option.some.inj hm
                  obtain rfl := Option.some.inj hI3
                  replace hm := hk3
                  try dsimp only at hm
                  refine bq_ret ?_
                  refine tq_ret ?_
                  obtain rfl := Option.some.inj hm
                  exact EndQ.d (.tmp (.e rfl) .nil) rfl rfl
                · replace hm := iteF hc12 hm
                  refine AW.skip ?_
                  refine bq_n ?_
                  refine nq ?_
                  refine AW.region ?_
                  refine AL.s rfl (op_addw (.r rfl) (.r rfl)) ?_
                  refine AL.s rfl (op_moveD (.e rfl)) ?_
                  refine AL.nil ?_
                  obtain rfl := Option.some.inj hm
                  exact nq ⟨_, hI3, ⟨[], rfl, rfl, rfl, ⟨(.d rfl), (.d rfl), (.d rfl), (.d rfl), (.d rfl), trivial⟩, trivial, .nil⟩⟩
          · replace hm := iteF hc9 hm
            refine AW.exit ?_
            refine tq_exit ?_
            refine tq_exit ?_
            obtain rfl := Option.some.inj hm
            obtain rfl := Option.some.inj hI3
            replace hm := hk3
            try dsimp only at hm
            refine bq_hit ?_
            refine nq ?_
            refine AW.seqR ?_
            refine AL.s rfl (op_moveD (.e rfl)) ?_
            refine AL.s rfl (op_eql (.r rfl) (.r rfl)) ?_
            refine AL.s rfl (op_assignD (.e rfl)) ?_
            refine AL.nil ?_
            refine AW.ret ?_
            obtain rfl := Option.some.inj hm
            exact EndQ.d (.tmp (.e rfl) .nil) rfl rfl

end Go.Proofs.Ytkfffaoopcnaoaa.Ab
