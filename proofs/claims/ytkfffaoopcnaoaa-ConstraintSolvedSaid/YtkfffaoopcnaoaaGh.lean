/- The functions do what they are in plain Lean. Conditions: none. -/
import Derived.Test.YtkfffaoopcnaoaaTy
import Derived.Test.YtkfffaoopcnaoaaMi
import Derived.Test.YtkfffaoopcnaoaaFc
set_option maxRecDepth 100000
namespace Go.Proofs.Ytkfffaoopcnaoaa.Ab
open Go
attribute [local irreducible] AL AD AW nlO nlV nlD

set_option maxHeartbeats 20000000 in
theorem m_law32_ConstraintSolved_ok {n : Nat} {a1 : (List SConstraint)} {a2 : (List Int)} {r : Bool} (hm : m_law32_ConstraintSolved n a1 a2 = some r) : Fn Try.prog 10 [(.sl (a1.map SConstraint.e)), (.sl (a2.map D.i))] (.bool r) := by
  unfold m_law32_ConstraintSolved at hm
  refine Fn.of_AW (fnn := Try.f10) Try.func10 rfl (Nat.le_of_ble_eq_true rfl) (fun g0 w0 hw0 => ?_)
  refine AW.reset 0 [(0, .d (.sl (a1.map SConstraint.e))), (1, .d (.sl (a2.map D.i)))] [] (WOK.g0 hw0 (by simp)) ⟨[], rfl, rfl, rfl, ⟨(.d rfl), (.d rfl), trivial⟩, trivial, .nil⟩ ?_
  refine AW.seqR ?_
  refine AL.s rfl (op_assignD (.e rfl)) ?_
  refine AL.nil ?_
  refine AW.seq ?_
  refine AW.seqR ?_
  obtain ⟨v3, hv3, hm⟩ := bindE hm
  refine AL.s rfl (op_fn Try.call11 (.e rfl) .nil (m_law32_awake_ok hv3)) ?_
  refine AL.s rfl (op_not (.r rfl)) ?_
  refine AL.s rfl (op_moveD (.e rfl)) ?_
  refine AL.sF rfl rfl rfl rfl (fun g => op_moveD (.e rfl)) ?_
  refine AL.sF rfl rfl rfl rfl (fun g => op_lenM (f := SConstraint.e) (.we (nt g) rfl rfl) sl22) ?_
  refine AL.sF rfl rfl rfl rfl (fun g => op_gtr (.we (nt g) rfl rfl) (.r rfl)) ?_
  refine AL.s rfl (op_or (.r rfl) rfl (fun h => (.we (nt h) rfl rfl))) ?_
  refine AL.s rfl (op_moveD (.e rfl)) ?_
  refine AL.sF rfl rfl rfl rfl (fun g => op_moveD (.e rfl)) ?_
  refine AL.sF rfl rfl rfl rfl (fun g => op_lenM (f := D.i) (.we (nt g) rfl rfl) sl42) ?_
  refine AL.sF rfl rfl rfl rfl (fun g => op_gtr (.we (nt g) rfl rfl) (.r rfl)) ?_
  refine AL.s rfl (op_or (.r rfl) rfl (fun h => (.we (nt h) rfl rfl))) ?_
  refine AL.s rfl (op_moveD (.e rfl)) ?_
  refine AL.sF rfl rfl rfl rfl (fun g => op_moveD (.e rfl)) ?_
  obtain ⟨v4, hv4, hm⟩ := bindE hm
  refine AL.sF rfl rfl rfl rfl (fun g => op_fn Try.call12 (.e rfl) (.cons (.we (nt g) rfl rfl) .nil) (m_ref32_Valid_ok (iteT (nt g) hv4))) ?_
  refine AL.sF rfl rfl rfl rfl (fun g => op_not (.we (nt g) rfl rfl)) ?_
  refine AL.s rfl (op_or (.r rfl) rfl (fun h => (.we (nt h) rfl rfl))) ?_
  refine AL.nil ?_
  refine AW.cond (b := _) rfl (fun hc1 => ?_) (fun hc1 => ?_)
  · replace hm := iteT hc1 hm
    refine AW.seqR ?_
    obtain ⟨v5, hv5, hm⟩ := bindE hm
    refine AL.s rfl (op_fn Try.call11 (.e rfl) .nil (m_law32_awake_ok hv5)) ?_
    refine AL.s rfl (op_assignD (.e rfl)) ?_
    refine AL.nil ?_
    refine AW.ret ?_
    refine tq_ret ?_
    obtain rfl := Option.some.inj hm
    exact EndQ.d (.tmp (.e rfl) .nil) rfl rfl
  · replace hm := iteF hc1 hm
    refine AW.skip ?_
    refine nq ?_
    refine AW.seqR ?_
    refine AL.s rfl (op_moveD (.e rfl)) ?_
    refine AL.s rfl (op_moveD (.e rfl)) ?_
    obtain ⟨v6, hv6, hm⟩ := bindE hm
    refine AL.s rfl (op_fn Try.call34 (.e rfl) (.cons (.r rfl) (.cons (.r rfl) .nil)) (m_constraint_Rules_ok hv6)) ?_
    refine AL.s rfl (op_moveD (.e rfl)) ?_
    refine AL.s rfl (op_extractD (.e rfl) rfl) ?_
    refine AL.s rfl (op_extractD (.e rfl) rfl) ?_
    refine AL.s rfl (op_assignD (.e rfl)) ?_
    refine AL.s rfl (op_assignD (.e rfl)) ?_
    refine AL.nil ?_
    refine AW.seq ?_
    refine AW.seqR ?_
    refine AL.s rfl (op_moveD (.e rfl)) ?_
    refine AL.s rfl (op_neq (.r rfl) (.r rfl)) ?_
    refine AL.nil ?_
    refine AW.cond (b := _) rfl (fun hc2 => ?_) (fun hc2 => ?_)
    · replace hm := iteT hc2 hm
      refine AW.seqR ?_
      refine AL.s rfl (op_moveD (.e rfl)) ?_
      refine AL.s rfl (op_eql (.r rfl) (.r rfl)) ?_
      refine AL.s rfl (op_moveD (.e rfl)) ?_
      refine AL.sF rfl rfl rfl rfl (fun g => op_moveD (.e rfl)) ?_
      refine AL.sF rfl rfl rfl rfl (fun g => op_eql (.we (nt g) rfl rfl) (.r rfl)) ?_
      refine AL.s rfl (op_or (.r rfl) rfl (fun h => (.we (nt h) rfl rfl))) ?_
      refine AL.s rfl (op_assignD (.e rfl)) ?_
      refine AL.nil ?_
      refine AW.ret ?_
      refine tq_ret ?_
      obtain rfl := Option.some.inj hm
      exact EndQ.d (.tmp (.e rfl) .nil) rfl rfl
    · replace hm := iteF hc2 hm
      refine AW.skip ?_
      refine nq ?_
      refine AW.seqR ?_
      refine AL.s rfl (op_assignN (.e rfl)) ?_
      refine AL.nil ?_
      refine AW.seq ?_
      refine AW.seqR ?_
      refine AL.s rfl (op_moveD (.e rfl)) ?_
      refine AL.s rfl (op_lenM (f := SConstraint.e) (.r rfl) sl22) ?_
      refine AL.s rfl (op_moveD (.e rfl)) ?_
      refine AL.nil ?_
      refine AW.block ?_
      refine AW.tokenize (n := 0) 7 50 3 rfl rfl (by simp) ?_
      obtain ⟨t_1, hI1, hk1⟩ := bindE hm
      refine AW.loopS (σ := ((List SConstraint) × Int)) (τ := (List SConstraint)) 0 (fun x => [(0, .d (.sl (a1.map SConstraint.e))), (1, .d (.sl (a2.map D.i))), (7, .tk 0 (x.1.map SConstraint.e)), (52, .d (.sl (v6.1.map SConstraint.e))), (53, .d (.int .i64 (v6.1.length : Int))), (54, .d (.int .i64 x.2))]) (fun x => [.tok x.1.length 50 3]) hI1 (WOK.g0 hw0 (by simp)) ⟨[0], rfl, rfl, rfl, ⟨(.d rfl), (.d rfl), (.tk rfl), (.d rfl), (.d rfl), (.d rfl), trivial⟩, trivial, (.tok rfl .nil)⟩ ?_
      rintro n1 ⟨s7, s8⟩ hI1
      obtain ⟨y_1, hm, hI1⟩ := iterS hI1
      replace hm : m_law32_ConstraintSolved_L1 n _ s7 s8 = some y_1 := hm
      unfold m_law32_ConstraintSolved_L1 at hm
      try dsimp only at hm
      refine AW.seqR ?_
      refine AL.s rfl (op_lss (.r rfl) (.r rfl)) ?_
      refine AL.nil ?_
      refine AW.seq ?_
      refine AW.cond (b := _) rfl (fun hc3 => ?_) (fun hc3 => ?_)
      · replace hm := iteT hc3 hm
        refine AW.skip ?_
        refine nq ?_
        refine AW.seq ?_
        refine AW.block ?_
        refine AW.seqR ?_
        obtain ⟨v9, hv9, hm⟩ := bindE hm
        refine AL.s rfl (op_indexAddrM (f := SConstraint.e) (.r rfl) (.r rfl) hv9 enSConstraint sl22) ?_
        refine AL.s rfl (op_loadA (.e rfl) rfl ag50) ?_
        refine AL.s rfl (op_alloc (n := 1) zr50 rfl) ?_
        refine AL.s rfl (op_store (.e rfl) (.e rfl) rfl rfl rfl ⟨_, rfl, rfl⟩ rfl (Nat.le_of_ble_eq_true rfl)) ?_
        refine AL.nil ?_
        refine AW.region ?_
        refine AL.s rfl (op_moveT (.e rfl)) ?_
        refine AL.s rfl (op_field_ptr (.e rfl) fd50_0) ?_
        refine AL.s rfl (op_load_ptr1 (.e rfl) rfl rfl sc3) ?_
        refine AL.s rfl (op_field_ptr (.e rfl) fd50_1) ?_
        refine AL.s rfl (op_load_ptr1 (.e rfl) rfl rfl sc3) ?_
        refine AL.s rfl (op_addw (.r rfl) (.r rfl)) ?_
        refine AL.s rfl (op_field_ptr (.e rfl) fd50_2) ?_
        refine AL.s rfl (op_load_ptr1 (.e rfl) rfl rfl sc3) ?_
        refine AL.s rfl (op_addw (.r rfl) (.r rfl)) ?_
        refine AL.s rfl (op_build bd50 (.cons (.e rfl) rfl rfl rfl rfl (Nat.le_of_ble_eq_true rfl) (.cons (.e rfl) rfl rfl rfl rfl (Nat.le_of_ble_eq_true rfl) (.cons (.e rfl) rfl rfl rfl rfl (Nat.le_of_ble_eq_true rfl) .nil)))) ?_
        refine AL.s rfl (op_buildSlice (ds := ([(⟨v9.fKind, (IntKind.i64.wrap (v9.fA + (1 : Int))), (IntKind.i64.wrap (v9.fB + (1 : Int)))⟩ : SConstraint)] : List SConstraint).map SConstraint.e) sl22 (.cons (.r rfl) rfl (enSConstraint.one _) .nil) rfl (by decide)) ?_
        obtain ⟨v10, hv10, hm⟩ := bindE hm
        refine AL.s rfl (op_appendM (f := SConstraint.e) (l' := ([(⟨v9.fKind, (IntKind.i64.wrap (v9.fA + (1 : Int))), (IntKind.i64.wrap (v9.fB + (1 : Int)))⟩ : SConstraint)] : List SConstraint)) sl22 (.e rfl) (.r rfl) rfl rfl enSConstraint hv10) ?_
        refine AL.s rfl (op_assignT (.e rfl)) ?_
        refine AL.nil ?_
        refine bq_n ?_
        refine nq ?_
        refine AW.region ?_
        refine AL.s rfl (op_addw (.r rfl) (.r rfl)) ?_
        refine AL.s rfl (op_moveD (.e rfl)) ?_
        refine AL.nil ?_
        obtain rfl := Option.some.inj hm
        exact nq ⟨_, hI1, ⟨[0], rfl, rfl, rfl, ⟨(.d rfl), (.d rfl), (.tk rfl), (.d rfl), (.d rfl), (.d rfl), trivial⟩, trivial, (.tok rfl .nil)⟩⟩
      · replace hm := iteF hc3 hm
        refine AW.exit ?_
        refine tq_exit ?_
        refine tq_exit ?_
        obtain rfl := Option.some.inj hm
        obtain rfl := Option.some.inj hI1
        replace hm := hk1
        try dsimp only at hm
        refine bq_hit ?_
        refine nq ?_
        refine AW.seq ?_
        refine AW.seqR ?_
        refine AL.s rfl (op_moveD (.e rfl)) ?_
        refine AL.s rfl (op_lenM (f := D.i) (.r rfl) sl42) ?_
        refine AL.s rfl (op_moveD (.e rfl)) ?_
        refine AL.nil ?_
        refine AW.block ?_
        obtain ⟨t_2, hI2, hk2⟩ := bindE hm
        refine AW.loopS (σ := Int) (τ := (Bool ⊕ Unit)) 0 (fun x => [(0, .d (.sl (a1.map SConstraint.e))), (1, .d (.sl (a2.map D.i))), (7, .tk 0 (s7.map SConstraint.e)), (72, .d (.int .i64 (a2.length : Int))), (73, .d (.int .i64 x))]) (fun x => [.tok s7.length 50 3]) hI2 (WOK.g0 hw0 (by simp)) ⟨[0], rfl, rfl, rfl, ⟨(.d rfl), (.d rfl), (.tk rfl), (.d rfl), (.d rfl), trivial⟩, trivial, (.tok rfl .nil)⟩ ?_
        rintro n2 s11 hI2
        obtain ⟨y_2, hm, hI2⟩ := iterS hI2
        replace hm : m_law32_ConstraintSolved_L2 n _ _ _ s11 = some y_2 := hm
        unfold m_law32_ConstraintSolved_L2 at hm
        try dsimp only at hm
        refine AW.seqR ?_
        refine AL.s rfl (op_lss (.r rfl) (.r rfl)) ?_
        refine AL.nil ?_
        refine AW.seq ?_
        refine AW.cond (b := _) rfl (fun hc4 => ?_) (fun hc4 => ?_)
        · replace hm := iteT hc4 hm
          refine AW.skip ?_
          refine nq ?_
          refine AW.seq ?_
          refine AW.block ?_
          refine AW.seqR ?_
          refine AL.s rfl (op_moveD (.e rfl)) ?_
          refine AL.s rfl (op_assignD (.e rfl)) ?_
          refine AL.nil ?_
          refine AW.seqR ?_
          refine AL.s rfl (op_moveD (.e rfl)) ?_
          refine AL.s rfl (op_moveD (.e rfl)) ?_
          refine AL.s rfl (op_moveD (.e rfl)) ?_
          obtain ⟨v12, hv12, hm⟩ := bindE hm
          refine AL.s rfl (op_indexAddrM (f := D.i) (.r rfl) (.r rfl) hv12 En.i sl42) ?_
          refine AL.s rfl (op_load_vp1 (.e rfl) rfl sc3) ?_
          obtain ⟨v13, hv13, hm⟩ := bindE hm
          refine AL.s rfl (op_fn Try.call28 (.e rfl) (.cons (.r rfl) (.cons (.r rfl) .nil)) (m_constraint_Group_ok hv13)) ?_
          refine AL.s rfl (op_moveD (.e rfl)) ?_
          refine AL.s rfl (op_extractD (.e rfl) rfl) ?_
          refine AL.s rfl (op_extractD (.e rfl) rfl) ?_
          refine AL.s rfl (op_assignD (.e rfl)) ?_
          refine AL.s rfl (op_assignD (.e rfl)) ?_
          refine AL.nil ?_
          refine AW.seqR ?_
          refine AL.s rfl (op_moveT (.e rfl)) ?_
          refine AL.s rfl (op_moveD (.e rfl)) ?_
          refine AL.s rfl (op_addw (.r rfl) (.r rfl)) ?_
          obtain ⟨v14, hv14, hm⟩ := bindE hm
          refine AL.s rfl (op_fn Try.call28 (.e rfl) (.cons (.r rfl) (.cons (.r rfl) .nil)) (m_constraint_Group_ok hv14)) ?_
          refine AL.s rfl (op_moveD (.e rfl)) ?_
          refine AL.s rfl (op_extractD (.e rfl) rfl) ?_
          refine AL.s rfl (op_extractD (.e rfl) rfl) ?_
          refine AL.s rfl (op_assignD (.e rfl)) ?_
          refine AL.s rfl (op_assignD (.e rfl)) ?_
          refine AL.nil ?_
          refine AW.seq ?_
          refine AW.seqR ?_
          refine AL.s rfl (op_moveD (.e rfl)) ?_
          refine AL.s rfl (op_neq (.r rfl) (.r rfl)) ?_
          refine AL.s rfl (op_moveD (.e rfl)) ?_
          refine AL.sF rfl rfl rfl rfl (fun g => op_moveD (.e rfl)) ?_
          refine AL.sF rfl rfl rfl rfl (fun g => op_neq (.we (nt g) rfl rfl) (.r rfl)) ?_
          refine AL.s rfl (op_or (.r rfl) rfl (fun h => (.we (nt h) rfl rfl))) ?_
          refine AL.nil ?_
          refine AW.cond (b := _) rfl (fun hc5 => ?_) (fun hc5 => ?_)
          · replace hm := iteT hc5 hm
            refine AW.seqR ?_
            refine AL.s rfl (op_assignD (.e rfl)) ?_
            refine AL.nil ?_
            refine AW.ret ?_
            refine tq_ret ?_
            refine bq_ret ?_
            refine tq_ret ?_
            refine tq_ret ?_
            obtain rfl := Option.some.inj hm
            obtain rfl := Option.some.inj hI2
            replace hm := hk2
            try dsimp only at hm
            refine bq_ret ?_
            refine tq_ret ?_
            obtain rfl := Option.some.inj hm
            exact EndQ.d (.tmp (.e rfl) .nil) rfl rfl
          · replace hm := iteF hc5 hm
            refine AW.skip ?_
            refine nq ?_
            refine AW.seqR ?_
            refine AL.s rfl (op_moveD (.e rfl)) ?_
            refine AL.s rfl (op_lenM (f := D.i) (.r rfl) sl42) ?_
            refine AL.s rfl (op_moveD (.e rfl)) ?_
            refine AL.nil ?_
            refine AW.block ?_
            obtain ⟨t_3, hI3, hk3⟩ := bindE hm
            refine AW.loopS (σ := Int) (τ := (Bool ⊕ Unit)) 0 (fun x => [(0, .d (.sl (a1.map SConstraint.e))), (1, .d (.sl (a2.map D.i))), (7, .tk 0 (s7.map SConstraint.e)), (10, .d (.int .i64 s11)), (11, .d (.sl (v13.1.map D.i))), (13, .d (.sl (v14.1.map D.i))), (72, .d (.int .i64 (a2.length : Int))), (73, .d (.int .i64 s11)), (99, .d (.int .i64 (a2.length : Int))), (100, .d (.int .i64 x))]) (fun x => [.tok s7.length 50 3]) hI3 (WOK.g0 hw0 (by simp)) ⟨[0], rfl, rfl, rfl, ⟨(.d rfl), (.d rfl), (.tk rfl), (.d rfl), (.d rfl), (.d rfl), (.d rfl), (.d rfl), (.d rfl), (.d rfl), trivial⟩, trivial, (.tok rfl .nil)⟩ ?_
            rintro n3 s15 hI3
            obtain ⟨y_3, hm, hI3⟩ := iterS hI3
            replace hm : m_law32_ConstraintSolved_L3 n _ _ _ _ _ _ s15 = some y_3 := hm
            unfold m_law32_ConstraintSolved_L3 at hm
            try dsimp only at hm
            refine AW.seqR ?_
            refine AL.s rfl (op_lss (.r rfl) (.r rfl)) ?_
            refine AL.nil ?_
            refine AW.seq ?_
            refine AW.cond (b := _) rfl (fun hc6 => ?_) (fun hc6 => ?_)
            · replace hm := iteT hc6 hm
              refine AW.skip ?_
              refine nq ?_
              refine AW.seq ?_
              refine AW.block ?_
              refine AW.seqR ?_
              refine AL.s rfl (op_moveD (.e rfl)) ?_
              refine AL.s rfl (op_assignD (.e rfl)) ?_
              refine AL.nil ?_
              refine AW.seqD [([], []), ([], []), ([], []), ([], []), ([], []), ([], []), ([], []), ([], []), ([], []), ([], []), ([], []), ([], []), ([], []), ([], []), ([], [])] mo (by decide +kernel) ?_
              refine AD.s (ws := []) rfl rfl (fun H' _ hH => op_moveD (.e rfl)) ?_
              refine AD.s (ws := []) rfl rfl (fun H' _ hH => op_moveD (.e rfl)) ?_
              refine AD.s (ws := []) rfl rfl (fun H' _ hH => op_moveD (.e rfl)) ?_
              obtain ⟨v16, hv16, hm⟩ := bindE hm
              refine AD.s (ws := []) rfl rfl (fun H' _ hH => op_indexAddrM (f := D.i) (.r rfl) (.r rfl) hv16 En.i sl42) ?_
              refine AD.s (ws := []) rfl rfl (fun H' _ hH => op_load_vp1 (.e rfl) rfl sc3) ?_
              refine AD.s (ws := []) rfl rfl (fun H' _ hH => op_moveD (.e rfl)) ?_
              refine AD.s (ws := []) rfl rfl (fun H' _ hH => op_moveD (.e rfl)) ?_
              obtain ⟨v17, hv17, hm⟩ := bindE hm
              refine AD.s (ws := []) rfl rfl (fun H' _ hH => op_indexAddrM (f := D.i) (.r rfl) (.r rfl) hv17 En.i sl42) ?_
              refine AD.s (ws := []) rfl rfl (fun H' _ hH => op_load_vp1 (.e rfl) rfl sc3) ?_
              obtain ⟨v18, hv18, hm⟩ := bindE hm
              refine AD.s (ws := []) rfl rfl (fun H' _ hH => op_fn Try.call17 (.e rfl) (.cons (.r rfl) (.cons (.r rfl) (.cons (.r rfl) .nil))) (m_constraint_Apart_ok hv18)) ?_
              refine AD.s (ws := []) rfl rfl (fun H' _ hH => op_moveD (.e rfl)) ?_
              refine AD.s (ws := []) rfl rfl (fun H' _ hH => op_extractD (.e rfl) rfl) ?_
              refine AD.s (ws := []) rfl rfl (fun H' _ hH => op_extractD (.e rfl) rfl) ?_
              refine AD.s (ws := []) rfl rfl (fun H' _ hH => op_assignD (.e rfl)) ?_
              refine AD.s (ws := []) rfl rfl (fun H' _ hH => op_assignD (.e rfl)) ?_
              refine AD.nil ?_
              refine AW.seqR ?_
              refine AL.s rfl (op_moveT (.e rfl)) ?_
              refine AL.s rfl (op_moveD (.e rfl)) ?_
              refine AL.s rfl (op_addw (.r rfl) (.r rfl)) ?_
              refine AL.s rfl (op_moveD (.e rfl)) ?_
              refine AL.s rfl (op_addw (.r rfl) (.r rfl)) ?_
              obtain ⟨v19, hv19, hm⟩ := bindE hm
              refine AL.s rfl (op_fn Try.call17 (.e rfl) (.cons (.r rfl) (.cons (.r rfl) (.cons (.r rfl) .nil))) (m_constraint_Apart_ok hv19)) ?_
              refine AL.s rfl (op_moveD (.e rfl)) ?_
              refine AL.s rfl (op_extractD (.e rfl) rfl) ?_
              refine AL.s rfl (op_extractD (.e rfl) rfl) ?_
              refine AL.s rfl (op_assignD (.e rfl)) ?_
              refine AL.s rfl (op_assignD (.e rfl)) ?_
              refine AL.nil ?_
              refine AW.seqR ?_
              refine AL.s rfl (op_moveD (.e rfl)) ?_
              refine AL.s rfl (op_neq (.r rfl) (.r rfl)) ?_
              refine AL.s rfl (op_moveD (.e rfl)) ?_
              refine AL.sF rfl rfl rfl rfl (fun g => op_moveD (.e rfl)) ?_
              refine AL.sF rfl rfl rfl rfl (fun g => op_neq (.we (nt g) rfl rfl) (.r rfl)) ?_
              refine AL.s rfl (op_or (.r rfl) rfl (fun h => (.we (nt h) rfl rfl))) ?_
              refine AL.s rfl (op_moveD (.e rfl)) ?_
              refine AL.sF rfl rfl rfl rfl (fun g => op_moveD (.e rfl)) ?_
              refine AL.sF rfl rfl rfl rfl (fun g => op_moveD (.e rfl)) ?_
              refine AL.sF rfl rfl rfl rfl (fun g => op_neqB (.we (nt g) rfl rfl) (.we (nt g) rfl rfl) Try.underlying4) ?_
              refine AL.s rfl (op_or (.r rfl) rfl (fun h => (.we (nt h) rfl rfl))) ?_
              refine AL.s rfl (op_moveD (.e rfl)) ?_
              refine AL.sF rfl rfl rfl rfl (fun g => op_moveD (.e rfl)) ?_
              refine AL.sF rfl rfl rfl rfl (fun g => op_moveD (.e rfl)) ?_
              refine AL.sF rfl rfl rfl rfl (fun g => op_moveD (.e rfl)) ?_
              obtain ⟨v20, hv20, hm⟩ := bindE hm
              refine AL.sF rfl rfl rfl rfl (fun g => op_indexAddrM (f := D.i) (.we (nt g) rfl rfl) (.we (nt g) rfl rfl) (iteT (nt g) hv20) En.i sl42) ?_
              refine AL.sF rfl rfl rfl rfl (fun g => op_load_vp1 (.we (nt g) rfl) rfl sc3) ?_
              obtain ⟨v21, hv21, hm⟩ := bindE hm
              refine AL.sF rfl rfl rfl rfl (fun g => op_fn Try.call27 (.e rfl) (.cons (.we (nt g) rfl rfl) (.cons (.we (nt g) rfl rfl) .nil)) (m_ref32_Has_ok (iteT (nt g) hv21))) ?_
              refine AL.sF rfl rfl rfl rfl (fun g => op_moveD (.e rfl)) ?_
              refine AL.sF rfl rfl rfl rfl (fun g => op_moveD (.e rfl)) ?_
              refine AL.sF rfl rfl rfl rfl (fun g => op_addw (.we (nt g) rfl rfl) (.r rfl)) ?_
              obtain ⟨v22, hv22, hm⟩ := bindE hm
              refine AL.sF rfl rfl rfl rfl (fun g => op_fn Try.call27 (.e rfl) (.cons (.we (nt g) rfl rfl) (.cons (.we (nt g) rfl rfl) .nil)) (m_ref32_Has_ok (iteT (nt g) hv22))) ?_
              refine AL.sF rfl rfl rfl rfl (fun g => op_neqB (.we (nt g) rfl rfl) (.we (nt g) rfl rfl) Try.underlying4) ?_
              refine AL.s rfl (op_or (.r rfl) rfl (fun h => (.we (nt h) rfl rfl))) ?_
              refine AL.nil ?_
              refine AW.cond (b := _) rfl (fun hc7 => ?_) (fun hc7 => ?_)
              · replace hm := iteT hc7 hm
                refine AW.reset 0 [] [.tok s7.length 50 3] (WOK.g0 hw0 (by simp)) ⟨[0], rfl, rfl, rfl, trivial, trivial, (.tok rfl .nil)⟩ ?_
                refine AW.seqR ?_
                refine AL.s rfl (op_assignD (.e rfl)) ?_
                refine AL.nil ?_
                refine AW.ret ?_
                refine bq_ret ?_
                refine tq_ret ?_
                refine tq_ret ?_
                obtain rfl := Option.some.inj hm
                obtain rfl := Option.some.inj hI3
                replace hm := hk3
                try dsimp only at hm
                refine bq_ret ?_
                refine bq_ret ?_
                refine tq_ret ?_
                refine tq_ret ?_
                obtain rfl := Option.some.inj hm
                obtain rfl := Option.some.inj hI2
                replace hm := hk2
                try dsimp only at hm
                refine bq_ret ?_
                refine tq_ret ?_
                obtain rfl := Option.some.inj hm
                exact EndQ.d (.tmp (.e rfl) .nil) rfl rfl
              · replace hm := iteF hc7 hm
                refine AW.skip ?_
                refine bq_n ?_
                refine nq ?_
                refine AW.region ?_
                refine AL.s rfl (op_addw (.r rfl) (.r rfl)) ?_
                refine AL.s rfl (op_moveD (.e rfl)) ?_
                refine AL.nil ?_
                obtain rfl := Option.some.inj hm
                exact nq ⟨_, hI3, ⟨[0], rfl, rfl, rfl, ⟨(.d rfl), (.d rfl), (.tk rfl), (.d rfl), (.d rfl), (.d rfl), (.d rfl), (.d rfl), (.d rfl), (.d rfl), trivial⟩, trivial, (.tok rfl .nil)⟩⟩
            · replace hm := iteF hc6 hm
              refine AW.exit ?_
              refine tq_exit ?_
              refine tq_exit ?_
              obtain rfl := Option.some.inj hm
              obtain rfl := Option.some.inj hI3
              replace hm := hk3
              try dsimp only at hm
              refine bq_hit ?_
              refine bq_n ?_
              refine nq ?_
              refine AW.region ?_
              refine AL.s rfl (op_addw (.r rfl) (.r rfl)) ?_
              refine AL.s rfl (op_moveD (.e rfl)) ?_
              refine AL.nil ?_
              obtain rfl := Option.some.inj hm
              exact nq ⟨_, hI2, ⟨[0], rfl, rfl, rfl, ⟨(.d rfl), (.d rfl), (.tk rfl), (.d rfl), (.d rfl), trivial⟩, trivial, (.tok rfl .nil)⟩⟩
        · replace hm := iteF hc4 hm
          refine AW.exit ?_
          refine tq_exit ?_
          refine tq_exit ?_
          obtain rfl := Option.some.inj hm
          obtain rfl := Option.some.inj hI2
          replace hm := hk2
          try dsimp only at hm
          refine bq_hit ?_
          refine nq ?_
          refine AW.seqR ?_
          refine AL.s rfl (op_assignD (.e rfl)) ?_
          refine AL.nil ?_
          refine AW.ret ?_
          obtain rfl := Option.some.inj hm
          exact EndQ.d (.tmp (.e rfl) .nil) rfl rfl

end Go.Proofs.Ytkfffaoopcnaoaa.Ab
