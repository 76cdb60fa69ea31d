/- The functions do what they are in plain Lean. Conditions: none. -/
import Derived.Test.YtkfffaoopcnaoaaTy
import Derived.Test.YtkfffaoopcnaoaaMi
import Derived.Test.YtkfffaoopcnaoaaFb
set_option maxRecDepth 100000
namespace Go.Proofs.Ytkfffaoopcnaoaa.Ab
open Go
attribute [local irreducible] AL AD AW nlO nlV nlD

set_option maxHeartbeats 20000000 in
theorem m_ref32_Has_ok {n : Nat} {a1 : (List Int)} {a2 : Int} {r : Bool} (hm : m_ref32_Has n a1 a2 = some r) : Fn Try.prog 27 [(.sl (a1.map D.i)), (.int .i64 a2)] (.bool r) := by
  unfold m_ref32_Has at hm
  refine Fn.of_AW (fnn := Try.f27) Try.func27 rfl (Nat.le_of_ble_eq_true rfl) (fun g0 w0 hw0 => ?_)
  refine AW.reset 0 [(0, .d (.sl (a1.map D.i))), (1, .d (.int .i64 a2))] [] (WOK.g0 hw0 (by simp)) ⟨[], rfl, rfl, rfl, ⟨(.d rfl), (.d rfl), trivial⟩, trivial, .nil⟩ ?_
  refine AW.seqR ?_
  refine AL.s rfl (op_assignD (.e rfl)) ?_
  refine AL.nil ?_
  refine AW.seq ?_
  refine AW.seqR ?_
  refine AL.s rfl (op_assignD (.e rfl)) ?_
  refine AL.nil ?_
  refine AW.block ?_
  obtain ⟨t_1, hI1, hk1⟩ := bindE hm
  refine AW.loopS (σ := Int) (τ := (Bool ⊕ Unit)) 0 (fun x => [(0, .d (.sl (a1.map D.i))), (1, .d (.int .i64 a2)), (5, .d (.int .i64 x))]) (fun x => []) hI1 (WOK.g0 hw0 (by simp)) ⟨[], rfl, rfl, rfl, ⟨(.d rfl), (.d rfl), (.d rfl), trivial⟩, trivial, .nil⟩ ?_
  rintro n1 s3 hI1
  obtain ⟨y_1, hm, hI1⟩ := iterS hI1
  replace hm : m_ref32_Has_L1 n _ _ s3 = some y_1 := hm
  unfold m_ref32_Has_L1 at hm
  try dsimp only at hm
  refine AW.seq ?_
  refine AW.seqR ?_
  refine AL.s rfl (op_moveD (.e rfl)) ?_
  refine AL.s rfl (op_moveD (.e rfl)) ?_
  refine AL.s rfl (op_lenM (f := D.i) (.r rfl) sl42) ?_
  refine AL.s rfl (op_lss (.r rfl) (.r rfl)) ?_
  refine AL.nil ?_
  refine AW.cond (b := _) rfl (fun hc1 => ?_) (fun hc1 => ?_)
  · replace hm := iteT hc1 hm
    refine AW.skip ?_
    refine nq ?_
    refine AW.seq ?_
    refine AW.block ?_
    refine AW.seqR ?_
    refine AL.s rfl (op_moveD (.e rfl)) ?_
    refine AL.s rfl (op_moveD (.e rfl)) ?_
    obtain ⟨v4, hv4, hm⟩ := bindE hm
    refine AL.s rfl (op_indexAddrM (f := D.i) (.r rfl) (.r rfl) hv4 En.i sl42) ?_
    refine AL.s rfl (op_load_vp1 (.e rfl) rfl sc3) ?_
    refine AL.s rfl (op_moveD (.e rfl)) ?_
    refine AL.s rfl (op_eql (.r rfl) (.r rfl)) ?_
    refine AL.nil ?_
    refine AW.cond (b := _) rfl (fun hc2 => ?_) (fun hc2 => ?_)
    · replace hm := iteT hc2 hm
      refine AW.seqR ?_
      refine AL.s rfl (op_assignD (.e rfl)) ?_
      refine AL.nil ?_
      refine AW.ret ?_
      refine bq_ret ?_
      refine tq_ret ?_
      refine tq_ret ?_
      obtain rfl := Option.some.inj hm
      obtain rfl := Option.some.inj hI1
      replace hm := hk1
      try dsimp only at hm
      refine bq_ret ?_
      refine tq_ret ?_
      obtain rfl := Option.some.inj hm
      exact EndQ.d (.tmp (.e rfl) .nil) rfl rfl
    · replace hm := iteF hc2 hm
      refine AW.skip ?_
      refine bq_n ?_
      refine nq ?_
      refine AW.region ?_
      refine AL.s rfl (op_moveD (.e rfl)) ?_
      refine AL.s rfl (op_addw (.r rfl) (.r rfl)) ?_
      refine AL.s rfl (op_assignD (.e rfl)) ?_
      refine AL.nil ?_
      obtain rfl := Option.some.inj hm
      exact nq ⟨_, hI1, ⟨[], rfl, rfl, rfl, ⟨(.d rfl), (.d rfl), (.d rfl), trivial⟩, trivial, .nil⟩⟩
  · replace hm := iteF hc1 hm
    refine AW.exit ?_
    refine tq_exit ?_
    refine tq_exit ?_
    obtain rfl := Option.some.inj hm
    obtain rfl := Option.some.inj hI1
    replace hm := hk1
    try dsimp only at hm
    refine bq_hit ?_
    refine nq ?_
    refine AW.seqR ?_
    refine AL.s rfl (op_assignD (.e rfl)) ?_
    refine AL.nil ?_
    refine AW.ret ?_
    obtain rfl := Option.some.inj hm
    exact EndQ.d (.tmp (.e rfl) .nil) rfl rfl

set_option maxHeartbeats 20000000 in
theorem m_ref32_group_ok {n : Nat} {a1 : (List SConstraint)} {a2 : Int} {r : (List Int)} (hm : m_ref32_group n a1 a2 = some r) : Fn Try.prog 42 [(.sl (a1.map SConstraint.e)), (.int .i64 a2)] (.sl (r.map D.i)) := by
  unfold m_ref32_group at hm
  refine Fn.of_AW (fnn := Try.f42) Try.func42 rfl (Nat.le_of_ble_eq_true rfl) (fun g0 w0 hw0 => ?_)
  refine AW.reset 0 [(0, .d (.sl (a1.map SConstraint.e))), (1, .d (.int .i64 a2))] [] (WOK.g0 hw0 (by simp)) ⟨[], rfl, rfl, rfl, ⟨(.d rfl), (.d rfl), trivial⟩, trivial, .nil⟩ ?_
  refine AW.seqR ?_
  refine AL.s rfl (op_assignN (.e rfl)) ?_
  refine AL.nil ?_
  refine AW.seqR ?_
  refine AL.s rfl (op_moveD (.e rfl)) ?_
  refine AL.s rfl (op_buildSlice (ds := ([a2] : List Int).map D.i) sl42 (.cons (.r rfl) rfl (En.i.one _) .nil) rfl (by decide)) ?_
  refine AL.s rfl (op_assignE (.e rfl)) ?_
  refine AL.nil ?_
  refine AW.seq ?_
  refine AW.seqR ?_
  refine AL.s rfl (op_assignD (.e rfl)) ?_
  refine AL.nil ?_
  refine AW.block ?_
  obtain ⟨t_1, hI1, hk1⟩ := bindE hm
  refine AW.loopS (σ := ((List Int) × Bool)) (τ := (List Int)) 0 (fun x => [(0, .d (.sl (a1.map SConstraint.e))), (5, .d (.sl (x.1.map D.i))), (6, .d (.bool x.2))]) (fun x => []) hI1 (WOK.g0 hw0 (by simp)) ⟨[], rfl, rfl, rfl, ⟨(.d rfl), (.d rfl), (.d rfl), trivial⟩, trivial, .nil⟩ ?_
  rintro n1 ⟨s3, s4⟩ hI1
  obtain ⟨y_1, hm, hI1⟩ := iterS hI1
  replace hm : m_ref32_group_L1 n _ s3 s4 = some y_1 := hm
  unfold m_ref32_group_L1 at hm
  try dsimp only at hm
  refine AW.seq ?_
  refine AW.seqR ?_
  refine AL.s rfl (op_moveD (.e rfl)) ?_
  refine AL.nil ?_
  refine AW.cond (b := _) rfl (fun hc1 => ?_) (fun hc1 => ?_)
  · replace hm := iteT hc1 hm
    refine AW.skip ?_
    refine nq ?_
    refine AW.block ?_
    refine AW.seqR ?_
    refine AL.s rfl (op_assignD (.e rfl)) ?_
    refine AL.nil ?_
    refine AW.seqR ?_
    refine AL.s rfl (op_assignD (.e rfl)) ?_
    refine AL.nil ?_
    refine AW.block ?_
    obtain ⟨t_2, hI2, hk2⟩ := bindE hm
    refine AW.loopS (σ := ((List Int) × Bool × Int)) (τ := ((List Int) × Bool)) 0 (fun x => [(0, .d (.sl (a1.map SConstraint.e))), (5, .d (.sl (x.1.map D.i))), (6, .d (.bool x.2.1)), (7, .d (.int .i64 x.2.2))]) (fun x => []) hI2 (WOK.g0 hw0 (by simp)) ⟨[], rfl, rfl, rfl, ⟨(.d rfl), (.d rfl), (.d rfl), (.d rfl), trivial⟩, trivial, .nil⟩ ?_
    rintro n2 ⟨s5, s6, s7⟩ hI2
    obtain ⟨y_2, hm, hI2⟩ := iterS hI2
    replace hm : m_ref32_group_L2 n _ s5 s6 s7 = some y_2 := hm
    unfold m_ref32_group_L2 at hm
    try dsimp only at hm
    refine AW.seq ?_
    refine AW.seqR ?_
    refine AL.s rfl (op_moveD (.e rfl)) ?_
    refine AL.s rfl (op_moveD (.e rfl)) ?_
    refine AL.s rfl (op_lenM (f := SConstraint.e) (.r rfl) sl22) ?_
    refine AL.s rfl (op_lss (.r rfl) (.r rfl)) ?_
    refine AL.nil ?_
    refine AW.cond (b := _) rfl (fun hc2 => ?_) (fun hc2 => ?_)
    · replace hm := iteT hc2 hm
      refine AW.skip ?_
      refine nq ?_
      obtain ⟨t_j1, hm, hkj1⟩ := bindE hm
      refine AW.cutS (α := ((List Int) × Bool)) 0 (fun x => x = t_j1) (fun x => [(0, .d (.sl (a1.map SConstraint.e))), (5, .d (.sl (x.1.map D.i))), (6, .d (.bool x.2)), (7, .d (.int .i64 s7))]) (fun x => []) (WOK.g0 hw0 (by simp)) ?_ ?_
      · skip
        refine AW.block ?_
        refine AW.reset 0 [(0, .d (.sl (a1.map SConstraint.e))), (5, .d (.sl (s5.map D.i))), (6, .d (.bool s6)), (7, .d (.int .i64 s7))] [] (WOK.g0 hw0 (by simp)) ⟨[], rfl, rfl, rfl, ⟨(.d rfl), (.d rfl), (.d rfl), (.d rfl), trivial⟩, trivial, .nil⟩ ?_
        refine AW.seqD [([], []), ([], []), ([], []), ([], []), ([], []), ([], []), ([], []), ([], []), ([], []), ([], []), ([], []), ([], []), ([], []), ([], []), ([], []), ([], []), ([], []), ([], []), ([], []), ([], []), ([], []), ([], []), ([], [])] mo (by decide +kernel) ?_
        refine AD.s (ws := []) rfl rfl (fun H' _ hH => op_moveD (.e rfl)) ?_
        refine AD.s (ws := []) rfl rfl (fun H' _ hH => op_moveD (.e rfl)) ?_
        obtain ⟨v8, hv8, hm⟩ := bindE hm
        refine AD.s (ws := []) rfl rfl (fun H' _ hH => op_indexAddrM (f := SConstraint.e) (.r rfl) (.r rfl) hv8 enSConstraint sl22) ?_
        refine AD.s (ws := []) rfl rfl (fun H' _ hH => op_field_vp (.e rfl) fd50_0) ?_
        refine AD.s (ws := []) rfl rfl (fun H' _ hH => op_load_vp1 (.e rfl) rfl sc3) ?_
        refine AD.s (ws := []) rfl rfl (fun H' _ hH => op_eql (.r rfl) (.r rfl)) ?_
        refine AD.s (ws := []) rfl rfl (fun H' _ hH => op_moveD (.e rfl)) ?_
        refine AD.sT rfl rfl rfl rfl (fun g H' _ hH => op_moveD (.e rfl)) ?_
        refine AD.sT rfl rfl rfl rfl (fun g H' _ hH => op_moveD (.e rfl)) ?_
        refine AD.sT rfl rfl rfl rfl (fun g H' _ hH => op_moveD (.e rfl)) ?_
        obtain ⟨v9, hv9, hm⟩ := bindE hm
        refine AD.sT rfl rfl rfl rfl (fun g H' _ hH => op_indexAddrM (f := SConstraint.e) (.we g rfl rfl) (.we g rfl rfl) (iteT g hv9) enSConstraint sl22) ?_
        refine AD.sT rfl rfl rfl rfl (fun g H' _ hH => op_field_vp (.we g rfl) fd50_1) ?_
        refine AD.sT rfl rfl rfl rfl (fun g H' _ hH => op_load_vp1 (.we g rfl) rfl sc3) ?_
        obtain ⟨v10, hv10, hm⟩ := bindE hm
        refine AD.sT rfl rfl rfl rfl (fun g H' _ hH => op_fn Try.call27 (.e rfl) (.cons (.we g rfl rfl) (.cons (.we g rfl rfl) .nil)) (m_ref32_Has_ok (iteT g hv10))) ?_
        refine AD.sT rfl rfl rfl rfl (fun g H' _ hH => op_moveD (.e rfl)) ?_
        refine AD.sT rfl rfl rfl rfl (fun g H' _ hH => op_moveD (.e rfl)) ?_
        refine AD.sT rfl rfl rfl rfl (fun g H' _ hH => op_moveD (.e rfl)) ?_
        obtain ⟨v11, hv11, hm⟩ := bindE hm
        refine AD.sT rfl rfl rfl rfl (fun g H' _ hH => op_indexAddrM (f := SConstraint.e) (.we g rfl rfl) (.we g rfl rfl) (iteT g hv11) enSConstraint sl22) ?_
        refine AD.sT rfl rfl rfl rfl (fun g H' _ hH => op_field_vp (.we g rfl) fd50_2) ?_
        refine AD.sT rfl rfl rfl rfl (fun g H' _ hH => op_load_vp1 (.we g rfl) rfl sc3) ?_
        obtain ⟨v12, hv12, hm⟩ := bindE hm
        refine AD.sT rfl rfl rfl rfl (fun g H' _ hH => op_fn Try.call27 (.e rfl) (.cons (.we g rfl rfl) (.cons (.we g rfl rfl) .nil)) (m_ref32_Has_ok (iteT g hv12))) ?_
        refine AD.sT rfl rfl rfl rfl (fun g H' _ hH => op_neqB (.we g rfl rfl) (.we g rfl rfl) Try.underlying4) ?_
        refine AD.s (ws := []) rfl rfl (fun H' _ hH => op_and (.r rfl) (fun h => (.we h rfl rfl)) rfl) ?_
        refine AD.nil ?_
        refine AW.cond (b := _) rfl (fun hc3 => ?_) (fun hc3 => ?_)
        · replace hm := iteT hc3 hm
          refine AW.seqD [([], []), ([], []), ([], []), ([], []), ([], []), ([], []), ([], []), ([], []), ([], []), ([], []), ([], []), ([], []), ([], []), ([], [])] mo (by decide +kernel) ?_
          refine AD.s (ws := []) rfl rfl (fun H' _ hH => op_moveD (.e rfl)) ?_
          refine AD.s (ws := []) rfl rfl (fun H' _ hH => op_moveD (.e rfl)) ?_
          refine AD.s (ws := []) rfl rfl (fun H' _ hH => op_moveD (.e rfl)) ?_
          obtain ⟨v13, hv13, hm⟩ := bindE hm
          refine AD.s (ws := []) rfl rfl (fun H' _ hH => op_indexAddrM (f := SConstraint.e) (.r rfl) (.r rfl) hv13 enSConstraint sl22) ?_
          refine AD.s (ws := []) rfl rfl (fun H' _ hH => op_field_vp (.e rfl) fd50_1) ?_
          refine AD.s (ws := []) rfl rfl (fun H' _ hH => op_load_vp1 (.e rfl) rfl sc3) ?_
          obtain ⟨v14, hv14, hm⟩ := bindE hm
          refine AD.s (ws := []) rfl rfl (fun H' _ hH => op_fn Try.call50 (.e rfl) (.cons (.r rfl) (.cons (.r rfl) .nil)) (m_ref32_put_ok hv14)) ?_
          refine AD.s (ws := []) rfl rfl (fun H' _ hH => op_moveD (.e rfl)) ?_
          refine AD.s (ws := []) rfl rfl (fun H' _ hH => op_moveD (.e rfl)) ?_
          obtain ⟨v15, hv15, hm⟩ := bindE hm
          refine AD.s (ws := []) rfl rfl (fun H' _ hH => op_indexAddrM (f := SConstraint.e) (.r rfl) (.r rfl) hv15 enSConstraint sl22) ?_
          refine AD.s (ws := []) rfl rfl (fun H' _ hH => op_field_vp (.e rfl) fd50_2) ?_
          refine AD.s (ws := []) rfl rfl (fun H' _ hH => op_load_vp1 (.e rfl) rfl sc3) ?_
          obtain ⟨v16, hv16, hm⟩ := bindE hm
          refine AD.s (ws := []) rfl rfl (fun H' _ hH => op_fn Try.call50 (.e rfl) (.cons (.r rfl) (.cons (.r rfl) .nil)) (m_ref32_put_ok hv16)) ?_
          refine AD.s (ws := []) rfl rfl (fun H' _ hH => op_assignD (.e rfl)) ?_
          refine AD.nil ?_
          refine AW.region ?_
          refine AL.s rfl (op_assignD (.e rfl)) ?_
          refine AL.nil ?_
          refine bq_n ?_
          obtain rfl := Option.some.inj hm
          exact nq ⟨_, rfl, ⟨[], rfl, rfl, rfl, ⟨(.d rfl), (.d rfl), (.d rfl), (.d rfl), trivial⟩, trivial, .nil⟩⟩
        · replace hm := iteF hc3 hm
          refine AW.skip ?_
          refine bq_n ?_
          obtain rfl := Option.some.inj hm
          exact nq ⟨_, rfl, ⟨[], rfl, rfl, rfl, ⟨(.d rfl), (.d rfl), (.d rfl), (.d rfl), trivial⟩, trivial, .nil⟩⟩
      · rintro ⟨s17, s18⟩ rfl
        replace hm := hkj1
        try dsimp only at hm
        refine AW.region ?_
        refine AL.s rfl (op_moveD (.e rfl)) ?_
        refine AL.s rfl (op_addw (.r rfl) (.r rfl)) ?_
        refine AL.s rfl (op_assignD (.e rfl)) ?_
        refine AL.nil ?_
        obtain rfl := Option.some.inj hm
        exact nq ⟨_, hI2, ⟨[], rfl, rfl, rfl, ⟨(.d rfl), (.d rfl), (.d rfl), (.d rfl), trivial⟩, trivial, .nil⟩⟩
    · replace hm := iteF hc2 hm
      refine AW.exit ?_
      refine tq_exit ?_
      refine tq_exit ?_
      obtain rfl := Option.some.inj hm
      obtain rfl := Option.some.inj hI2
      replace hm := hk2
      try dsimp only at hm
      refine bq_hit ?_
      refine bq_n ?_
      obtain rfl := Option.some.inj hm
      exact nq ⟨_, hI1, ⟨[], rfl, rfl, rfl, ⟨(.d rfl), (.d rfl), (.d rfl), trivial⟩, trivial, .nil⟩⟩
  · replace hm := iteF hc1 hm
    refine AW.exit ?_
    refine tq_exit ?_
    refine tq_exit ?_
    obtain rfl := Option.some.inj hm
    obtain rfl := Option.some.inj hI1
    replace hm := hk1
    try dsimp only at hm
    refine bq_hit ?_
    refine nq ?_
    refine AW.seqR ?_
    refine AL.s rfl (op_moveD (.e rfl)) ?_
    refine AL.s rfl (op_assignD (.e rfl)) ?_
    refine AL.nil ?_
    refine AW.ret ?_
    obtain rfl := Option.some.inj hm
    exact EndQ.d (.tmp (.e rfl) .nil) rfl rfl

set_option maxHeartbeats 20000000 in
theorem m_ref32_apart_ok {n : Nat} {a1 : (List SConstraint)} {a2 : Int} {a3 : Int} {r : Bool} (hm : m_ref32_apart n a1 a2 a3 = some r) : Fn Try.prog 51 [(.sl (a1.map SConstraint.e)), (.int .i64 a2), (.int .i64 a3)] (.bool r) := by
  unfold m_ref32_apart at hm
  refine Fn.of_AW (fnn := Try.f51) Try.func51 rfl (Nat.le_of_ble_eq_true rfl) (fun g0 w0 hw0 => ?_)
  refine AW.reset 0 [(0, .d (.sl (a1.map SConstraint.e))), (1, .d (.int .i64 a2)), (2, .d (.int .i64 a3))] [] (WOK.g0 hw0 (by simp)) ⟨[], rfl, rfl, rfl, ⟨(.d rfl), (.d rfl), (.d rfl), trivial⟩, trivial, .nil⟩ ?_
  refine AW.seqR ?_
  refine AL.s rfl (op_assignD (.e rfl)) ?_
  refine AL.nil ?_
  refine AW.seqR ?_
  refine AL.s rfl (op_moveD (.e rfl)) ?_
  refine AL.s rfl (op_moveD (.e rfl)) ?_
  obtain ⟨v4, hv4, hm⟩ := bindE hm
  refine AL.s rfl (op_fn Try.call42 (.e rfl) (.cons (.r rfl) (.cons (.r rfl) .nil)) (m_ref32_group_ok hv4)) ?_
  refine AL.s rfl (op_moveD (.e rfl)) ?_
  refine AL.s rfl (op_moveD (.e rfl)) ?_
  obtain ⟨v5, hv5, hm⟩ := bindE hm
  refine AL.s rfl (op_fn Try.call42 (.e rfl) (.cons (.r rfl) (.cons (.r rfl) .nil)) (m_ref32_group_ok hv5)) ?_
  refine AL.s rfl (op_assignD (.e rfl)) ?_
  refine AL.s rfl (op_assignD (.e rfl)) ?_
  refine AL.nil ?_
  refine AW.seq ?_
  refine AW.seqR ?_
  refine AL.s rfl (op_assignD (.e rfl)) ?_
  refine AL.nil ?_
  refine AW.block ?_
  obtain ⟨t_1, hI1, hk1⟩ := bindE hm
  refine AW.loopS (σ := Int) (τ := (Bool ⊕ Unit)) 0 (fun x => [(0, .d (.sl (a1.map SConstraint.e))), (7, .d (.sl (v4.map D.i))), (8, .d (.sl (v5.map D.i))), (9, .d (.int .i64 x))]) (fun x => []) hI1 (WOK.g0 hw0 (by simp)) ⟨[], rfl, rfl, rfl, ⟨(.d rfl), (.d rfl), (.d rfl), (.d rfl), trivial⟩, trivial, .nil⟩ ?_
  rintro n1 s6 hI1
  obtain ⟨y_1, hm, hI1⟩ := iterS hI1
  replace hm : m_ref32_apart_L1 n _ _ _ s6 = some y_1 := hm
  unfold m_ref32_apart_L1 at hm
  try dsimp only at hm
  refine AW.seq ?_
  refine AW.seqR ?_
  refine AL.s rfl (op_moveD (.e rfl)) ?_
  refine AL.s rfl (op_moveD (.e rfl)) ?_
  refine AL.s rfl (op_lenM (f := SConstraint.e) (.r rfl) sl22) ?_
  refine AL.s rfl (op_lss (.r rfl) (.r rfl)) ?_
  refine AL.nil ?_
  refine AW.cond (b := _) rfl (fun hc1 => ?_) (fun hc1 => ?_)
  · replace hm := iteT hc1 hm
    refine AW.skip ?_
    refine nq ?_
    refine AW.seq ?_
    refine AW.block ?_
    refine AW.seqR ?_
    refine AL.s rfl (op_moveD (.e rfl)) ?_
    refine AL.s rfl (op_moveD (.e rfl)) ?_
    obtain ⟨v7, hv7, hm⟩ := bindE hm
    refine AL.s rfl (op_indexAddrM (f := SConstraint.e) (.r rfl) (.r rfl) hv7 enSConstraint sl22) ?_
    refine AL.s rfl (op_loadA (.e rfl) rfl ag50) ?_
    refine AL.s rfl (op_alloc (n := 0) zr50 rfl) ?_
    refine AL.s rfl (op_store (.e rfl) (.e rfl) rfl rfl rfl ⟨_, rfl, rfl⟩ rfl (Nat.le_of_ble_eq_true rfl)) ?_
    refine AL.nil ?_
    refine AW.seqR ?_
    refine AL.s rfl (op_field_ptr (.e rfl) fd50_0) ?_
    refine AL.s rfl (op_load_ptr1 (.e rfl) rfl rfl sc3) ?_
    refine AL.s rfl (op_eql (.r rfl) (.r rfl)) ?_
    refine AL.s rfl (op_moveD (.e rfl)) ?_
    refine AL.sT rfl rfl rfl rfl (fun g => op_moveD (.e rfl)) ?_
    refine AL.sT rfl rfl rfl rfl (fun g => op_field_ptr (.e rfl) fd50_1) ?_
    refine AL.sT rfl rfl rfl rfl (fun g => op_load_ptr1 (.we g rfl) rfl rfl sc3) ?_
    obtain ⟨v8, hv8, hm⟩ := bindE hm
    refine AL.sT rfl rfl rfl rfl (fun g => op_fn Try.call27 (.e rfl) (.cons (.we g rfl rfl) (.cons (.we g rfl rfl) .nil)) (m_ref32_Has_ok (iteT g hv8))) ?_
    refine AL.sT rfl rfl rfl rfl (fun g => op_moveD (.we g rfl)) ?_
    refine AL.sTT rfl rfl rfl rfl (fun gp g => op_moveD (.e rfl)) ?_
    refine AL.sTT rfl rfl rfl rfl (fun gp g => op_field_ptr (.e rfl) fd50_2) ?_
    refine AL.sTT rfl rfl rfl rfl (fun gp g => op_load_ptr1 (.we (an gp g) rfl) rfl rfl sc3) ?_
    obtain ⟨v9, hv9, hm⟩ := bindE hm
    refine AL.sTT rfl rfl rfl rfl (fun gp g => op_fn Try.call27 (.e rfl) (.cons (.we (an gp g) rfl rfl) (.cons (.we (an gp g) rfl rfl) .nil)) (m_ref32_Has_ok (iteT (an gp g) hv9))) ?_
    refine AL.sT rfl rfl rfl rfl (fun g => op_and (.we g rfl rfl) (fun h => (.we (an g h) rfl rfl)) rfl) ?_
    refine AL.sT rfl rfl rfl rfl (fun g => op_moveD (.we g rfl)) ?_
    refine AL.sFF rfl rfl rfl rfl (fun gp g => op_moveD (.e rfl)) ?_
    refine AL.sFF rfl rfl rfl rfl (fun gp g => op_field_ptr (.e rfl) fd50_2) ?_
    refine AL.sFF rfl rfl rfl rfl (fun gp g => op_load_ptr1 (.we (an gp (nt g)) rfl) rfl rfl sc3) ?_
    obtain ⟨v10, hv10, hm⟩ := bindE hm
    refine AL.sFF rfl rfl rfl rfl (fun gp g => op_fn Try.call27 (.e rfl) (.cons (.we (an gp (nt g)) rfl rfl) (.cons (.we (an gp (nt g)) rfl rfl) .nil)) (m_ref32_Has_ok (iteT (an gp (nt g)) hv10))) ?_
    refine AL.sFF rfl rfl rfl rfl (fun gp g => op_moveD (.we (an gp (nt g)) rfl)) ?_
    refine AL.sTT rfl rfl rfl rfl (fun gp g => op_moveD (.e rfl)) ?_
    refine AL.sTT rfl rfl rfl rfl (fun gp g => op_field_ptr (.e rfl) fd50_1) ?_
    refine AL.sTT rfl rfl rfl rfl (fun gp g => op_load_ptr1 (.we (an gp g) rfl) rfl rfl sc3) ?_
    obtain ⟨v11, hv11, hm⟩ := bindE hm
    refine AL.sTT rfl rfl rfl rfl (fun gp g => op_fn Try.call27 (.e rfl) (.cons (.we (an gp g) rfl rfl) (.cons (.we (an gp g) rfl rfl) .nil)) (m_ref32_Has_ok (iteT (an gp g) hv11))) ?_
    refine AL.sFF rfl rfl rfl rfl (fun gp g => op_and (.we (an gp (nt g)) rfl rfl) (fun h => (.we (an (an gp (nt g)) h) rfl rfl)) rfl) ?_
    refine AL.sT rfl rfl rfl rfl (fun g => op_or (.we g rfl rfl) rfl (fun h => (.we (an g (nt h)) rfl rfl))) ?_
    refine AL.s rfl (op_and (.r rfl) (fun h => (.we h rfl rfl)) rfl) ?_
    refine AL.nil ?_
    refine AW.cond (b := _) rfl (fun hc2 => ?_) (fun hc2 => ?_)
    · replace hm := iteT hc2 hm
      refine AW.seqR ?_
      refine AL.s rfl (op_assignD (.e rfl)) ?_
      refine AL.nil ?_
      refine AW.ret ?_
      refine bq_ret ?_
      refine tq_ret ?_
      refine tq_ret ?_
      obtain rfl := Option.some.inj hm
      obtain rfl := Option.some.inj hI1
      replace hm := hk1
      try dsimp only at hm
      refine bq_ret ?_
      refine tq_ret ?_
      obtain rfl := Option.some.inj hm
      exact EndQ.d (.tmp (.e rfl) .nil) rfl rfl
    · replace hm := iteF hc2 hm
      refine AW.skip ?_
      refine bq_n ?_
      refine nq ?_
      refine AW.region ?_
      refine AL.s rfl (op_moveD (.e rfl)) ?_
      refine AL.s rfl (op_addw (.r rfl) (.r rfl)) ?_
      refine AL.s rfl (op_assignD (.e rfl)) ?_
      refine AL.nil ?_
      obtain rfl := Option.some.inj hm
      exact nq ⟨_, hI1, ⟨[], rfl, rfl, rfl, ⟨(.d rfl), (.d rfl), (.d rfl), (.d rfl), trivial⟩, trivial, .nil⟩⟩
  · replace hm := iteF hc1 hm
    refine AW.exit ?_
    refine tq_exit ?_
    refine tq_exit ?_
    obtain rfl := Option.some.inj hm
    obtain rfl := Option.some.inj hI1
    replace hm := hk1
    try dsimp only at hm
    refine bq_hit ?_
    refine nq ?_
    refine AW.reset 0 [] [] (WOK.g0 hw0 (by simp)) ⟨[], rfl, rfl, rfl, trivial, trivial, .nil⟩ ?_
    refine AW.seqR ?_
    refine AL.s rfl (op_assignD (.e rfl)) ?_
    refine AL.nil ?_
    refine AW.ret ?_
    obtain rfl := Option.some.inj hm
    exact EndQ.d (.tmp (.e rfl) .nil) rfl rfl

set_option maxHeartbeats 20000000 in
theorem m_ref32_Linked_ok {n : Nat} {a1 : (List SConstraint)} {a2 : Int} {a3 : Int} {r : Bool} (hm : m_ref32_Linked n a1 a2 a3 = some r) : Fn Try.prog 26 [(.sl (a1.map SConstraint.e)), (.int .i64 a2), (.int .i64 a3)] (.bool r) := by
  unfold m_ref32_Linked at hm
  refine Fn.of_AW (fnn := Try.f26) Try.func26 rfl (Nat.le_of_ble_eq_true rfl) (fun g0 w0 hw0 => ?_)
  refine AW.reset 0 [(0, .d (.sl (a1.map SConstraint.e))), (1, .d (.int .i64 a2)), (2, .d (.int .i64 a3))] [] (WOK.g0 hw0 (by simp)) ⟨[], rfl, rfl, rfl, ⟨(.d rfl), (.d rfl), (.d rfl), trivial⟩, trivial, .nil⟩ ?_
  refine AW.seqR ?_
  refine AL.s rfl (op_assignD (.e rfl)) ?_
  refine AL.nil ?_
  refine AW.seq ?_
  refine AW.seqR ?_
  refine AL.s rfl (op_assignD (.e rfl)) ?_
  refine AL.nil ?_
  refine AW.block ?_
  obtain ⟨t_1, hI1, hk1⟩ := bindE hm
  refine AW.loopS (σ := Int) (τ := (Bool ⊕ Unit)) 0 (fun x => [(0, .d (.sl (a1.map SConstraint.e))), (1, .d (.int .i64 a2)), (2, .d (.int .i64 a3)), (7, .d (.int .i64 x))]) (fun x => []) hI1 (WOK.g0 hw0 (by simp)) ⟨[], rfl, rfl, rfl, ⟨(.d rfl), (.d rfl), (.d rfl), (.d rfl), trivial⟩, trivial, .nil⟩ ?_
  rintro n1 s4 hI1
  obtain ⟨y_1, hm, hI1⟩ := iterS hI1
  replace hm : m_ref32_Linked_L1 n _ _ _ s4 = some y_1 := hm
  unfold m_ref32_Linked_L1 at hm
  try dsimp only at hm
  refine AW.seq ?_
  refine AW.seqR ?_
  refine AL.s rfl (op_moveD (.e rfl)) ?_
  refine AL.s rfl (op_moveD (.e rfl)) ?_
  refine AL.s rfl (op_lenM (f := SConstraint.e) (.r rfl) sl22) ?_
  refine AL.s rfl (op_lss (.r rfl) (.r rfl)) ?_
  refine AL.nil ?_
  refine AW.cond (b := _) rfl (fun hc1 => ?_) (fun hc1 => ?_)
  · replace hm := iteT hc1 hm
    refine AW.skip ?_
    refine nq ?_
    refine AW.seq ?_
    refine AW.block ?_
    refine AW.seqR ?_
    refine AL.s rfl (op_moveD (.e rfl)) ?_
    refine AL.s rfl (op_moveD (.e rfl)) ?_
    obtain ⟨v5, hv5, hm⟩ := bindE hm
    refine AL.s rfl (op_indexAddrM (f := SConstraint.e) (.r rfl) (.r rfl) hv5 enSConstraint sl22) ?_
    refine AL.s rfl (op_field_vp (.e rfl) fd50_0) ?_
    refine AL.s rfl (op_load_vp1 (.e rfl) rfl sc3) ?_
    refine AL.s rfl (op_eql (.r rfl) (.r rfl)) ?_
    refine AL.s rfl (op_moveD (.e rfl)) ?_
    refine AL.sT rfl rfl rfl rfl (fun g => op_moveD (.e rfl)) ?_
    refine AL.sT rfl rfl rfl rfl (fun g => op_moveD (.e rfl)) ?_
    obtain ⟨v6, hv6, hm⟩ := bindE hm
    refine AL.sT rfl rfl rfl rfl (fun g => op_indexAddrM (f := SConstraint.e) (.we g rfl rfl) (.we g rfl rfl) (iteT g hv6) enSConstraint sl22) ?_
    refine AL.sT rfl rfl rfl rfl (fun g => op_field_vp (.we g rfl) fd50_1) ?_
    refine AL.sT rfl rfl rfl rfl (fun g => op_load_vp1 (.we g rfl) rfl sc3) ?_
    refine AL.sT rfl rfl rfl rfl (fun g => op_moveD (.e rfl)) ?_
    refine AL.sT rfl rfl rfl rfl (fun g => op_eql (.we g rfl rfl) (.we g rfl rfl)) ?_
    refine AL.sT rfl rfl rfl rfl (fun g => op_moveD (.we g rfl)) ?_
    refine AL.sTT rfl rfl rfl rfl (fun gp g => op_moveD (.e rfl)) ?_
    refine AL.sTT rfl rfl rfl rfl (fun gp g => op_moveD (.e rfl)) ?_
    obtain ⟨v7, hv7, hm⟩ := bindE hm
    refine AL.sTT rfl rfl rfl rfl (fun gp g => op_indexAddrM (f := SConstraint.e) (.we (an gp g) rfl rfl) (.we (an gp g) rfl rfl) (iteT (an gp g) hv7) enSConstraint sl22) ?_
    refine AL.sTT rfl rfl rfl rfl (fun gp g => op_field_vp (.we (an gp g) rfl) fd50_2) ?_
    refine AL.sTT rfl rfl rfl rfl (fun gp g => op_load_vp1 (.we (an gp g) rfl) rfl sc3) ?_
    refine AL.sTT rfl rfl rfl rfl (fun gp g => op_moveD (.e rfl)) ?_
    refine AL.sTT rfl rfl rfl rfl (fun gp g => op_eql (.we (an gp g) rfl rfl) (.we (an gp g) rfl rfl)) ?_
    refine AL.sT rfl rfl rfl rfl (fun g => op_and (.we g rfl rfl) (fun h => (.we (an g h) rfl rfl)) rfl) ?_
    refine AL.sT rfl rfl rfl rfl (fun g => op_moveD (.we g rfl)) ?_
    refine AL.sFF rfl rfl rfl rfl (fun gp g => op_moveD (.e rfl)) ?_
    refine AL.sFF rfl rfl rfl rfl (fun gp g => op_moveD (.e rfl)) ?_
    obtain ⟨v8, hv8, hm⟩ := bindE hm
    refine AL.sFF rfl rfl rfl rfl (fun gp g => op_indexAddrM (f := SConstraint.e) (.we (an gp (nt g)) rfl rfl) (.we (an gp (nt g)) rfl rfl) (iteT (an gp (nt g)) hv8) enSConstraint sl22) ?_
    refine AL.sFF rfl rfl rfl rfl (fun gp g => op_field_vp (.we (an gp (nt g)) rfl) fd50_1) ?_
    refine AL.sFF rfl rfl rfl rfl (fun gp g => op_load_vp1 (.we (an gp (nt g)) rfl) rfl sc3) ?_
    refine AL.sFF rfl rfl rfl rfl (fun gp g => op_moveD (.e rfl)) ?_
    refine AL.sFF rfl rfl rfl rfl (fun gp g => op_eql (.we (an gp (nt g)) rfl rfl) (.we (an gp (nt g)) rfl rfl)) ?_
    refine AL.sFF rfl rfl rfl rfl (fun gp g => op_moveD (.we (an gp (nt g)) rfl)) ?_
    refine AL.sTT rfl rfl rfl rfl (fun gp g => op_moveD (.e rfl)) ?_
    refine AL.sTT rfl rfl rfl rfl (fun gp g => op_moveD (.e rfl)) ?_
    obtain ⟨v9, hv9, hm⟩ := bindE hm
    refine AL.sTT rfl rfl rfl rfl (fun gp g => op_indexAddrM (f := SConstraint.e) (.we (an gp g) rfl rfl) (.we (an gp g) rfl rfl) (iteT (an gp g) hv9) enSConstraint sl22) ?_
    refine AL.sTT rfl rfl rfl rfl (fun gp g => op_field_vp (.we (an gp g) rfl) fd50_2) ?_
    refine AL.sTT rfl rfl rfl rfl (fun gp g => op_load_vp1 (.we (an gp g) rfl) rfl sc3) ?_
    refine AL.sTT rfl rfl rfl rfl (fun gp g => op_moveD (.e rfl)) ?_
    refine AL.sTT rfl rfl rfl rfl (fun gp g => op_eql (.we (an gp g) rfl rfl) (.we (an gp g) rfl rfl)) ?_
    refine AL.sFF rfl rfl rfl rfl (fun gp g => op_and (.we (an gp (nt g)) rfl rfl) (fun h => (.we (an (an gp (nt g)) h) rfl rfl)) rfl) ?_
    refine AL.sT rfl rfl rfl rfl (fun g => op_or (.we g rfl rfl) rfl (fun h => (.we (an g (nt h)) rfl rfl))) ?_
    refine AL.s rfl (op_and (.r rfl) (fun h => (.we h rfl rfl)) rfl) ?_
    refine AL.nil ?_
    refine AW.cond (b := _) rfl (fun hc2 => ?_) (fun hc2 => ?_)
    · replace hm := iteT hc2 hm
      refine AW.reset 0 [] [] (WOK.g0 hw0 (by simp)) ⟨[], rfl, rfl, rfl, trivial, trivial, .nil⟩ ?_
      refine AW.seqR ?_
      refine AL.s rfl (op_assignD (.e rfl)) ?_
      refine AL.nil ?_
      refine AW.ret ?_
      refine bq_ret ?_
      refine tq_ret ?_
      refine tq_ret ?_
      obtain rfl := Option.some.inj hm
      obtain rfl := Option.some.inj hI1
      replace hm := hk1
      try dsimp only at hm
      refine bq_ret ?_
      refine tq_ret ?_
      obtain rfl := Option.some.inj hm
      exact EndQ.d (.tmp (.e rfl) .nil) rfl rfl
    · replace hm := iteF hc2 hm
      refine AW.skip ?_
      refine bq_n ?_
      refine nq ?_
      refine AW.region ?_
      refine AL.s rfl (op_moveD (.e rfl)) ?_
      refine AL.s rfl (op_addw (.r rfl) (.r rfl)) ?_
      refine AL.s rfl (op_assignD (.e rfl)) ?_
      refine AL.nil ?_
      obtain rfl := Option.some.inj hm
      exact nq ⟨_, hI1, ⟨[], rfl, rfl, rfl, ⟨(.d rfl), (.d rfl), (.d rfl), (.d rfl), trivial⟩, trivial, .nil⟩⟩
  · replace hm := iteF hc1 hm
    refine AW.exit ?_
    refine tq_exit ?_
    refine tq_exit ?_
    obtain rfl := Option.some.inj hm
    obtain rfl := Option.some.inj hI1
    replace hm := hk1
    try dsimp only at hm
    refine bq_hit ?_
    refine nq ?_
    refine AW.seqR ?_
    refine AL.s rfl (op_assignD (.e rfl)) ?_
    refine AL.nil ?_
    refine AW.ret ?_
    obtain rfl := Option.some.inj hm
    exact EndQ.d (.tmp (.e rfl) .nil) rfl rfl

set_option maxHeartbeats 20000000 in
theorem m_ref32_place_ok {n : Nat} {a1 : (List Int)} {a2 : Int} {r : Int} (hm : m_ref32_place n a1 a2 = some r) : Fn Try.prog 65 [(.sl (a1.map D.i)), (.int .i64 a2)] (.int .i64 r) := by
  unfold m_ref32_place at hm
  refine Fn.of_AW (fnn := Try.f65) Try.func65 rfl (Nat.le_of_ble_eq_true rfl) (fun g0 w0 hw0 => ?_)
  refine AW.seqR ?_
  refine AL.s rfl (op_assignD (.e rfl)) ?_
  refine AL.nil ?_
  refine AW.reset 0 [(0, .d (.sl (a1.map D.i))), (1, .d (.int .i64 a2))] [] (WOK.g0 hw0 (by simp)) ⟨[], rfl, rfl, rfl, ⟨(.d rfl), (.d rfl), trivial⟩, trivial, .nil⟩ ?_
  refine AW.seqR ?_
  refine AL.s rfl (op_assignD (.e rfl)) ?_
  refine AL.nil ?_
  refine AW.seq ?_
  refine AW.block ?_
  obtain ⟨t_1, hI1, hk1⟩ := bindE hm
  refine AW.loopS (σ := Int) (τ := Int) 0 (fun x => [(0, .d (.sl (a1.map D.i))), (1, .d (.int .i64 a2)), (5, .d (.int .i64 x))]) (fun x => []) hI1 (WOK.g0 hw0 (by simp)) ⟨[], rfl, rfl, rfl, ⟨(.d rfl), (.d rfl), (.d rfl), trivial⟩, trivial, .nil⟩ ?_
  rintro n1 s3 hI1
  obtain ⟨y_1, hm, hI1⟩ := iterS hI1
  replace hm : m_ref32_place_L1 n _ _ s3 = some y_1 := hm
  unfold m_ref32_place_L1 at hm
  try dsimp only at hm
  refine AW.seq ?_
  refine AW.seqR ?_
  refine AL.s rfl (op_moveD (.e rfl)) ?_
  refine AL.s rfl (op_moveD (.e rfl)) ?_
  obtain ⟨v4, hv4, hm⟩ := bindE hm
  refine AL.s rfl (op_indexAddrM (f := D.i) (.r rfl) (.r rfl) hv4 En.i sl42) ?_
  refine AL.s rfl (op_load_vp1 (.e rfl) rfl sc3) ?_
  refine AL.s rfl (op_moveD (.e rfl)) ?_
  refine AL.s rfl (op_neq (.r rfl) (.r rfl)) ?_
  refine AL.nil ?_
  refine AW.cond (b := _) rfl (fun hc1 => ?_) (fun hc1 => ?_)
  · replace hm := iteT hc1 hm
    refine AW.skip ?_
    refine nq ?_
    refine AW.block ?_
    refine AW.region ?_
    refine AL.s rfl (op_moveD (.e rfl)) ?_
    refine AL.s rfl (op_addw (.r rfl) (.r rfl)) ?_
    refine AL.s rfl (op_assignD (.e rfl)) ?_
    refine AL.nil ?_
    refine bq_n ?_
    obtain rfl := Option.some.inj hm
    exact nq ⟨_, hI1, ⟨[], rfl, rfl, rfl, ⟨(.d rfl), (.d rfl), (.d rfl), trivial⟩, trivial, .nil⟩⟩
  · replace hm := iteF hc1 hm
    refine AW.exit ?_
    refine tq_exit ?_
    refine tq_exit ?_
    obtain rfl := Option.some.inj hm
    obtain rfl := Option.some.inj hI1
    replace hm := hk1
    try dsimp only at hm
    refine bq_hit ?_
    refine nq ?_
    refine AW.seqR ?_
    refine AL.s rfl (op_moveD (.e rfl)) ?_
    refine AL.s rfl (op_assignD (.e rfl)) ?_
    refine AL.nil ?_
    refine AW.ret ?_
    obtain rfl := Option.some.inj hm
    exact EndQ.d (.tmp (.e rfl) .nil) rfl rfl

set_option maxHeartbeats 20000000 in
theorem m_ref32_path_ok {n : Nat} {a1 : (List SConstraint)} {a2 : Int} {a3 : Int} {r : (List Int)} (hm : m_ref32_path n a1 a2 a3 = some r) : Fn Try.prog 43 [(.sl (a1.map SConstraint.e)), (.int .i64 a2), (.int .i64 a3)] (.sl (r.map D.i)) := by
  unfold m_ref32_path at hm
  refine Fn.of_AW (fnn := Try.f43) Try.func43 rfl (Nat.le_of_ble_eq_true rfl) (fun g0 w0 hw0 => ?_)
  refine AW.reset 0 [(0, .d (.sl (a1.map SConstraint.e))), (1, .d (.int .i64 a2)), (2, .d (.int .i64 a3))] [] (WOK.g0 hw0 (by simp)) ⟨[], rfl, rfl, rfl, ⟨(.d rfl), (.d rfl), (.d rfl), trivial⟩, trivial, .nil⟩ ?_
  refine AW.seqR ?_
  refine AL.s rfl (op_assignN (.e rfl)) ?_
  refine AL.nil ?_
  refine AW.seqR ?_
  refine AL.s rfl (op_moveD (.e rfl)) ?_
  refine AL.s rfl (op_moveD (.e rfl)) ?_
  obtain ⟨v4, hv4, hm⟩ := bindE hm
  refine AL.s rfl (op_fn Try.call42 (.e rfl) (.cons (.r rfl) (.cons (.r rfl) .nil)) (m_ref32_group_ok hv4)) ?_
  refine AL.s rfl (op_assignD (.e rfl)) ?_
  refine AL.nil ?_
  refine AW.seqR ?_
  refine AL.s rfl (op_moveD (.e rfl)) ?_
  refine AL.s rfl (op_lenM (f := D.i) (.r rfl) sl42) ?_
  obtain ⟨v5, hv5, hm⟩ := bindE hm
  refine AL.s rfl (op_makeM (n := 0) (f := D.i) (.r rfl) sl42 zr3 rfl rfl hv5) ?_
  refine AL.s rfl (op_assignH (.e rfl)) ?_
  refine AL.nil ?_
  refine AW.seq ?_
  refine AW.seqR ?_
  refine AL.s rfl (op_assignD (.e rfl)) ?_
  refine AL.nil ?_
  refine AW.block ?_
  obtain ⟨t_1, hI1, hk1⟩ := bindE hm
  refine AW.loopS (σ := (Int × (List Int))) (τ := (List Int)) 0 (fun x => [(0, .d (.sl (a1.map SConstraint.e))), (1, .d (.int .i64 a2)), (2, .d (.int .i64 a3)), (7, .d (.sl (v4.map D.i))), (8, .hs 0 0 x.2.length 1), (9, .d (.int .i64 x.1))]) (fun x => [.lst (x.2.map D.i) 3 1]) hI1 (WOK.g0 hw0 (by simp)) ⟨[0], rfl, rfl, rfl, ⟨(.d rfl), (.d rfl), (.d rfl), (.d rfl), (.hs rfl rfl), (.d rfl), trivial⟩, trivial, (.lst rfl .nil)⟩ ?_
  rintro n1 ⟨s6, s7⟩ hI1
  obtain ⟨y_1, hm, hI1⟩ := iterS hI1
  replace hm : m_ref32_path_L1 n _ _ s6 s7 = some y_1 := hm
  unfold m_ref32_path_L1 at hm
  try dsimp only at hm
  refine AW.seq ?_
  refine AW.seqR ?_
  refine AL.s rfl (op_moveD (.e rfl)) ?_
  refine AL.s rfl (op_moveD (.e rfl)) ?_
  refine AL.s rfl (op_lenM (f := D.i) (.r rfl) sl42) ?_
  refine AL.s rfl (op_lss (.r rfl) (.r rfl)) ?_
  refine AL.nil ?_
  refine AW.cond (b := _) rfl (fun hc1 => ?_) (fun hc1 => ?_)
  · replace hm := iteT hc1 hm
    refine AW.skip ?_
    refine nq ?_
    obtain ⟨t_j1, hm, hkj1⟩ := bindE hm
    refine AW.cutS (α := (List Int)) 0 (fun x => x = t_j1) (fun x => [(0, .d (.sl (a1.map SConstraint.e))), (1, .d (.int .i64 a2)), (2, .d (.int .i64 a3)), (7, .d (.sl (v4.map D.i))), (8, .hs 0 0 x.length 1), (9, .d (.int .i64 s6))]) (fun x => [.lst (x.map D.i) 3 1]) (WOK.g0 hw0 (by simp)) ?_ ?_
    · skip
      refine AW.block ?_
      refine AW.seqR ?_
      refine AL.s rfl (op_moveH (.e rfl)) ?_
      refine AL.s rfl (op_moveD (.e rfl)) ?_
      refine AL.s rfl (op_moveD (.e rfl)) ?_
      refine AL.s rfl (op_lenM (f := D.i) (.r rfl) sl42) ?_
      obtain ⟨v8, hv8, hm⟩ := bindE hm
      refine AL.s rfl (op_indexAddr_hs (f := D.i) (l := s7) (.e rfl) rfl rfl (.r rfl) hv8 sl42) ?_
      obtain ⟨v9, hv9, hm⟩ := bindE hm
      refine AL.s rfl (op_store_lp (f := D.i) (fun _ => rfl) (.e rfl) (.r rfl) rfl hv9 ⟨_, rfl, rfl⟩ En.i) ?_
      refine AL.nil ?_
      refine AW.seqR ?_
      refine AL.s rfl (op_moveD (.e rfl)) ?_
      refine AL.s rfl (op_moveD (.e rfl)) ?_
      obtain ⟨v10, hv10, hm⟩ := bindE hm
      refine AL.s rfl (op_indexAddrM (f := D.i) (.r rfl) (.r rfl) hv10 En.i sl42) ?_
      refine AL.s rfl (op_load_vp1 (.e rfl) rfl sc3) ?_
      refine AL.s rfl (op_moveD (.e rfl)) ?_
      refine AL.s rfl (op_eql (.r rfl) (.r rfl)) ?_
      refine AL.nil ?_
      refine AW.cond (b := _) rfl (fun hc2 => ?_) (fun hc2 => ?_)
      · replace hm := iteT hc2 hm
        refine AW.region ?_
        refine AL.s rfl (op_moveH (.e rfl)) ?_
        refine AL.s rfl (op_moveD (.e rfl)) ?_
        obtain ⟨v11, hv11, hm⟩ := bindE hm
        refine AL.s rfl (op_indexAddr_hs (f := D.i) (l := v9) (.e rfl) rfl (setI_len hv9) (.r rfl) hv11 sl42) ?_
        obtain ⟨v12, hv12, hm⟩ := bindE hm
        refine AL.s rfl (op_store_lp (f := D.i) (fun _ => rfl) (.e rfl) (.r rfl) rfl hv12 ⟨_, rfl, rfl⟩ En.i) ?_
        refine AL.nil ?_
        refine bq_n ?_
        obtain rfl := Option.some.inj hm
        exact nq ⟨_, rfl, ⟨[0], rfl, rfl, rfl, ⟨(.d rfl), (.d rfl), (.d rfl), (.d rfl), (.hs rfl ((setI_len hv12).trans (setI_len hv9)).symm), (.d rfl), trivial⟩, trivial, (.lst rfl .nil)⟩⟩
      · replace hm := iteF hc2 hm
        refine AW.skip ?_
        refine bq_n ?_
        obtain rfl := Option.some.inj hm
        exact nq ⟨_, rfl, ⟨[0], rfl, rfl, rfl, ⟨(.d rfl), (.d rfl), (.d rfl), (.d rfl), (.hs rfl (setI_len hv9).symm), (.d rfl), trivial⟩, trivial, (.lst rfl .nil)⟩⟩
    · rintro s13 rfl
      replace hm := hkj1
      try dsimp only at hm
      refine AW.region ?_
      refine AL.s rfl (op_moveD (.e rfl)) ?_
      refine AL.s rfl (op_addw (.r rfl) (.r rfl)) ?_
      refine AL.s rfl (op_assignD (.e rfl)) ?_
      refine AL.nil ?_
      obtain rfl := Option.some.inj hm
      exact nq ⟨_, hI1, ⟨[0], rfl, rfl, rfl, ⟨(.d rfl), (.d rfl), (.d rfl), (.d rfl), (.hs rfl rfl), (.d rfl), trivial⟩, trivial, (.lst rfl .nil)⟩⟩
  · replace hm := iteF hc1 hm
    refine AW.exit ?_
    refine tq_exit ?_
    refine tq_exit ?_
    obtain rfl := Option.some.inj hm
    obtain rfl := Option.some.inj hI1
    replace hm := hk1
    try dsimp only at hm
    refine bq_hit ?_
    refine nq ?_
    refine AW.seq ?_
    refine AW.seqR ?_
    refine AL.s rfl (op_assignD (.e rfl)) ?_
    refine AL.nil ?_
    refine AW.block ?_
    obtain ⟨t_2, hI2, hk2⟩ := bindE hm
    refine AW.loopS (σ := (Int × (List Int))) (τ := (List Int)) 0 (fun x => [(0, .d (.sl (a1.map SConstraint.e))), (1, .d (.int .i64 a2)), (2, .d (.int .i64 a3)), (7, .d (.sl (v4.map D.i))), (8, .hs 0 0 x.2.length 1), (10, .d (.int .i64 x.1))]) (fun x => [.lst (x.2.map D.i) 3 1]) hI2 (WOK.g0 hw0 (by simp)) ⟨[0], rfl, rfl, rfl, ⟨(.d rfl), (.d rfl), (.d rfl), (.d rfl), (.hs rfl rfl), (.d rfl), trivial⟩, trivial, (.lst rfl .nil)⟩ ?_
    rintro n2 ⟨s14, s15⟩ hI2
    obtain ⟨y_2, hm, hI2⟩ := iterS hI2
    replace hm : m_ref32_path_L2 n _ _ s14 s15 = some y_2 := hm
    unfold m_ref32_path_L2 at hm
    try dsimp only at hm
    refine AW.seq ?_
    refine AW.seqR ?_
    refine AL.s rfl (op_moveD (.e rfl)) ?_
    refine AL.s rfl (op_moveD (.e rfl)) ?_
    refine AL.s rfl (op_lenM (f := D.i) (.r rfl) sl42) ?_
    refine AL.s rfl (op_lss (.r rfl) (.r rfl)) ?_
    refine AL.nil ?_
    refine AW.cond (b := _) rfl (fun hc3 => ?_) (fun hc3 => ?_)
    · replace hm := iteT hc3 hm
      refine AW.skip ?_
      refine nq ?_
      refine AW.seq ?_
      refine AW.block ?_
      refine AW.seqR ?_
      refine AL.s rfl (op_assignD (.e rfl)) ?_
      refine AL.nil ?_
      refine AW.block ?_
      obtain ⟨t_3, hI3, hk3⟩ := bindE hm
      refine AW.loopS (σ := (Int × (List Int))) (τ := (List Int)) 0 (fun x => [(0, .d (.sl (a1.map SConstraint.e))), (1, .d (.int .i64 a2)), (2, .d (.int .i64 a3)), (7, .d (.sl (v4.map D.i))), (8, .hs 0 0 x.2.length 1), (10, .d (.int .i64 s14)), (11, .d (.int .i64 x.1))]) (fun x => [.lst (x.2.map D.i) 3 1]) hI3 (WOK.g0 hw0 (by simp)) ⟨[0], rfl, rfl, rfl, ⟨(.d rfl), (.d rfl), (.d rfl), (.d rfl), (.hs rfl rfl), (.d rfl), (.d rfl), trivial⟩, trivial, (.lst rfl .nil)⟩ ?_
      rintro n3 ⟨s16, s17⟩ hI3
      obtain ⟨y_3, hm, hI3⟩ := iterS hI3
      replace hm : m_ref32_path_L3 n _ _ _ s16 s17 = some y_3 := hm
      unfold m_ref32_path_L3 at hm
      try dsimp only at hm
      refine AW.seq ?_
      refine AW.seqR ?_
      refine AL.s rfl (op_moveD (.e rfl)) ?_
      refine AL.s rfl (op_moveD (.e rfl)) ?_
      refine AL.s rfl (op_lenM (f := D.i) (.r rfl) sl42) ?_
      refine AL.s rfl (op_lss (.r rfl) (.r rfl)) ?_
      refine AL.nil ?_
      refine AW.cond (b := _) rfl (fun hc4 => ?_) (fun hc4 => ?_)
      · replace hm := iteT hc4 hm
        refine AW.skip ?_
        refine nq ?_
        refine AW.seq ?_
        refine AW.block ?_
        refine AW.seqR ?_
        refine AL.s rfl (op_assignD (.e rfl)) ?_
        refine AL.nil ?_
        refine AW.block ?_
        obtain ⟨t_4, hI4, hk4⟩ := bindE hm
        refine AW.loopS (σ := (Int × (List Int))) (τ := (List Int)) 0 (fun x => [(0, .d (.sl (a1.map SConstraint.e))), (1, .d (.int .i64 a2)), (2, .d (.int .i64 a3)), (7, .d (.sl (v4.map D.i))), (8, .hs 0 0 x.2.length 1), (10, .d (.int .i64 s14)), (11, .d (.int .i64 s16)), (12, .d (.int .i64 x.1))]) (fun x => [.lst (x.2.map D.i) 3 1]) hI4 (WOK.g0 hw0 (by simp)) ⟨[0], rfl, rfl, rfl, ⟨(.d rfl), (.d rfl), (.d rfl), (.d rfl), (.hs rfl rfl), (.d rfl), (.d rfl), (.d rfl), trivial⟩, trivial, (.lst rfl .nil)⟩ ?_
        rintro n4 ⟨s18, s19⟩ hI4
        obtain ⟨y_4, hm, hI4⟩ := iterS hI4
        replace hm : m_ref32_path_L4 n _ _ _ _ s18 s19 = some y_4 := hm
        unfold m_ref32_path_L4 at hm
        try dsimp only at hm
        refine AW.seq ?_
        refine AW.seqR ?_
        refine AL.s rfl (op_moveD (.e rfl)) ?_
        refine AL.s rfl (op_moveD (.e rfl)) ?_
        refine AL.s rfl (op_lenM (f := D.i) (.r rfl) sl42) ?_
        refine AL.s rfl (op_lss (.r rfl) (.r rfl)) ?_
        refine AL.nil ?_
        refine AW.cond (b := _) rfl (fun hc5 => ?_) (fun hc5 => ?_)
        · replace hm := iteT hc5 hm
          refine AW.skip ?_
          refine nq ?_
          obtain ⟨t_j2, hm, hkj2⟩ := bindE hm
          refine AW.cutS (α := (List Int)) 0 (fun x => x = t_j2) (fun x => [(0, .d (.sl (a1.map SConstraint.e))), (1, .d (.int .i64 a2)), (2, .d (.int .i64 a3)), (7, .d (.sl (v4.map D.i))), (8, .hs 0 0 x.length 1), (10, .d (.int .i64 s14)), (11, .d (.int .i64 s16)), (12, .d (.int .i64 s18))]) (fun x => [.lst (x.map D.i) 3 1]) (WOK.g0 hw0 (by simp)) ?_ ?_
          · skip
            refine AW.block ?_
            refine AW.seqD [([], []), ([], []), ([0], []), ([0], []), ([], []), ([], []), ([], []), ([], []), ([], []), ([], []), ([], []), ([], []), ([], []), ([], []), ([], []), ([], []), ([], []), ([], [])] mo (by decide +kernel) ?_
            refine AD.s (ws := []) rfl rfl (fun H' _ hH => op_moveH (.e rfl)) ?_
            refine AD.s (ws := []) rfl rfl (fun H' _ hH => op_moveD (.e rfl)) ?_
            obtain ⟨v20, hv20, hm⟩ := bindE hm
            refine AD.s (ws := []) rfl rfl (fun H' _ hH => op_indexAddr_hs (f := D.i) (l := s19) (.e rfl) ((hH _ (by simp)).trans rfl) rfl (.r rfl) hv20 sl42) ?_
            obtain ⟨v21, hv21, hm⟩ := bindE hm
            refine AD.s (ws := []) rfl rfl (fun H' _ hH => op_load_lp (f := D.i) (fun _ => rfl) (.e rfl) ((hH _ (by simp)).trans rfl) hv21 sc3) ?_
            refine AD.s (ws := []) rfl rfl (fun H' _ hH => op_moveD (.e rfl)) ?_
            refine AD.s (ws := []) rfl rfl (fun H' _ hH => op_eql (.r rfl) (.r rfl)) ?_
            refine AD.s (ws := []) rfl rfl (fun H' _ hH => op_moveD (.e rfl)) ?_
            refine AD.sT rfl rfl rfl rfl (fun g H' _ hH => op_moveD (.e rfl)) ?_
            refine AD.sT rfl rfl rfl rfl (fun g H' _ hH => op_moveD (.e rfl)) ?_
            refine AD.sT rfl rfl rfl rfl (fun g H' _ hH => op_moveD (.e rfl)) ?_
            obtain ⟨v22, hv22, hm⟩ := bindE hm
            refine AD.sT rfl rfl rfl rfl (fun g H' _ hH => op_indexAddrM (f := D.i) (.we g rfl rfl) (.we g rfl rfl) (iteT g hv22) En.i sl42) ?_
            refine AD.sT rfl rfl rfl rfl (fun g H' _ hH => op_load_vp1 (.we g rfl) rfl sc3) ?_
            refine AD.sT rfl rfl rfl rfl (fun g H' _ hH => op_moveD (.e rfl)) ?_
            refine AD.sT rfl rfl rfl rfl (fun g H' _ hH => op_moveD (.e rfl)) ?_
            obtain ⟨v23, hv23, hm⟩ := bindE hm
            refine AD.sT rfl rfl rfl rfl (fun g H' _ hH => op_indexAddrM (f := D.i) (.we g rfl rfl) (.we g rfl rfl) (iteT g hv23) En.i sl42) ?_
            refine AD.sT rfl rfl rfl rfl (fun g H' _ hH => op_load_vp1 (.we g rfl) rfl sc3) ?_
            obtain ⟨v24, hv24, hm⟩ := bindE hm
            refine AD.sT rfl rfl rfl rfl (fun g H' _ hH => op_fn Try.call26 (.e rfl) (.cons (.we g rfl rfl) (.cons (.we g rfl rfl) (.cons (.we g rfl rfl) .nil))) (m_ref32_Linked_ok (iteT g hv24))) ?_
            refine AD.s (ws := []) rfl rfl (fun H' _ hH => op_and (.r rfl) (fun h => (.we h rfl rfl)) rfl) ?_
            refine AD.nil ?_
            refine AW.cond (b := _) rfl (fun hc6 => ?_) (fun hc6 => ?_)
            · replace hm := iteT hc6 hm
              refine AW.reset 0 [(0, .d (.sl (a1.map SConstraint.e))), (1, .d (.int .i64 a2)), (2, .d (.int .i64 a3)), (7, .d (.sl (v4.map D.i))), (8, .hs 0 0 s19.length 1), (10, .d (.int .i64 s14)), (11, .d (.int .i64 s16)), (12, .d (.int .i64 s18))] [.lst (s19.map D.i) 3 1] (WOK.g0 hw0 (by simp)) ⟨[0], rfl, rfl, rfl, ⟨(.d rfl), (.d rfl), (.d rfl), (.d rfl), (.hs rfl rfl), (.d rfl), (.d rfl), (.d rfl), trivial⟩, trivial, (.lst rfl .nil)⟩ ?_
              refine AW.region ?_
              refine AL.s rfl (op_moveH (.e rfl)) ?_
              refine AL.s rfl (op_moveD (.e rfl)) ?_
              refine AL.s rfl (op_moveH (.e rfl)) ?_
              refine AL.s rfl (op_moveD (.e rfl)) ?_
              obtain ⟨v25, hv25, hm⟩ := bindE hm
              refine AL.s rfl (op_indexAddr_hs (f := D.i) (l := s19) (.e rfl) rfl rfl (.r rfl) hv25 sl42) ?_
              obtain ⟨v26, hv26, hm⟩ := bindE hm
              refine AL.s rfl (op_load_lp (f := D.i) (fun _ => rfl) (.e rfl) rfl hv26 sc3) ?_
              refine AL.s rfl (op_moveD (.e rfl)) ?_
              refine AL.s rfl (op_addw (.r rfl) (.r rfl)) ?_
              refine AL.s rfl (op_min (.r rfl) (.r rfl)) ?_
              obtain ⟨v27, hv27, hm⟩ := bindE hm
              refine AL.s rfl (op_indexAddr_hs (f := D.i) (l := s19) (.e rfl) rfl rfl (.r rfl) hv27 sl42) ?_
              obtain ⟨v28, hv28, hm⟩ := bindE hm
              refine AL.s rfl (op_store_lp (f := D.i) (fun _ => rfl) (.e rfl) (.r rfl) rfl hv28 ⟨_, rfl, rfl⟩ En.i) ?_
              refine AL.nil ?_
              refine bq_n ?_
              obtain rfl := Option.some.inj hm
              exact nq ⟨_, rfl, ⟨[0], rfl, rfl, rfl, ⟨(.d rfl), (.d rfl), (.d rfl), (.d rfl), (.hs rfl (setI_len hv28).symm), (.d rfl), (.d rfl), (.d rfl), trivial⟩, trivial, (.lst rfl .nil)⟩⟩
            · replace hm := iteF hc6 hm
              refine AW.skip ?_
              refine bq_n ?_
              obtain rfl := Option.some.inj hm
              exact nq ⟨_, rfl, ⟨[0], rfl, rfl, rfl, ⟨(.d rfl), (.d rfl), (.d rfl), (.d rfl), (.hs rfl rfl), (.d rfl), (.d rfl), (.d rfl), trivial⟩, trivial, (.lst rfl .nil)⟩⟩
          · rintro s29 rfl
            replace hm := hkj2
            try dsimp only at hm
            refine AW.region ?_
            refine AL.s rfl (op_moveD (.e rfl)) ?_
            refine AL.s rfl (op_addw (.r rfl) (.r rfl)) ?_
            refine AL.s rfl (op_assignD (.e rfl)) ?_
            refine AL.nil ?_
            obtain rfl := Option.some.inj hm
            exact nq ⟨_, hI4, ⟨[0], rfl, rfl, rfl, ⟨(.d rfl), (.d rfl), (.d rfl), (.d rfl), (.hs rfl rfl), (.d rfl), (.d rfl), (.d rfl), trivial⟩, trivial, (.lst rfl .nil)⟩⟩
        · replace hm := iteF hc5 hm
          refine AW.exit ?_
          refine tq_exit ?_
          refine tq_exit ?_
          obtain rfl := Option.some.inj hm
          obtain rfl := Option.some.inj hI4
          replace hm := hk4
          try dsimp only at hm
          refine bq_hit ?_
          refine bq_n ?_
          refine nq ?_
          refine AW.region ?_
          refine AL.s rfl (op_moveD (.e rfl)) ?_
          refine AL.s rfl (op_addw (.r rfl) (.r rfl)) ?_
          refine AL.s rfl (op_assignD (.e rfl)) ?_
          refine AL.nil ?_
          obtain rfl := Option.some.inj hm
          exact nq ⟨_, hI3, ⟨[0], rfl, rfl, rfl, ⟨(.d rfl), (.d rfl), (.d rfl), (.d rfl), (.hs rfl rfl), (.d rfl), (.d rfl), trivial⟩, trivial, (.lst rfl .nil)⟩⟩
      · replace hm := iteF hc4 hm
        refine AW.exit ?_
        refine tq_exit ?_
        refine tq_exit ?_
        obtain rfl := Option.some.inj hm
        obtain rfl := Option.some.inj hI3
        replace hm := hk3
        try dsimp only at hm
        refine bq_hit ?_
        refine bq_n ?_
        refine nq ?_
        refine AW.region ?_
        refine AL.s rfl (op_moveD (.e rfl)) ?_
        refine AL.s rfl (op_addw (.r rfl) (.r rfl)) ?_
        refine AL.s rfl (op_assignD (.e rfl)) ?_
        refine AL.nil ?_
        obtain rfl := Option.some.inj hm
        exact nq ⟨_, hI2, ⟨[0], rfl, rfl, rfl, ⟨(.d rfl), (.d rfl), (.d rfl), (.d rfl), (.hs rfl rfl), (.d rfl), trivial⟩, trivial, (.lst rfl .nil)⟩⟩
    · replace hm := iteF hc3 hm
      refine AW.exit ?_
      refine tq_exit ?_
      refine tq_exit ?_
      obtain rfl := Option.some.inj hm
      obtain rfl := Option.some.inj hI2
      replace hm := hk2
      try dsimp only at hm
      refine bq_hit ?_
      refine nq ?_
      refine AW.seqR ?_
      refine AL.s rfl (op_moveD (.e rfl)) ?_
      refine AL.s rfl (op_buildSlice (ds := ([a2] : List Int).map D.i) sl42 (.cons (.r rfl) rfl (En.i.one _) .nil) rfl (by decide)) ?_
      refine AL.s rfl (op_assignE (.e rfl)) ?_
      refine AL.nil ?_
      refine AW.seq ?_
      refine AW.block ?_
      refine AW.tokenize (n := 1) 13 3 1 rfl rfl (by simp) ?_
      obtain ⟨t_5, hI5, hk5⟩ := bindE hm
      refine AW.loopS (σ := (List Int)) (τ := (List Int)) 0 (fun x => [(0, .d (.sl (a1.map SConstraint.e))), (2, .d (.int .i64 a3)), (7, .d (.sl (v4.map D.i))), (8, .hs 0 0 s15.length 1), (13, .tk 1 (x.map D.i))]) (fun x => [.lst (s15.map D.i) 3 1, .tok x.length 3 1]) hI5 (WOK.g0 hw0 (by simp)) ⟨[0, 1], rfl, rfl, rfl, ⟨(.d rfl), (.d rfl), (.d rfl), (.hs rfl rfl), (.tk rfl), trivial⟩, trivial, (.lst rfl (.tok rfl .nil))⟩ ?_
      rintro n5 s30 hI5
      obtain ⟨y_5, hm, hI5⟩ := iterS hI5
      replace hm : m_ref32_path_L5 n _ _ _ _ s30 = some y_5 := hm
      unfold m_ref32_path_L5 at hm
      try dsimp only at hm
      refine AW.seq ?_
      refine AW.seqR ?_
      refine AL.s rfl (op_moveT (.e rfl)) ?_
      refine AL.s rfl (op_moveT (.e rfl)) ?_
      refine AL.s rfl (op_lenM (f := D.i) (.r rfl) sl42) ?_
      refine AL.s rfl (op_subw (.r rfl) (.r rfl)) ?_
      obtain ⟨v31, hv31, hm⟩ := bindE hm
      refine AL.s rfl (op_indexAddrM (f := D.i) (.r rfl) (.r rfl) hv31 En.i sl42) ?_
      refine AL.s rfl (op_load_vp1 (.e rfl) rfl sc3) ?_
      refine AL.s rfl (op_moveD (.e rfl)) ?_
      refine AL.s rfl (op_neq (.r rfl) (.r rfl)) ?_
      refine AL.nil ?_
      refine AW.cond (b := _) rfl (fun hc7 => ?_) (fun hc7 => ?_)
      · replace hm := iteT hc7 hm
        refine AW.skip ?_
        refine nq ?_
        refine AW.block ?_
        refine AW.seqR ?_
        refine AL.s rfl (op_moveT (.e rfl)) ?_
        refine AL.s rfl (op_moveT (.e rfl)) ?_
        refine AL.s rfl (op_lenM (f := D.i) (.r rfl) sl42) ?_
        refine AL.s rfl (op_subw (.r rfl) (.r rfl)) ?_
        obtain ⟨v32, hv32, hm⟩ := bindE hm
        refine AL.s rfl (op_indexAddrM (f := D.i) (.r rfl) (.r rfl) hv32 En.i sl42) ?_
        refine AL.s rfl (op_load_vp1 (.e rfl) rfl sc3) ?_
        refine AL.s rfl (op_assignD (.e rfl)) ?_
        refine AL.nil ?_
        refine AW.seqR ?_
        refine AL.s rfl (op_assignD (.e rfl)) ?_
        refine AL.nil ?_
        refine AW.block ?_
        obtain ⟨t_6, hI6, hk6⟩ := bindE hm
        refine AW.loopS (σ := Int) (τ := (List Int)) 0 (fun x => [(0, .d (.sl (a1.map SConstraint.e))), (2, .d (.int .i64 a3)), (7, .d (.sl (v4.map D.i))), (8, .hs 0 0 s15.length 1), (13, .tk 1 (s30.map D.i)), (14, .d (.int .i64 v32)), (15, .d (.int .i64 x))]) (fun x => [.lst (s15.map D.i) 3 1, .tok s30.length 3 1]) hI6 (WOK.g0 hw0 (by simp)) ⟨[0, 1], rfl, rfl, rfl, ⟨(.d rfl), (.d rfl), (.d rfl), (.hs rfl rfl), (.tk rfl), (.d rfl), (.d rfl), trivial⟩, trivial, (.lst rfl (.tok rfl .nil))⟩ ?_
        rintro n6 s33 hI6
        obtain ⟨y_6, hm, hI6⟩ := iterS hI6
        replace hm : m_ref32_path_L6 n _ _ _ _ _ s33 = some y_6 := hm
        unfold m_ref32_path_L6 at hm
        try dsimp only at hm
        refine AW.seq ?_
        refine AW.seqR ?_
        refine AL.s rfl (op_moveD (.e rfl)) ?_
        refine AL.s rfl (op_moveD (.e rfl)) ?_
        refine AL.s rfl (op_lenM (f := D.i) (.r rfl) sl42) ?_
        refine AL.s rfl (op_lss (.r rfl) (.r rfl)) ?_
        refine AL.nil ?_
        refine AW.cond (b := _) rfl (fun hc8 => ?_) (fun hc8 => ?_)
        · replace hm := iteT hc8 hm
          refine AW.skip ?_
          refine nq ?_
          refine AW.seq ?_
          refine AW.block ?_
          refine AW.seqD [([], []), ([], []), ([0], []), ([0], []), ([], []), ([], []), ([], []), ([], []), ([0], []), ([0], []), ([], []), ([], []), ([], []), ([], []), ([], []), ([], []), ([], []), ([], []), ([], []), ([], []), ([], [])] mo (by decide +kernel) ?_
          refine AD.s (ws := []) rfl rfl (fun H' _ hH => op_moveH (.e rfl)) ?_
          refine AD.s (ws := []) rfl rfl (fun H' _ hH => op_moveD (.e rfl)) ?_
          obtain ⟨v34, hv34, hm⟩ := bindE hm
          refine AD.s (ws := []) rfl rfl (fun H' _ hH => op_indexAddr_hs (f := D.i) (l := s15) (.e rfl) ((hH _ (by simp)).trans rfl) rfl (.r rfl) hv34 sl42) ?_
          obtain ⟨v35, hv35, hm⟩ := bindE hm
          refine AD.s (ws := []) rfl rfl (fun H' _ hH => op_load_lp (f := D.i) (fun _ => rfl) (.e rfl) ((hH _ (by simp)).trans rfl) hv35 sc3) ?_
          refine AD.s (ws := []) rfl rfl (fun H' _ hH => op_moveH (.e rfl)) ?_
          refine AD.s (ws := []) rfl rfl (fun H' _ hH => op_moveD (.e rfl)) ?_
          refine AD.s (ws := []) rfl rfl (fun H' _ hH => op_moveD (.e rfl)) ?_
          obtain ⟨v36, hv36, hm⟩ := bindE hm
          refine AD.s (ws := []) rfl rfl (fun H' _ hH => op_fn Try.call65 (.e rfl) (.cons (.r rfl) (.cons (.r rfl) .nil)) (m_ref32_place_ok hv36)) ?_
          obtain ⟨v37, hv37, hm⟩ := bindE hm
          refine AD.s (ws := []) rfl rfl (fun H' _ hH => op_indexAddr_hs (f := D.i) (l := s15) (.e rfl) ((hH _ (by simp)).trans rfl) rfl (.r rfl) hv37 sl42) ?_
          obtain ⟨v38, hv38, hm⟩ := bindE hm
          refine AD.s (ws := []) rfl rfl (fun H' _ hH => op_load_lp (f := D.i) (fun _ => rfl) (.e rfl) ((hH _ (by simp)).trans rfl) hv38 sc3) ?_
          refine AD.s (ws := []) rfl rfl (fun H' _ hH => op_subw (.r rfl) (.r rfl)) ?_
          refine AD.s (ws := []) rfl rfl (fun H' _ hH => op_eql (.r rfl) (.r rfl)) ?_
          refine AD.s (ws := []) rfl rfl (fun H' _ hH => op_moveD (.e rfl)) ?_
          refine AD.sT rfl rfl rfl rfl (fun g H' _ hH => op_moveD (.e rfl)) ?_
          refine AD.sT rfl rfl rfl rfl (fun g H' _ hH => op_moveD (.e rfl)) ?_
          refine AD.sT rfl rfl rfl rfl (fun g H' _ hH => op_moveD (.e rfl)) ?_
          refine AD.sT rfl rfl rfl rfl (fun g H' _ hH => op_moveD (.e rfl)) ?_
          obtain ⟨v39, hv39, hm⟩ := bindE hm
          refine AD.sT rfl rfl rfl rfl (fun g H' _ hH => op_indexAddrM (f := D.i) (.we g rfl rfl) (.we g rfl rfl) (iteT g hv39) En.i sl42) ?_
          refine AD.sT rfl rfl rfl rfl (fun g H' _ hH => op_load_vp1 (.we g rfl) rfl sc3) ?_
          obtain ⟨v40, hv40, hm⟩ := bindE hm
          refine AD.sT rfl rfl rfl rfl (fun g H' _ hH => op_fn Try.call26 (.e rfl) (.cons (.we g rfl rfl) (.cons (.we g rfl rfl) (.cons (.we g rfl rfl) .nil))) (m_ref32_Linked_ok (iteT g hv40))) ?_
          refine AD.s (ws := []) rfl rfl (fun H' _ hH => op_and (.r rfl) (fun h => (.we h rfl rfl)) rfl) ?_
          refine AD.nil ?_
          refine AW.cond (b := _) rfl (fun hc9 => ?_) (fun hc9 => ?_)
          · replace hm := iteT hc9 hm
            refine AW.seqR ?_
            refine AL.s rfl (op_moveT (.e rfl)) ?_
            refine AL.s rfl (op_moveD (.e rfl)) ?_
            refine AL.s rfl (op_moveD (.e rfl)) ?_
            obtain ⟨v41, hv41, hm⟩ := bindE hm
            refine AL.s rfl (op_indexAddrM (f := D.i) (.r rfl) (.r rfl) hv41 En.i sl42) ?_
            refine AL.s rfl (op_load_vp1 (.e rfl) rfl sc3) ?_
            refine AL.s rfl (op_buildSlice (ds := ([v41] : List Int).map D.i) sl42 (.cons (.r rfl) rfl (En.i.one _) .nil) rfl (by decide)) ?_
            obtain ⟨v42, hv42, hm⟩ := bindE hm
            refine AL.s rfl (op_appendM (f := D.i) (l' := ([v41] : List Int)) sl42 (.e rfl) (.r rfl) rfl rfl En.i hv42) ?_
            refine AL.s rfl (op_assignT (.e rfl)) ?_
            refine AL.nil ?_
            refine AW.exit ?_
            refine bq_miss rfl ?_
            refine tq_exit ?_
            refine tq_exit ?_
            obtain rfl := Option.some.inj hm
            obtain rfl := Option.some.inj hI6
            replace hm := hk6
            try dsimp only at hm
            refine bq_hit ?_
            refine bq_n ?_
            obtain rfl := Option.some.inj hm
            exact nq ⟨_, hI5, ⟨[0, 1], rfl, rfl, rfl, ⟨(.d rfl), (.d rfl), (.d rfl), (.hs rfl rfl), (.tk rfl), trivial⟩, trivial, (.lst rfl (.tok rfl .nil))⟩⟩
          · replace hm := iteF hc9 hm
            refine AW.skip ?_
            refine bq_n ?_
            refine nq ?_
            refine AW.region ?_
            refine AL.s rfl (op_moveD (.e rfl)) ?_
            refine AL.s rfl (op_addw (.r rfl) (.r rfl)) ?_
            refine AL.s rfl (op_assignD (.e rfl)) ?_
            refine AL.nil ?_
            obtain rfl := Option.some.inj hm
            exact nq ⟨_, hI6, ⟨[0, 1], rfl, rfl, rfl, ⟨(.d rfl), (.d rfl), (.d rfl), (.hs rfl rfl), (.tk rfl), (.d rfl), (.d rfl), trivial⟩, trivial, (.lst rfl (.tok rfl .nil))⟩⟩
        · replace hm := iteF hc8 hm
          refine AW.exit ?_
          refine tq_exit ?_
          refine tq_exit ?_
          obtain rfl := Option.some.inj hm
          obtain rfl := Option.some.inj hI6
          replace hm := hk6
          try dsimp only at hm
          refine bq_hit ?_
          refine bq_n ?_
          obtain rfl := Option.some.inj hm
          exact nq ⟨_, hI5, ⟨[0, 1], rfl, rfl, rfl, ⟨(.d rfl), (.d rfl), (.d rfl), (.hs rfl rfl), (.tk rfl), trivial⟩, trivial, (.lst rfl (.tok rfl .nil))⟩⟩
      · replace hm := iteF hc7 hm
        refine AW.exit ?_
        refine tq_exit ?_
        refine tq_exit ?_
        obtain rfl := Option.some.inj hm
        obtain rfl := Option.some.inj hI5
        replace hm := hk5
        try dsimp only at hm
        refine bq_hit ?_
        refine nq ?_
        refine AW.seqR ?_
        refine AL.s rfl (op_moveT (.e rfl)) ?_
        refine AL.s rfl (op_assignT (.e rfl)) ?_
        refine AL.nil ?_
        refine AW.ret ?_
        obtain rfl := Option.some.inj hm
        exact EndQ.d (.tmp (.e rfl) .nil) rfl rfl

set_option maxHeartbeats 20000000 in
theorem m_ref32_Conflicts_ok {n : Nat} {a1 : (List SConstraint)} {r : ((List SConflict) × Int)} (hm : m_ref32_Conflicts n a1 = some r) : Fn Try.prog 24 [(.sl (a1.map SConstraint.e))] (.tup [(.sl (r.1.map SConflict.e)), (.int .i64 r.2)]) := by
  unfold m_ref32_Conflicts at hm
  refine Fn.of_AW (fnn := Try.f24) Try.func24 rfl (Nat.le_of_ble_eq_true rfl) (fun g0 w0 hw0 => ?_)
  refine AW.reset 0 [(0, .d (.sl (a1.map SConstraint.e)))] [] (WOK.g0 hw0 (by simp)) ⟨[], rfl, rfl, rfl, ⟨(.d rfl), trivial⟩, trivial, .nil⟩ ?_
  refine AW.seqR ?_
  refine AL.s rfl (op_assignN (.e rfl)) ?_
  refine AL.s rfl (op_assignD (.e rfl)) ?_
  refine AL.nil ?_
  refine AW.seq ?_
  refine AW.seqR ?_
  refine AL.s rfl (op_moveD (.e rfl)) ?_
  obtain ⟨v2, hv2, hm⟩ := bindE hm
  refine AL.s rfl (op_fn Try.call12 (.e rfl) (.cons (.r rfl) .nil) (m_ref32_Valid_ok hv2)) ?_
  refine AL.s rfl (op_not (.r rfl)) ?_
  refine AL.nil ?_
  refine AW.cond (b := _) rfl (fun hc1 => ?_) (fun hc1 => ?_)
  · replace hm := iteT hc1 hm
    refine AW.seqR ?_
    refine AL.s rfl (op_assignN (.e rfl)) ?_
    refine AL.s rfl (op_assignD (.e rfl)) ?_
    refine AL.nil ?_
    refine AW.ret ?_
    refine tq_ret ?_
    obtain rfl := Option.some.inj hm
    exact EndQ.d (.tmp (.e rfl) (.tmp (.e rfl) .nil)) rfl rfl
  · replace hm := iteF hc1 hm
    refine AW.skip ?_
    refine nq ?_
    refine AW.seqR ?_
    refine AL.s rfl (op_moveD (.e rfl)) ?_
    obtain ⟨v3, hv3, hm⟩ := bindE hm
    refine AL.s rfl (op_fn Try.call44 (.e rfl) (.cons (.r rfl) .nil) (m_ref32_normal_ok hv3)) ?_
    refine AL.s rfl (op_assignD (.e rfl)) ?_
    refine AL.nil ?_
    refine AW.seqR ?_
    refine AL.s rfl (op_assignN (.e rfl)) ?_
    refine AL.nil ?_
    refine AW.seq ?_
    refine AW.seqR ?_
    refine AL.s rfl (op_assignD (.e rfl)) ?_
    refine AL.nil ?_
    refine AW.block ?_
    refine AW.tokenize (n := 0) 5 71 3 rfl rfl (by simp) ?_
    obtain ⟨t_1, hI1, hk1⟩ := bindE hm
    refine AW.loopS (σ := ((List SConflict) × Int)) (τ := (List SConflict)) 0 (fun x => [(4, .d (.sl (v3.map SConstraint.e))), (5, .tk 0 (x.1.map SConflict.e)), (6, .d (.int .i64 x.2))]) (fun x => [.tok x.1.length 71 3]) hI1 (WOK.g0 hw0 (by simp)) ⟨[0], rfl, rfl, rfl, ⟨(.d rfl), (.tk rfl), (.d rfl), trivial⟩, trivial, (.tok rfl .nil)⟩ ?_
    rintro n1 ⟨s4, s5⟩ hI1
    obtain ⟨y_1, hm, hI1⟩ := iterS hI1
    replace hm : m_ref32_Conflicts_L1 n _ s4 s5 = some y_1 := hm
    unfold m_ref32_Conflicts_L1 at hm
    try dsimp only at hm
    refine AW.seq ?_
    refine AW.seqR ?_
    refine AL.s rfl (op_moveD (.e rfl)) ?_
    refine AL.s rfl (op_moveD (.e rfl)) ?_
    refine AL.s rfl (op_lenM (f := SConstraint.e) (.r rfl) sl22) ?_
    refine AL.s rfl (op_lss (.r rfl) (.r rfl)) ?_
    refine AL.nil ?_
    refine AW.cond (b := _) rfl (fun hc2 => ?_) (fun hc2 => ?_)
    · replace hm := iteT hc2 hm
      refine AW.skip ?_
      refine nq ?_
      obtain ⟨t_j1, hm, hkj1⟩ := bindE hm
      refine AW.cutS (α := (List SConflict)) 0 (fun x => x = t_j1) (fun x => [(4, .d (.sl (v3.map SConstraint.e))), (5, .tk 0 (x.map SConflict.e)), (6, .d (.int .i64 s5))]) (fun x => [.tok x.length 71 3]) (WOK.g0 hw0 (by simp)) ?_ ?_
      · skip
        refine AW.block ?_
        refine AW.seqR ?_
        refine AL.s rfl (op_moveD (.e rfl)) ?_
        refine AL.s rfl (op_moveD (.e rfl)) ?_
        obtain ⟨v6, hv6, hm⟩ := bindE hm
        refine AL.s rfl (op_indexAddrM (f := SConstraint.e) (.r rfl) (.r rfl) hv6 enSConstraint sl22) ?_
        refine AL.s rfl (op_loadA (.e rfl) rfl ag50) ?_
        refine AL.s rfl (op_alloc (n := 1) zr50 rfl) ?_
        refine AL.s rfl (op_store (.e rfl) (.e rfl) rfl rfl rfl ⟨_, rfl, rfl⟩ rfl (Nat.le_of_ble_eq_true rfl)) ?_
        refine AL.nil ?_
        refine AW.reset 0 [(4, .d (.sl (v3.map SConstraint.e))), (5, .tk 0 (s4.map SConflict.e)), (6, .d (.int .i64 s5)), (7, .ptr 1 0)] [.tok s4.length 71 3, .row [.d (.int .i64 v6.fKind), .d (.int .i64 v6.fA), .d (.int .i64 v6.fB)]] (WOK.g0 hw0 (by simp)) ⟨[0, 1], rfl, rfl, rfl, ⟨(.d rfl), (.tk rfl), (.d rfl), (.ptr rfl), trivial⟩, trivial, (.tok rfl (.row rfl (.cons (.d rfl) (.cons (.d rfl) (.cons (.d rfl) .nil))) .nil))⟩ ?_
        refine AW.seqD [([], []), ([1], []), ([], []), ([], []), ([], []), ([], []), ([1], []), ([], []), ([], []), ([1], []), ([], []), ([], [])] mo (by decide +kernel) ?_
        refine AD.s (ws := []) rfl rfl (fun H' _ hH => op_field_ptr (.e rfl) fd50_0) ?_
        refine AD.s (ws := []) rfl rfl (fun H' _ hH => op_load_ptr1 (.e rfl) ((hH _ (by simp)).trans rfl) rfl sc3) ?_
        refine AD.s (ws := []) rfl rfl (fun H' _ hH => op_eql (.r rfl) (.r rfl)) ?_
        refine AD.s (ws := []) rfl rfl (fun H' _ hH => op_moveD (.e rfl)) ?_
        refine AD.sT rfl rfl rfl rfl (fun g H' _ hH => op_moveD (.e rfl)) ?_
        refine AD.sT rfl rfl rfl rfl (fun g H' _ hH => op_field_ptr (.e rfl) fd50_1) ?_
        refine AD.sT rfl rfl rfl rfl (fun g H' _ hH => op_load_ptr1 (.we g rfl) ((hH _ (by simp)).trans rfl) rfl sc3) ?_
        obtain ⟨v7, hv7, hm⟩ := bindE hm
        refine AD.sT rfl rfl rfl rfl (fun g H' _ hH => op_fn Try.call42 (.e rfl) (.cons (.we g rfl rfl) (.cons (.we g rfl rfl) .nil)) (m_ref32_group_ok (iteT g hv7))) ?_
        refine AD.sT rfl rfl rfl rfl (fun g H' _ hH => op_field_ptr (.e rfl) fd50_2) ?_
        refine AD.sT rfl rfl rfl rfl (fun g H' _ hH => op_load_ptr1 (.we g rfl) ((hH _ (by simp)).trans rfl) rfl sc3) ?_
        obtain ⟨v8, hv8, hm⟩ := bindE hm
        refine AD.sT rfl rfl rfl rfl (fun g H' _ hH => op_fn Try.call27 (.e rfl) (.cons (.we g rfl rfl) (.cons (.we g rfl rfl) .nil)) (m_ref32_Has_ok (iteT g hv8))) ?_
        refine AD.s (ws := []) rfl rfl (fun H' _ hH => op_and (.r rfl) (fun h => (.we h rfl rfl)) rfl) ?_
        refine AD.nil ?_
        refine AW.cond (b := _) rfl (fun hc3 => ?_) (fun hc3 => ?_)
        · replace hm := iteT hc3 hm
          refine AW.free ?_
          refine AW.drawn [([], []), ([], []), ([1], []), ([], []), ([1], []), ([], []), ([], []), ([], []), ([1], []), ([], []), ([1], []), ([], []), ([], []), ([], []), ([0], [0]), ([], [])] mo (by decide +kernel) ?_
          refine AD.s (ws := []) rfl rfl (fun H' _ hH => op_moveT (.e rfl)) ?_
          refine AD.s (ws := []) rfl rfl (fun H' _ hH => op_field_ptr (.e rfl) fd50_1) ?_
          refine AD.s (ws := []) rfl rfl (fun H' _ hH => op_load_ptr1 (.e rfl) ((hH _ (by simp)).trans rfl) rfl sc3) ?_
          refine AD.s (ws := []) rfl rfl (fun H' _ hH => op_field_ptr (.e rfl) fd50_2) ?_
          refine AD.s (ws := []) rfl rfl (fun H' _ hH => op_load_ptr1 (.e rfl) ((hH _ (by simp)).trans rfl) rfl sc3) ?_
          refine AD.s (ws := []) rfl rfl (fun H' _ hH => op_build bd53 (.cons (.e rfl) rfl rfl rfl rfl (Nat.le_of_ble_eq_true rfl) (.cons (.e rfl) rfl rfl rfl rfl (Nat.le_of_ble_eq_true rfl) .nil))) ?_
          refine AD.s (ws := []) rfl rfl (fun H' _ hH => op_moveD (.e rfl)) ?_
          refine AD.s (ws := []) rfl rfl (fun H' _ hH => op_field_ptr (.e rfl) fd50_1) ?_
          refine AD.s (ws := []) rfl rfl (fun H' _ hH => op_load_ptr1 (.e rfl) ((hH _ (by simp)).trans rfl) rfl sc3) ?_
          refine AD.s (ws := []) rfl rfl (fun H' _ hH => op_field_ptr (.e rfl) fd50_2) ?_
          refine AD.s (ws := []) rfl rfl (fun H' _ hH => op_load_ptr1 (.e rfl) ((hH _ (by simp)).trans rfl) rfl sc3) ?_
          obtain ⟨v9, hv9, hm⟩ := bindE hm
          refine AD.s (ws := []) rfl rfl (fun H' _ hH => op_fn Try.call43 (.e rfl) (.cons (.r rfl) (.cons (.r rfl) (.cons (.r rfl) .nil))) (m_ref32_path_ok hv9)) ?_
          refine AD.s (ws := []) rfl rfl (fun H' _ hH => op_build bd71 (.cons (.e rfl) rfl rfl rfl rfl (Nat.le_of_ble_eq_true rfl) (.cons (.e rfl) rfl rfl rfl rfl (Nat.le_of_ble_eq_true rfl) .nil))) ?_
          refine AD.s (ws := []) rfl rfl (fun H' _ hH => op_buildSlice (ds := ([(⟨(⟨v6.fA, v6.fB⟩ : SPair), v9⟩ : SConflict)] : List SConflict).map SConflict.e) sl39 (.cons (.r rfl) rfl (enSConflict.one _) .nil) rfl (by decide)) ?_
          obtain ⟨v10, hv10, hm⟩ := bindE hm
          refine AD.s (ws := [(0, _)]) rfl rfl (fun H' _ hH => op_appendM (f := SConflict.e) (l' := ([(⟨(⟨v6.fA, v6.fB⟩ : SPair), v9⟩ : SConflict)] : List SConflict)) sl39 (.e rfl) (.r rfl) ((hH _ (by simp)).trans rfl) rfl enSConflict hv10) ?_
          refine AD.s (ws := []) rfl rfl (fun H' _ hH => op_assignT (.e rfl)) ?_
          refine AD.nil ?_
          refine bq_n ?_
          obtain rfl := Option.some.inj hm
          exact nq ⟨_, rfl, ⟨[0], rfl, rfl, rfl, ⟨(.d rfl), (.tk rfl), (.d rfl), trivial⟩, trivial, (.tok rfl .nil)⟩⟩
        · replace hm := iteF hc3 hm
          refine AW.skip ?_
          refine bq_n ?_
          obtain rfl := Option.some.inj hm
          exact nq ⟨_, rfl, ⟨[0], rfl, rfl, rfl, ⟨(.d rfl), (.tk rfl), (.d rfl), trivial⟩, trivial, (.tok rfl .nil)⟩⟩
      · rintro s11 rfl
        replace hm := hkj1
        try dsimp only at hm
        refine AW.region ?_
        refine AL.s rfl (op_moveD (.e rfl)) ?_
        refine AL.s rfl (op_addw (.r rfl) (.r rfl)) ?_
        refine AL.s rfl (op_assignD (.e rfl)) ?_
        refine AL.nil ?_
        obtain rfl := Option.some.inj hm
        exact nq ⟨_, hI1, ⟨[0], rfl, rfl, rfl, ⟨(.d rfl), (.tk rfl), (.d rfl), trivial⟩, trivial, (.tok rfl .nil)⟩⟩
    · replace hm := iteF hc2 hm
      refine AW.exit ?_
      refine tq_exit ?_
      refine tq_exit ?_
      obtain rfl := Option.some.inj hm
      obtain rfl := Option.some.inj hI1
      replace hm := hk1
      try dsimp only at hm
      refine bq_hit ?_
      refine nq ?_
      refine AW.seqR ?_
      refine AL.s rfl (op_moveT (.e rfl)) ?_
      refine AL.s rfl (op_assignT (.e rfl)) ?_
      refine AL.s rfl (op_assignD (.e rfl)) ?_
      refine AL.nil ?_
      refine AW.ret ?_
      obtain rfl := Option.some.inj hm
      exact EndQ.d (.tmp (.e rfl) (.tmp (.e rfl) .nil)) rfl rfl

set_option maxHeartbeats 20000000 in
theorem m_ref32_Rules_ok {n : Nat} {a1 : (List SConstraint)} {a2 : (List Int)} {r : ((List SConstraint) × Int)} (hm : m_ref32_Rules n a1 a2 = some r) : Fn Try.prog 35 [(.sl (a1.map SConstraint.e)), (.sl (a2.map D.i))] (.tup [(.sl (r.1.map SConstraint.e)), (.int .i64 r.2)]) := by
  unfold m_ref32_Rules at hm
  refine Fn.of_AW (fnn := Try.f35) Try.func35 rfl (Nat.le_of_ble_eq_true rfl) (fun g0 w0 hw0 => ?_)
  refine AW.reset 0 [(0, .d (.sl (a1.map SConstraint.e))), (1, .d (.sl (a2.map D.i)))] [] (WOK.g0 hw0 (by simp)) ⟨[], rfl, rfl, rfl, ⟨(.d rfl), (.d rfl), trivial⟩, trivial, .nil⟩ ?_
  refine AW.seqR ?_
  refine AL.s rfl (op_assignN (.e rfl)) ?_
  refine AL.s rfl (op_assignD (.e rfl)) ?_
  refine AL.nil ?_
  refine AW.seqR ?_
  refine AL.s rfl (op_moveD (.e rfl)) ?_
  obtain ⟨v3, hv3, hm⟩ := bindE hm
  refine AL.s rfl (op_fn Try.call24 (.e rfl) (.cons (.r rfl) .nil) (m_ref32_Conflicts_ok hv3)) ?_
  refine AL.s rfl (op_moveD (.e rfl)) ?_
  refine AL.s rfl (op_extractD (.e rfl) rfl) ?_
  refine AL.s rfl (op_extractD (.e rfl) rfl) ?_
  refine AL.s rfl (op_assignD (.e rfl)) ?_
  refine AL.s rfl (op_assignD (.e rfl)) ?_
  refine AL.nil ?_
  refine AW.seq ?_
  refine AW.seqR ?_
  refine AL.s rfl (op_moveD (.e rfl)) ?_
  refine AL.s rfl (op_neq (.r rfl) (.r rfl)) ?_
  refine AL.nil ?_
  refine AW.cond (b := _) rfl (fun hc1 => ?_) (fun hc1 => ?_)
  · replace hm := iteT hc1 hm
    refine AW.seqR ?_
    refine AL.s rfl (op_moveD (.e rfl)) ?_
    refine AL.s rfl (op_assignN (.e rfl)) ?_
    refine AL.s rfl (op_assignD (.e rfl)) ?_
    refine AL.nil ?_
    refine AW.ret ?_
    refine tq_ret ?_
    obtain rfl := Option.some.inj hm
    exact EndQ.d (.tmp (.e rfl) (.tmp (.e rfl) .nil)) rfl rfl
  · replace hm := iteF hc1 hm
    refine AW.skip ?_
    refine nq ?_
    refine AW.seq ?_
    refine AW.seqR ?_
    refine AL.s rfl (op_assignD (.e rfl)) ?_
    refine AL.nil ?_
    refine AW.block ?_
    obtain ⟨t_1, hI1, hk1⟩ := bindE hm
    refine AW.loopS (σ := Int) (τ := (((List SConstraint) × Int) ⊕ Unit)) 0 (fun x => [(0, .d (.sl (a1.map SConstraint.e))), (1, .d (.sl (a2.map D.i))), (6, .d (.sl (v3.1.map SConflict.e))), (8, .d (.int .i64 x))]) (fun x => []) hI1 (WOK.g0 hw0 (by simp)) ⟨[], rfl, rfl, rfl, ⟨(.d rfl), (.d rfl), (.d rfl), (.d rfl), trivial⟩, trivial, .nil⟩ ?_
    rintro n1 s4 hI1
    obtain ⟨y_1, hm, hI1⟩ := iterS hI1
    replace hm : m_ref32_Rules_L1 n _ s4 = some y_1 := hm
    unfold m_ref32_Rules_L1 at hm
    try dsimp only at hm
    refine AW.seq ?_
    refine AW.seqR ?_
    refine AL.s rfl (op_moveD (.e rfl)) ?_
    refine AL.s rfl (op_moveD (.e rfl)) ?_
    refine AL.s rfl (op_lenM (f := D.i) (.r rfl) sl42) ?_
    refine AL.s rfl (op_lss (.r rfl) (.r rfl)) ?_
    refine AL.nil ?_
    refine AW.cond (b := _) rfl (fun hc2 => ?_) (fun hc2 => ?_)
    · replace hm := iteT hc2 hm
      refine AW.skip ?_
      refine nq ?_
      refine AW.seq ?_
      refine AW.block ?_
      refine AW.seqD [([], []), ([], []), ([], []), ([], []), ([], []), ([], []), ([], []), ([], []), ([], []), ([], [])] mo (by decide +kernel) ?_
      refine AD.s (ws := []) rfl rfl (fun H' _ hH => op_moveD (.e rfl)) ?_
      refine AD.s (ws := []) rfl rfl (fun H' _ hH => op_moveD (.e rfl)) ?_
      refine AD.s (ws := []) rfl rfl (fun H' _ hH => op_subw (.r rfl) (.r rfl)) ?_
      obtain ⟨v5, hv5, hm⟩ := bindE hm
      refine AD.s (ws := []) rfl rfl (fun H' _ hH => op_indexAddrM (f := D.i) (.r rfl) (.r rfl) hv5 En.i sl42) ?_
      refine AD.s (ws := []) rfl rfl (fun H' _ hH => op_load_vp1 (.e rfl) rfl sc3) ?_
      refine AD.s (ws := []) rfl rfl (fun H' _ hH => op_moveD (.e rfl)) ?_
      refine AD.s (ws := []) rfl rfl (fun H' _ hH => op_moveD (.e rfl)) ?_
      obtain ⟨v6, hv6, hm⟩ := bindE hm
      refine AD.s (ws := []) rfl rfl (fun H' _ hH => op_indexAddrM (f := D.i) (.r rfl) (.r rfl) hv6 En.i sl42) ?_
      refine AD.s (ws := []) rfl rfl (fun H' _ hH => op_load_vp1 (.e rfl) rfl sc3) ?_
      refine AD.s (ws := []) rfl rfl (fun H' _ hH => op_geq (.r rfl) (.r rfl)) ?_
      refine AD.nil ?_
      refine AW.cond (b := _) rfl (fun hc3 => ?_) (fun hc3 => ?_)
      · replace hm := iteT hc3 hm
        refine AW.seqR ?_
        refine AL.s rfl (op_assignN (.e rfl)) ?_
        refine AL.s rfl (op_assignD (.e rfl)) ?_
        refine AL.nil ?_
        refine AW.ret ?_
        refine bq_ret ?_
        refine tq_ret ?_
        refine tq_ret ?_
        obtain rfl := Option.some.inj hm
        obtain rfl := Option.some.inj hI1
        replace hm := hk1
        try dsimp only at hm
        refine bq_ret ?_
        refine tq_ret ?_
        obtain rfl := Option.some.inj hm
        exact EndQ.d (.tmp (.e rfl) (.tmp (.e rfl) .nil)) rfl rfl
      · replace hm := iteF hc3 hm
        refine AW.skip ?_
        refine bq_n ?_
        refine nq ?_
        refine AW.region ?_
        refine AL.s rfl (op_moveD (.e rfl)) ?_
        refine AL.s rfl (op_addw (.r rfl) (.r rfl)) ?_
        refine AL.s rfl (op_assignD (.e rfl)) ?_
        refine AL.nil ?_
        obtain rfl := Option.some.inj hm
        exact nq ⟨_, hI1, ⟨[], rfl, rfl, rfl, ⟨(.d rfl), (.d rfl), (.d rfl), (.d rfl), trivial⟩, trivial, .nil⟩⟩
    · replace hm := iteF hc2 hm
      refine AW.exit ?_
      refine tq_exit ?_
      refine tq_exit ?_
      obtain rfl := Option.some.inj hm
      obtain rfl := Option.some.inj hI1
      replace hm := hk1
      try dsimp only at hm
      refine bq_hit ?_
      refine nq ?_
      refine AW.seq ?_
      refine AW.seqR ?_
      refine AL.s rfl (op_moveD (.e rfl)) ?_
      refine AL.s rfl (op_lenM (f := SConflict.e) (.r rfl) sl39) ?_
      refine AL.s rfl (op_gtr (.r rfl) (.r rfl)) ?_
      refine AL.nil ?_
      refine AW.cond (b := _) rfl (fun hc4 => ?_) (fun hc4 => ?_)
      · replace hm := iteT hc4 hm
        refine AW.seqR ?_
        refine AL.s rfl (op_assignN (.e rfl)) ?_
        refine AL.s rfl (op_assignD (.e rfl)) ?_
        refine AL.nil ?_
        refine AW.ret ?_
        refine tq_ret ?_
        obtain rfl := Option.some.inj hm
        exact EndQ.d (.tmp (.e rfl) (.tmp (.e rfl) .nil)) rfl rfl
      · replace hm := iteF hc4 hm
        refine AW.skip ?_
        refine nq ?_
        refine AW.seqR ?_
        refine AL.s rfl (op_assignN (.e rfl)) ?_
        refine AL.nil ?_
        refine AW.seqR ?_
        refine AL.s rfl (op_moveD (.e rfl)) ?_
        refine AL.s rfl (op_lenM (f := D.i) (.r rfl) sl42) ?_
        obtain ⟨v7, hv7, hm⟩ := bindE hm
        refine AL.s rfl (op_makeM (n := 0) (f := D.i) (.r rfl) sl42 zr3 rfl rfl hv7) ?_
        refine AL.s rfl (op_assignH (.e rfl)) ?_
        refine AL.nil ?_
        refine AW.seq ?_
        refine AW.seqR ?_
        refine AL.s rfl (op_assignD (.e rfl)) ?_
        refine AL.nil ?_
        refine AW.block ?_
        obtain ⟨t_2, hI2, hk2⟩ := bindE hm
        refine AW.loopS (σ := ((List SConstraint) × Int × (List Int))) (τ := ((List SConstraint) × (List Int))) 0 (fun x => [(0, .d (.sl (a1.map SConstraint.e))), (1, .d (.sl (a2.map D.i))), (9, .d (.sl (x.1.map SConstraint.e))), (10, .hs 0 0 x.2.2.length 1), (11, .d (.int .i64 x.2.1))]) (fun x => [.lst (x.2.2.map D.i) 3 1]) hI2 (WOK.g0 hw0 (by simp)) ⟨[0], rfl, rfl, rfl, ⟨(.d rfl), (.d rfl), (.d rfl), (.hs rfl rfl), (.d rfl), trivial⟩, trivial, (.lst rfl .nil)⟩ ?_
        rintro n2 ⟨s8, s9, s10⟩ hI2
        obtain ⟨y_2, hm, hI2⟩ := iterS hI2
        replace hm : m_ref32_Rules_L2 n _ _ s8 s9 s10 = some y_2 := hm
        unfold m_ref32_Rules_L2 at hm
        try dsimp only at hm
        refine AW.seq ?_
        refine AW.seqR ?_
        refine AL.s rfl (op_moveD (.e rfl)) ?_
        refine AL.s rfl (op_moveD (.e rfl)) ?_
        refine AL.s rfl (op_lenM (f := D.i) (.r rfl) sl42) ?_
        refine AL.s rfl (op_lss (.r rfl) (.r rfl)) ?_
        refine AL.nil ?_
        refine AW.cond (b := _) rfl (fun hc5 => ?_) (fun hc5 => ?_)
        · replace hm := iteT hc5 hm
          refine AW.skip ?_
          refine nq ?_
          obtain ⟨t_j1, hm, hkj1⟩ := bindE hm
          refine AW.cutS (α := ((List SConstraint) × (List Int))) 0 (fun x => x = t_j1) (fun x => [(0, .d (.sl (a1.map SConstraint.e))), (1, .d (.sl (a2.map D.i))), (9, .d (.sl (x.1.map SConstraint.e))), (10, .hs 0 0 x.2.length 1), (11, .d (.int .i64 s9))]) (fun x => [.lst (x.2.map D.i) 3 1]) (WOK.g0 hw0 (by simp)) ?_ ?_
          · skip
            refine AW.block ?_
            refine AW.reset 0 [(0, .d (.sl (a1.map SConstraint.e))), (1, .d (.sl (a2.map D.i))), (9, .d (.sl (s8.map SConstraint.e))), (10, .hs 0 0 s10.length 1), (11, .d (.int .i64 s9))] [.lst (s10.map D.i) 3 1] (WOK.g0 hw0 (by simp)) ⟨[0], rfl, rfl, rfl, ⟨(.d rfl), (.d rfl), (.d rfl), (.hs rfl rfl), (.d rfl), trivial⟩, trivial, (.lst rfl .nil)⟩ ?_
            refine AW.seqR ?_
            refine AL.s rfl (op_moveH (.e rfl)) ?_
            refine AL.s rfl (op_moveD (.e rfl)) ?_
            refine AL.s rfl (op_moveD (.e rfl)) ?_
            obtain ⟨v11, hv11, hm⟩ := bindE hm
            refine AL.s rfl (op_indexAddr_hs (f := D.i) (l := s10) (.e rfl) rfl rfl (.r rfl) hv11 sl42) ?_
            obtain ⟨v12, hv12, hm⟩ := bindE hm
            refine AL.s rfl (op_store_lp (f := D.i) (fun _ => rfl) (.e rfl) (.r rfl) rfl hv12 ⟨_, rfl, rfl⟩ En.i) ?_
            refine AL.nil ?_
            refine AW.seqR ?_
            refine AL.s rfl (op_moveD (.e rfl)) ?_
            refine AL.s rfl (op_moveD (.e rfl)) ?_
            refine AL.s rfl (op_moveD (.e rfl)) ?_
            obtain ⟨v13, hv13, hm⟩ := bindE hm
            refine AL.s rfl (op_indexAddrM (f := D.i) (.r rfl) (.r rfl) hv13 En.i sl42) ?_
            refine AL.s rfl (op_load_vp1 (.e rfl) rfl sc3) ?_
            obtain ⟨v14, hv14, hm⟩ := bindE hm
            refine AL.s rfl (op_fn Try.call42 (.e rfl) (.cons (.r rfl) (.cons (.r rfl) .nil)) (m_ref32_group_ok hv14)) ?_
            refine AL.s rfl (op_assignD (.e rfl)) ?_
            refine AL.nil ?_
            refine AW.seq ?_
            refine AW.seqR ?_
            refine AL.s rfl (op_moveD (.e rfl)) ?_
            refine AL.s rfl (op_subw (.r rfl) (.r rfl)) ?_
            refine AL.s rfl (op_assignD (.e rfl)) ?_
            refine AL.nil ?_
            refine AW.block ?_
            obtain ⟨t_3, hI3, hk3⟩ := bindE hm
            refine AW.loopS (σ := (Int × (List Int))) (τ := (List Int)) 0 (fun x => [(0, .d (.sl (a1.map SConstraint.e))), (1, .d (.sl (a2.map D.i))), (9, .d (.sl (s8.map SConstraint.e))), (10, .hs 0 0 x.2.length 1), (11, .d (.int .i64 s9)), (12, .d (.sl (v14.map D.i))), (13, .d (.int .i64 x.1))]) (fun x => [.lst (x.2.map D.i) 3 1]) hI3 (WOK.g0 hw0 (by simp)) ⟨[0], rfl, rfl, rfl, ⟨(.d rfl), (.d rfl), (.d rfl), (.hs rfl (setI_len hv12).symm), (.d rfl), (.d rfl), (.d rfl), trivial⟩, trivial, (.lst rfl .nil)⟩ ?_
            rintro n3 ⟨s15, s16⟩ hI3
            obtain ⟨y_3, hm, hI3⟩ := iterS hI3
            replace hm : m_ref32_Rules_L3 n _ _ _ s15 s16 = some y_3 := hm
            unfold m_ref32_Rules_L3 at hm
            try dsimp only at hm
            refine AW.seq ?_
            refine AW.seqR ?_
            refine AL.s rfl (op_moveD (.e rfl)) ?_
            refine AL.s rfl (op_geq (.r rfl) (.r rfl)) ?_
            refine AL.nil ?_
            refine AW.cond (b := _) rfl (fun hc6 => ?_) (fun hc6 => ?_)
            · replace hm := iteT hc6 hm
              refine AW.skip ?_
              refine nq ?_
              obtain ⟨t_j2, hm, hkj2⟩ := bindE hm
              refine AW.cutS (α := (List Int)) 0 (fun x => x = t_j2) (fun x => [(0, .d (.sl (a1.map SConstraint.e))), (1, .d (.sl (a2.map D.i))), (9, .d (.sl (s8.map SConstraint.e))), (10, .hs 0 0 x.length 1), (11, .d (.int .i64 s9)), (12, .d (.sl (v14.map D.i))), (13, .d (.int .i64 s15))]) (fun x => [.lst (x.map D.i) 3 1]) (WOK.g0 hw0 (by simp)) ?_ ?_
              · skip
                refine AW.block ?_
                refine AW.seqR ?_
                refine AL.s rfl (op_moveD (.e rfl)) ?_
                refine AL.s rfl (op_moveD (.e rfl)) ?_
                refine AL.s rfl (op_moveD (.e rfl)) ?_
                obtain ⟨v17, hv17, hm⟩ := bindE hm
                refine AL.s rfl (op_indexAddrM (f := D.i) (.r rfl) (.r rfl) hv17 En.i sl42) ?_
                refine AL.s rfl (op_load_vp1 (.e rfl) rfl sc3) ?_
                obtain ⟨v18, hv18, hm⟩ := bindE hm
                refine AL.s rfl (op_fn Try.call27 (.e rfl) (.cons (.r rfl) (.cons (.r rfl) .nil)) (m_ref32_Has_ok hv18)) ?_
                refine AL.nil ?_
                refine AW.cond (b := _) rfl (fun hc7 => ?_) (fun hc7 => ?_)
                · replace hm := iteT hc7 hm
                  refine AW.region ?_
                  refine AL.s rfl (op_moveH (.e rfl)) ?_
                  refine AL.s rfl (op_moveD (.e rfl)) ?_
                  refine AL.s rfl (op_moveD (.e rfl)) ?_
                  obtain ⟨v19, hv19, hm⟩ := bindE hm
                  refine AL.s rfl (op_indexAddr_hs (f := D.i) (l := s16) (.e rfl) rfl rfl (.r rfl) hv19 sl42) ?_
                  obtain ⟨v20, hv20, hm⟩ := bindE hm
                  refine AL.s rfl (op_store_lp (f := D.i) (fun _ => rfl) (.e rfl) (.r rfl) rfl hv20 ⟨_, rfl, rfl⟩ En.i) ?_
                  refine AL.nil ?_
                  refine bq_n ?_
                  obtain rfl := Option.some.inj hm
                  exact nq ⟨_, rfl, ⟨[0], rfl, rfl, rfl, ⟨(.d rfl), (.d rfl), (.d rfl), (.hs rfl (setI_len hv20).symm), (.d rfl), (.d rfl), (.d rfl), trivial⟩, trivial, (.lst rfl .nil)⟩⟩
                · replace hm := iteF hc7 hm
                  refine AW.skip ?_
                  refine bq_n ?_
                  obtain rfl := Option.some.inj hm
                  exact nq ⟨_, rfl, ⟨[0], rfl, rfl, rfl, ⟨(.d rfl), (.d rfl), (.d rfl), (.hs rfl rfl), (.d rfl), (.d rfl), (.d rfl), trivial⟩, trivial, (.lst rfl .nil)⟩⟩
              · rintro s21 rfl
                replace hm := hkj2
                try dsimp only at hm
                refine AW.region ?_
                refine AL.s rfl (op_moveD (.e rfl)) ?_
                refine AL.s rfl (op_subw (.r rfl) (.r rfl)) ?_
                refine AL.s rfl (op_assignD (.e rfl)) ?_
                refine AL.nil ?_
                obtain rfl := Option.some.inj hm
                exact nq ⟨_, hI3, ⟨[0], rfl, rfl, rfl, ⟨(.d rfl), (.d rfl), (.d rfl), (.hs rfl rfl), (.d rfl), (.d rfl), (.d rfl), trivial⟩, trivial, (.lst rfl .nil)⟩⟩
            · replace hm := iteF hc6 hm
              refine AW.exit ?_
              refine tq_exit ?_
              refine tq_exit ?_
              obtain rfl := Option.some.inj hm
              obtain rfl := Option.some.inj hI3
              replace hm := hk3
              try dsimp only at hm
              refine bq_hit ?_
              refine nq ?_
              refine AW.seqR ?_
              refine AL.s rfl (op_moveH (.e rfl)) ?_
              refine AL.s rfl (op_moveD (.e rfl)) ?_
              obtain ⟨v22, hv22, hm⟩ := bindE hm
              refine AL.s rfl (op_indexAddr_hs (f := D.i) (l := s16) (.e rfl) rfl rfl (.r rfl) hv22 sl42) ?_
              obtain ⟨v23, hv23, hm⟩ := bindE hm
              refine AL.s rfl (op_load_lp (f := D.i) (fun _ => rfl) (.e rfl) rfl hv23 sc3) ?_
              refine AL.s rfl (op_moveD (.e rfl)) ?_
              refine AL.s rfl (op_lss (.r rfl) (.r rfl)) ?_
              refine AL.nil ?_
              refine AW.cond (b := _) rfl (fun hc8 => ?_) (fun hc8 => ?_)
              · replace hm := iteT hc8 hm
                refine AW.region ?_
                refine AL.s rfl (op_moveD (.e rfl)) ?_
                refine AL.s rfl (op_moveH (.e rfl)) ?_
                refine AL.s rfl (op_moveD (.e rfl)) ?_
                obtain ⟨v24, hv24, hm⟩ := bindE hm
                refine AL.s rfl (op_indexAddr_hs (f := D.i) (l := s16) (.e rfl) rfl rfl (.r rfl) hv24 sl42) ?_
                obtain ⟨v25, hv25, hm⟩ := bindE hm
                refine AL.s rfl (op_load_lp (f := D.i) (fun _ => rfl) (.e rfl) rfl hv25 sc3) ?_
                refine AL.s rfl (op_moveD (.e rfl)) ?_
                refine AL.s rfl (op_build bd50 (.cons (.e rfl) rfl rfl rfl rfl (Nat.le_of_ble_eq_true rfl) (.cons (.e rfl) rfl rfl rfl rfl (Nat.le_of_ble_eq_true rfl) (.cons (.e rfl) rfl rfl rfl rfl (Nat.le_of_ble_eq_true rfl) .nil)))) ?_
                obtain ⟨v26, hv26, hm⟩ := bindE hm
                refine AL.s rfl (op_fn Try.call52 (.e rfl) (.cons (.r rfl) (.cons (.r rfl) .nil)) (m_ref32_insert_ok hv26)) ?_
                refine AL.s rfl (op_assignD (.e rfl)) ?_
                refine AL.nil ?_
                refine bq_n ?_
                obtain rfl := Option.some.inj hm
                exact nq ⟨_, rfl, ⟨[0], rfl, rfl, rfl, ⟨(.d rfl), (.d rfl), (.d rfl), (.hs rfl rfl), (.d rfl), trivial⟩, trivial, (.lst rfl .nil)⟩⟩
              · replace hm := iteF hc8 hm
                refine AW.skip ?_
                refine bq_n ?_
                obtain rfl := Option.some.inj hm
                exact nq ⟨_, rfl, ⟨[0], rfl, rfl, rfl, ⟨(.d rfl), (.d rfl), (.d rfl), (.hs rfl rfl), (.d rfl), trivial⟩, trivial, (.lst rfl .nil)⟩⟩
          · rintro ⟨s27, s28⟩ rfl
            replace hm := hkj1
            try dsimp only at hm
            refine AW.region ?_
            refine AL.s rfl (op_moveD (.e rfl)) ?_
            refine AL.s rfl (op_addw (.r rfl) (.r rfl)) ?_
            refine AL.s rfl (op_assignD (.e rfl)) ?_
            refine AL.nil ?_
            obtain rfl := Option.some.inj hm
            exact nq ⟨_, hI2, ⟨[0], rfl, rfl, rfl, ⟨(.d rfl), (.d rfl), (.d rfl), (.hs rfl rfl), (.d rfl), trivial⟩, trivial, (.lst rfl .nil)⟩⟩
        · replace hm := iteF hc5 hm
          refine AW.exit ?_
          refine tq_exit ?_
          refine tq_exit ?_
          obtain rfl := Option.some.inj hm
          obtain rfl := Option.some.inj hI2
          replace hm := hk2
          try dsimp only at hm
          refine bq_hit ?_
          refine nq ?_
          refine AW.seq ?_
          refine AW.seqR ?_
          refine AL.s rfl (op_assignD (.e rfl)) ?_
          refine AL.nil ?_
          refine AW.block ?_
          obtain ⟨t_4, hI4, hk4⟩ := bindE hm
          refine AW.loopS (σ := ((List SConstraint) × Int)) (τ := (List SConstraint)) 0 (fun x => [(0, .d (.sl (a1.map SConstraint.e))), (1, .d (.sl (a2.map D.i))), (9, .d (.sl (x.1.map SConstraint.e))), (10, .hs 0 0 s10.length 1), (14, .d (.int .i64 x.2))]) (fun x => [.lst (s10.map D.i) 3 1]) hI4 (WOK.g0 hw0 (by simp)) ⟨[0], rfl, rfl, rfl, ⟨(.d rfl), (.d rfl), (.d rfl), (.hs rfl rfl), (.d rfl), trivial⟩, trivial, (.lst rfl .nil)⟩ ?_
          rintro n4 ⟨s29, s30⟩ hI4
          obtain ⟨y_4, hm, hI4⟩ := iterS hI4
          replace hm : m_ref32_Rules_L4 n _ _ _ s29 s30 = some y_4 := hm
          unfold m_ref32_Rules_L4 at hm
          try dsimp only at hm
          refine AW.seq ?_
          refine AW.seqR ?_
          refine AL.s rfl (op_moveD (.e rfl)) ?_
          refine AL.s rfl (op_moveD (.e rfl)) ?_
          refine AL.s rfl (op_lenM (f := D.i) (.r rfl) sl42) ?_
          refine AL.s rfl (op_lss (.r rfl) (.r rfl)) ?_
          refine AL.nil ?_
          refine AW.cond (b := _) rfl (fun hc9 => ?_) (fun hc9 => ?_)
          · replace hm := iteT hc9 hm
            refine AW.skip ?_
            refine nq ?_
            refine AW.seq ?_
            refine AW.block ?_
            refine AW.seqR ?_
            refine AL.s rfl (op_moveD (.e rfl)) ?_
            refine AL.s rfl (op_addw (.r rfl) (.r rfl)) ?_
            refine AL.s rfl (op_assignD (.e rfl)) ?_
            refine AL.nil ?_
            refine AW.block ?_
            obtain ⟨t_5, hI5, hk5⟩ := bindE hm
            refine AW.loopS (σ := ((List SConstraint) × Int)) (τ := (List SConstraint)) 0 (fun x => [(0, .d (.sl (a1.map SConstraint.e))), (1, .d (.sl (a2.map D.i))), (9, .d (.sl (x.1.map SConstraint.e))), (10, .hs 0 0 s10.length 1), (14, .d (.int .i64 s30)), (15, .d (.int .i64 x.2))]) (fun x => [.lst (s10.map D.i) 3 1]) hI5 (WOK.g0 hw0 (by simp)) ⟨[0], rfl, rfl, rfl, ⟨(.d rfl), (.d rfl), (.d rfl), (.hs rfl rfl), (.d rfl), (.d rfl), trivial⟩, trivial, (.lst rfl .nil)⟩ ?_
            rintro n5 ⟨s31, s32⟩ hI5
            obtain ⟨y_5, hm, hI5⟩ := iterS hI5
            replace hm : m_ref32_Rules_L5 n _ _ _ _ s31 s32 = some y_5 := hm
            unfold m_ref32_Rules_L5 at hm
            try dsimp only at hm
            refine AW.seq ?_
            refine AW.seqR ?_
            refine AL.s rfl (op_moveD (.e rfl)) ?_
            refine AL.s rfl (op_moveD (.e rfl)) ?_
            refine AL.s rfl (op_lenM (f := D.i) (.r rfl) sl42) ?_
            refine AL.s rfl (op_lss (.r rfl) (.r rfl)) ?_
            refine AL.nil ?_
            refine AW.cond (b := _) rfl (fun hc10 => ?_) (fun hc10 => ?_)
            · replace hm := iteT hc10 hm
              refine AW.skip ?_
              refine nq ?_
              obtain ⟨t_j3, hm, hkj3⟩ := bindE hm
              refine AW.cutS (α := (List SConstraint)) 0 (fun x => x = t_j3) (fun x => [(0, .d (.sl (a1.map SConstraint.e))), (1, .d (.sl (a2.map D.i))), (9, .d (.sl (x.map SConstraint.e))), (10, .hs 0 0 s10.length 1), (14, .d (.int .i64 s30)), (15, .d (.int .i64 s32))]) (fun x => [.lst (s10.map D.i) 3 1]) (WOK.g0 hw0 (by simp)) ?_ ?_
              · skip
                refine AW.block ?_
                refine AW.seqD [([], []), ([], []), ([0], []), ([0], []), ([], []), ([], []), ([], []), ([], []), ([], []), ([0], []), ([0], []), ([], []), ([], []), ([], []), ([], []), ([], []), ([], []), ([], []), ([], []), ([], []), ([], []), ([], []), ([], []), ([], []), ([], []), ([], [])] mo (by decide +kernel) ?_
                refine AD.s (ws := []) rfl rfl (fun H' _ hH => op_moveH (.e rfl)) ?_
                refine AD.s (ws := []) rfl rfl (fun H' _ hH => op_moveD (.e rfl)) ?_
                obtain ⟨v33, hv33, hm⟩ := bindE hm
                refine AD.s (ws := []) rfl rfl (fun H' _ hH => op_indexAddr_hs (f := D.i) (l := s10) (.e rfl) ((hH _ (by simp)).trans rfl) rfl (.r rfl) hv33 sl42) ?_
                obtain ⟨v34, hv34, hm⟩ := bindE hm
                refine AD.s (ws := []) rfl rfl (fun H' _ hH => op_load_lp (f := D.i) (fun _ => rfl) (.e rfl) ((hH _ (by simp)).trans rfl) hv34 sc3) ?_
                refine AD.s (ws := []) rfl rfl (fun H' _ hH => op_moveD (.e rfl)) ?_
                refine AD.s (ws := []) rfl rfl (fun H' _ hH => op_eql (.r rfl) (.r rfl)) ?_
                refine AD.s (ws := []) rfl rfl (fun H' _ hH => op_moveD (.e rfl)) ?_
                refine AD.sT rfl rfl rfl rfl (fun g H' _ hH => op_moveH (.e rfl)) ?_
                refine AD.sT rfl rfl rfl rfl (fun g H' _ hH => op_moveD (.e rfl)) ?_
                obtain ⟨v35, hv35, hm⟩ := bindE hm
                refine AD.sT rfl rfl rfl rfl (fun g H' _ hH => op_indexAddr_hs (f := D.i) (l := s10) (.we g rfl) ((hH _ (by simp)).trans rfl) rfl (.we g rfl rfl) (iteT g hv35) sl42) ?_
                obtain ⟨v36, hv36, hm⟩ := bindE hm
                refine AD.sT rfl rfl rfl rfl (fun g H' _ hH => op_load_lp (f := D.i) (fun _ => rfl) (.we g rfl) ((hH _ (by simp)).trans rfl) (iteT g hv36) sc3) ?_
                refine AD.sT rfl rfl rfl rfl (fun g H' _ hH => op_moveD (.e rfl)) ?_
                refine AD.sT rfl rfl rfl rfl (fun g H' _ hH => op_eql (.we g rfl rfl) (.we g rfl rfl)) ?_
                refine AD.s (ws := []) rfl rfl (fun H' _ hH => op_and (.r rfl) (fun h => (.we h rfl rfl)) rfl) ?_
                refine AD.s (ws := []) rfl rfl (fun H' _ hH => op_moveD (.e rfl)) ?_
                refine AD.sT rfl rfl rfl rfl (fun g H' _ hH => op_moveD (.e rfl)) ?_
                refine AD.sT rfl rfl rfl rfl (fun g H' _ hH => op_moveD (.e rfl)) ?_
                refine AD.sT rfl rfl rfl rfl (fun g H' _ hH => op_moveD (.e rfl)) ?_
                obtain ⟨v37, hv37, hm⟩ := bindE hm
                refine AD.sT rfl rfl rfl rfl (fun g H' _ hH => op_indexAddrM (f := D.i) (.we g rfl rfl) (.we g rfl rfl) (iteT g hv37) En.i sl42) ?_
                refine AD.sT rfl rfl rfl rfl (fun g H' _ hH => op_load_vp1 (.we g rfl) rfl sc3) ?_
                refine AD.sT rfl rfl rfl rfl (fun g H' _ hH => op_moveD (.e rfl)) ?_
                refine AD.sT rfl rfl rfl rfl (fun g H' _ hH => op_moveD (.e rfl)) ?_
                obtain ⟨v38, hv38, hm⟩ := bindE hm
                refine AD.sT rfl rfl rfl rfl (fun g H' _ hH => op_indexAddrM (f := D.i) (.we g rfl rfl) (.we g rfl rfl) (iteT g hv38) En.i sl42) ?_
                refine AD.sT rfl rfl rfl rfl (fun g H' _ hH => op_load_vp1 (.we g rfl) rfl sc3) ?_
                obtain ⟨v39, hv39, hm⟩ := bindE hm
                refine AD.sT rfl rfl rfl rfl (fun g H' _ hH => op_fn Try.call51 (.e rfl) (.cons (.we g rfl rfl) (.cons (.we g rfl rfl) (.cons (.we g rfl rfl) .nil))) (m_ref32_apart_ok (iteT g hv39))) ?_
                refine AD.s (ws := []) rfl rfl (fun H' _ hH => op_and (.r rfl) (fun h => (.we h rfl rfl)) rfl) ?_
                refine AD.nil ?_
                refine AW.cond (b := _) rfl (fun hc11 => ?_) (fun hc11 => ?_)
                · replace hm := iteT hc11 hm
                  refine AW.reset 0 [(0, .d (.sl (a1.map SConstraint.e))), (1, .d (.sl (a2.map D.i))), (9, .d (.sl (s31.map SConstraint.e))), (10, .hs 0 0 s10.length 1), (14, .d (.int .i64 s30)), (15, .d (.int .i64 s32))] [.lst (s10.map D.i) 3 1] (WOK.g0 hw0 (by simp)) ⟨[0], rfl, rfl, rfl, ⟨(.d rfl), (.d rfl), (.d rfl), (.hs rfl rfl), (.d rfl), (.d rfl), trivial⟩, trivial, (.lst rfl .nil)⟩ ?_
                  refine AW.region ?_
                  refine AL.s rfl (op_moveD (.e rfl)) ?_
                  refine AL.s rfl (op_moveD (.e rfl)) ?_
                  refine AL.s rfl (op_moveD (.e rfl)) ?_
                  refine AL.s rfl (op_build bd50 (.cons (.e rfl) rfl rfl rfl rfl (Nat.le_of_ble_eq_true rfl) (.cons (.e rfl) rfl rfl rfl rfl (Nat.le_of_ble_eq_true rfl) (.cons (.e rfl) rfl rfl rfl rfl (Nat.le_of_ble_eq_true rfl) .nil)))) ?_
                  obtain ⟨v40, hv40, hm⟩ := bindE hm
                  refine AL.s rfl (op_fn Try.call52 (.e rfl) (.cons (.r rfl) (.cons (.r rfl) .nil)) (m_ref32_insert_ok hv40)) ?_
                  refine AL.s rfl (op_assignD (.e rfl)) ?_
                  refine AL.nil ?_
                  refine bq_n ?_
                  obtain rfl := Option.some.inj hm
                  exact nq ⟨_, rfl, ⟨[0], rfl, rfl, rfl, ⟨(.d rfl), (.d rfl), (.d rfl), (.hs rfl rfl), (.d rfl), (.d rfl), trivial⟩, trivial, (.lst rfl .nil)⟩⟩
                · replace hm := iteF hc11 hm
                  refine AW.skip ?_
                  refine bq_n ?_
                  obtain rfl := Option.some.inj hm
                  exact nq ⟨_, rfl, ⟨[0], rfl, rfl, rfl, ⟨(.d rfl), (.d rfl), (.d rfl), (.hs rfl rfl), (.d rfl), (.d rfl), trivial⟩, trivial, (.lst rfl .nil)⟩⟩
              · rintro s41 rfl
                replace hm := hkj3
                try dsimp only at hm
                refine AW.region ?_
                refine AL.s rfl (op_moveD (.e rfl)) ?_
                refine AL.s rfl (op_addw (.r rfl) (.r rfl)) ?_
                refine AL.s rfl (op_assignD (.e rfl)) ?_
                refine AL.nil ?_
                obtain rfl := Option.some.inj hm
                exact nq ⟨_, hI5, ⟨[0], rfl, rfl, rfl, ⟨(.d rfl), (.d rfl), (.d rfl), (.hs rfl rfl), (.d rfl), (.d rfl), trivial⟩, trivial, (.lst rfl .nil)⟩⟩
            · replace hm := iteF hc10 hm
              refine AW.exit ?_
              refine tq_exit ?_
              refine tq_exit ?_
              obtain rfl := Option.some.inj hm
              obtain rfl := Option.some.inj hI5
              replace hm := hk5
              try dsimp only at hm
              refine bq_hit ?_
              refine bq_n ?_
              refine nq ?_
              refine AW.region ?_
              refine AL.s rfl (op_moveD (.e rfl)) ?_
              refine AL.s rfl (op_addw (.r rfl) (.r rfl)) ?_
              refine AL.s rfl (op_assignD (.e rfl)) ?_
              refine AL.nil ?_
              obtain rfl := Option.some.inj hm
              exact nq ⟨_, hI4, ⟨[0], rfl, rfl, rfl, ⟨(.d rfl), (.d rfl), (.d rfl), (.hs rfl rfl), (.d rfl), trivial⟩, trivial, (.lst rfl .nil)⟩⟩
          · replace hm := iteF hc9 hm
            refine AW.exit ?_
            refine tq_exit ?_
            refine tq_exit ?_
            obtain rfl := Option.some.inj hm
            obtain rfl := Option.some.inj hI4
            replace hm := hk4
            try dsimp only at hm
            refine bq_hit ?_
            refine nq ?_
            refine AW.seqR ?_
            refine AL.s rfl (op_moveD (.e rfl)) ?_
            refine AL.s rfl (op_assignD (.e rfl)) ?_
            refine AL.s rfl (op_assignD (.e rfl)) ?_
            refine AL.nil ?_
            refine AW.ret ?_
            obtain rfl := Option.some.inj hm
            exact EndQ.d (.tmp (.e rfl) (.tmp (.e rfl) .nil)) rfl rfl

set_option maxHeartbeats 20000000 in
theorem m_ref32_Few_ok {n : Nat} {a1 : (List SConstraint)} {r : Bool} (hm : m_ref32_Few n a1 = some r) : Fn Try.prog 21 [(.sl (a1.map SConstraint.e))] (.bool r) := by
  unfold m_ref32_Few at hm
  refine Fn.of_AW (fnn := Try.f21) Try.func21 rfl (Nat.le_of_ble_eq_true rfl) (fun g0 w0 hw0 => ?_)
  refine AW.seqR ?_
  refine AL.s rfl (op_assignD (.e rfl)) ?_
  refine AL.nil ?_
  refine AW.seqR ?_
  refine AL.s rfl (op_moveD (.e rfl)) ?_
  refine AL.s rfl (op_lenM (f := SConstraint.e) (.r rfl) sl22) ?_
  refine AL.s rfl (op_leq (.r rfl) (.r rfl)) ?_
  refine AL.s rfl (op_moveD (.e rfl)) ?_
  refine AL.sF rfl rfl rfl rfl (fun g => op_moveD (.e rfl)) ?_
  refine AL.sF rfl rfl rfl rfl (fun g => op_lenM (f := SConstraint.e) (.we (nt g) rfl rfl) sl22) ?_
  refine AL.sF rfl rfl rfl rfl (fun g => op_eql (.we (nt g) rfl rfl) (.r rfl)) ?_
  refine AL.s rfl (op_or (.r rfl) rfl (fun h => (.we (nt h) rfl rfl))) ?_
  refine AL.s rfl (op_assignD (.e rfl)) ?_
  refine AL.nil ?_
  refine AW.ret ?_
  obtain rfl := Option.some.inj hm
  exact EndQ.d (.tmp (.e rfl) .nil) rfl rfl

set_option maxHeartbeats 20000000 in
theorem m_ref32_SameInts_ok {n : Nat} {a1 : (List Int)} {a2 : (List Int)} {r : Bool} (hm : m_ref32_SameInts n a1 a2 = some r) : Fn Try.prog 25 [(.sl (a1.map D.i)), (.sl (a2.map D.i))] (.bool r) := by
  unfold m_ref32_SameInts at hm
  refine Fn.of_AW (fnn := Try.f25) Try.func25 rfl (Nat.le_of_ble_eq_true rfl) (fun g0 w0 hw0 => ?_)
  refine AW.reset 0 [(0, .d (.sl (a1.map D.i))), (1, .d (.sl (a2.map D.i)))] [] (WOK.g0 hw0 (by simp)) ⟨[], rfl, rfl, rfl, ⟨(.d rfl), (.d rfl), trivial⟩, trivial, .nil⟩ ?_
  refine AW.seqR ?_
  refine AL.s rfl (op_assignD (.e rfl)) ?_
  refine AL.nil ?_
  refine AW.seq ?_
  refine AW.seqR ?_
  refine AL.s rfl (op_moveD (.e rfl)) ?_
  refine AL.s rfl (op_lenM (f := D.i) (.r rfl) sl42) ?_
  refine AL.s rfl (op_moveD (.e rfl)) ?_
  refine AL.s rfl (op_lenM (f := D.i) (.r rfl) sl42) ?_
  refine AL.s rfl (op_neq (.r rfl) (.r rfl)) ?_
  refine AL.nil ?_
  refine AW.cond (b := _) rfl (fun hc1 => ?_) (fun hc1 => ?_)
  · replace hm := iteT hc1 hm
    refine AW.seqR ?_
    refine AL.s rfl (op_assignD (.e rfl)) ?_
    refine AL.nil ?_
    refine AW.ret ?_
    refine tq_ret ?_
    obtain rfl := Option.some.inj hm
    exact EndQ.d (.tmp (.e rfl) .nil) rfl rfl
  · replace hm := iteF hc1 hm
    refine AW.skip ?_
    refine nq ?_
    refine AW.seq ?_
    refine AW.seqR ?_
    refine AL.s rfl (op_assignD (.e rfl)) ?_
    refine AL.nil ?_
    refine AW.block ?_
    obtain ⟨t_1, hI1, hk1⟩ := bindE hm
    refine AW.loopS (σ := Int) (τ := (Bool ⊕ Unit)) 0 (fun x => [(0, .d (.sl (a1.map D.i))), (1, .d (.sl (a2.map D.i))), (5, .d (.int .i64 x))]) (fun x => []) hI1 (WOK.g0 hw0 (by simp)) ⟨[], rfl, rfl, rfl, ⟨(.d rfl), (.d rfl), (.d rfl), trivial⟩, trivial, .nil⟩ ?_
    rintro n1 s3 hI1
    obtain ⟨y_1, hm, hI1⟩ := iterS hI1
    replace hm : m_ref32_SameInts_L1 n _ _ s3 = some y_1 := hm
    unfold m_ref32_SameInts_L1 at hm
    try dsimp only at hm
    refine AW.seq ?_
    refine AW.seqR ?_
    refine AL.s rfl (op_moveD (.e rfl)) ?_
    refine AL.s rfl (op_moveD (.e rfl)) ?_
    refine AL.s rfl (op_lenM (f := D.i) (.r rfl) sl42) ?_
    refine AL.s rfl (op_lss (.r rfl) (.r rfl)) ?_
    refine AL.nil ?_
    refine AW.cond (b := _) rfl (fun hc2 => ?_) (fun hc2 => ?_)
    · replace hm := iteT hc2 hm
      refine AW.skip ?_
      refine nq ?_
      refine AW.seq ?_
      refine AW.block ?_
      refine AW.seqD [([], []), ([], []), ([], []), ([], []), ([], []), ([], []), ([], []), ([], []), ([], [])] mo (by decide +kernel) ?_
      refine AD.s (ws := []) rfl rfl (fun H' _ hH => op_moveD (.e rfl)) ?_
      refine AD.s (ws := []) rfl rfl (fun H' _ hH => op_moveD (.e rfl)) ?_
      obtain ⟨v4, hv4, hm⟩ := bindE hm
      refine AD.s (ws := []) rfl rfl (fun H' _ hH => op_indexAddrM (f := D.i) (.r rfl) (.r rfl) hv4 En.i sl42) ?_
      refine AD.s (ws := []) rfl rfl (fun H' _ hH => op_load_vp1 (.e rfl) rfl sc3) ?_
      refine AD.s (ws := []) rfl rfl (fun H' _ hH => op_moveD (.e rfl)) ?_
      refine AD.s (ws := []) rfl rfl (fun H' _ hH => op_moveD (.e rfl)) ?_
      obtain ⟨v5, hv5, hm⟩ := bindE hm
      refine AD.s (ws := []) rfl rfl (fun H' _ hH => op_indexAddrM (f := D.i) (.r rfl) (.r rfl) hv5 En.i sl42) ?_
      refine AD.s (ws := []) rfl rfl (fun H' _ hH => op_load_vp1 (.e rfl) rfl sc3) ?_
      refine AD.s (ws := []) rfl rfl (fun H' _ hH => op_neq (.r rfl) (.r rfl)) ?_
      refine AD.nil ?_
      refine AW.cond (b := _) rfl (fun hc3 => ?_) (fun hc3 => ?_)
      · replace hm := iteT hc3 hm
        refine AW.seqR ?_
        refine AL.s rfl (op_assignD (.e rfl)) ?_
        refine AL.nil ?_
        refine AW.ret ?_
        refine bq_ret ?_
        refine tq_ret ?_
        refine tq_ret ?_
        obtain rfl := Option.some.inj hm
        obtain rfl := Option.some.inj hI1
        replace hm := hk1
        try dsimp only at hm
        refine bq_ret ?_
        refine tq_ret ?_
        obtain rfl := Option.some.inj hm
        exact EndQ.d (.tmp (.e rfl) .nil) rfl rfl
      · replace hm := iteF hc3 hm
        refine AW.skip ?_
        refine bq_n ?_
        refine nq ?_
        refine AW.region ?_
        refine AL.s rfl (op_moveD (.e rfl)) ?_
        refine AL.s rfl (op_addw (.r rfl) (.r rfl)) ?_
        refine AL.s rfl (op_assignD (.e rfl)) ?_
        refine AL.nil ?_
        obtain rfl := Option.some.inj hm
        exact nq ⟨_, hI1, ⟨[], rfl, rfl, rfl, ⟨(.d rfl), (.d rfl), (.d rfl), trivial⟩, trivial, .nil⟩⟩
    · replace hm := iteF hc2 hm
      refine AW.exit ?_
      refine tq_exit ?_
      refine tq_exit ?_
      obtain rfl := Option.some.inj hm
      obtain rfl := Option.some.inj hI1
      replace hm := hk1
      try dsimp only at hm
      refine bq_hit ?_
      refine nq ?_
      refine AW.seqR ?_
      refine AL.s rfl (op_assignD (.e rfl)) ?_
      refine AL.nil ?_
      refine AW.ret ?_
      obtain rfl := Option.some.inj hm
      exact EndQ.d (.tmp (.e rfl) .nil) rfl rfl

set_option maxHeartbeats 20000000 in
theorem m_ref32_SameGroups_ok {n : Nat} {a1 : (List (List Int))} {a2 : (List (List Int))} {r : Bool} (hm : m_ref32_SameGroups n a1 a2 = some r) : Fn Try.prog 18 [(.sl (a1.map (esl D.i))), (.sl (a2.map (esl D.i)))] (.bool r) := by
  unfold m_ref32_SameGroups at hm
  refine Fn.of_AW (fnn := Try.f18) Try.func18 rfl (Nat.le_of_ble_eq_true rfl) (fun g0 w0 hw0 => ?_)
  refine AW.reset 0 [(0, .d (.sl (a1.map (esl D.i)))), (1, .d (.sl (a2.map (esl D.i))))] [] (WOK.g0 hw0 (by simp)) ⟨[], rfl, rfl, rfl, ⟨(.d rfl), (.d rfl), trivial⟩, trivial, .nil⟩ ?_
  refine AW.seqR ?_
  refine AL.s rfl (op_assignD (.e rfl)) ?_
  refine AL.nil ?_
  refine AW.seq ?_
  refine AW.seqR ?_
  refine AL.s rfl (op_moveD (.e rfl)) ?_
  refine AL.s rfl (op_lenM (f := (esl D.i)) (.r rfl) sl29) ?_
  refine AL.s rfl (op_moveD (.e rfl)) ?_
  refine AL.s rfl (op_lenM (f := (esl D.i)) (.r rfl) sl29) ?_
  refine AL.s rfl (op_neq (.r rfl) (.r rfl)) ?_
  refine AL.nil ?_
  refine AW.cond (b := _) rfl (fun hc1 => ?_) (fun hc1 => ?_)
  · replace hm := iteT hc1 hm
    refine AW.seqR ?_
    refine AL.s rfl (op_assignD (.e rfl)) ?_
    refine AL.nil ?_
    refine AW.ret ?_
    refine tq_ret ?_
    obtain rfl := Option.some.inj hm
    exact EndQ.d (.tmp (.e rfl) .nil) rfl rfl
  · replace hm := iteF hc1 hm
    refine AW.skip ?_
    refine nq ?_
    refine AW.seq ?_
    refine AW.seqR ?_
    refine AL.s rfl (op_assignD (.e rfl)) ?_
    refine AL.nil ?_
    refine AW.block ?_
    obtain ⟨t_1, hI1, hk1⟩ := bindE hm
    refine AW.loopS (σ := Int) (τ := (Bool ⊕ Unit)) 0 (fun x => [(0, .d (.sl (a1.map (esl D.i)))), (1, .d (.sl (a2.map (esl D.i)))), (5, .d (.int .i64 x))]) (fun x => []) hI1 (WOK.g0 hw0 (by simp)) ⟨[], rfl, rfl, rfl, ⟨(.d rfl), (.d rfl), (.d rfl), trivial⟩, trivial, .nil⟩ ?_
    rintro n1 s3 hI1
    obtain ⟨y_1, hm, hI1⟩ := iterS hI1
    replace hm : m_ref32_SameGroups_L1 n _ _ s3 = some y_1 := hm
    unfold m_ref32_SameGroups_L1 at hm
    try dsimp only at hm
    refine AW.seq ?_
    refine AW.seqR ?_
    refine AL.s rfl (op_moveD (.e rfl)) ?_
    refine AL.s rfl (op_moveD (.e rfl)) ?_
    refine AL.s rfl (op_lenM (f := (esl D.i)) (.r rfl) sl29) ?_
    refine AL.s rfl (op_lss (.r rfl) (.r rfl)) ?_
    refine AL.nil ?_
    refine AW.cond (b := _) rfl (fun hc2 => ?_) (fun hc2 => ?_)
    · replace hm := iteT hc2 hm
      refine AW.skip ?_
      refine nq ?_
      refine AW.seq ?_
      refine AW.block ?_
      refine AW.seqD [([], []), ([], []), ([], []), ([], []), ([], []), ([], []), ([], []), ([], []), ([], []), ([], [])] mo (by decide +kernel) ?_
      refine AD.s (ws := []) rfl rfl (fun H' _ hH => op_moveD (.e rfl)) ?_
      refine AD.s (ws := []) rfl rfl (fun H' _ hH => op_moveD (.e rfl)) ?_
      obtain ⟨v4, hv4, hm⟩ := bindE hm
      refine AD.s (ws := []) rfl rfl (fun H' _ hH => op_indexAddrM (f := (esl D.i)) (.r rfl) (.r rfl) hv4 En.sl sl29) ?_
      refine AD.s (ws := []) rfl rfl (fun H' _ hH => op_load_vp1 (.e rfl) rfl sc42) ?_
      refine AD.s (ws := []) rfl rfl (fun H' _ hH => op_moveD (.e rfl)) ?_
      refine AD.s (ws := []) rfl rfl (fun H' _ hH => op_moveD (.e rfl)) ?_
      obtain ⟨v5, hv5, hm⟩ := bindE hm
      refine AD.s (ws := []) rfl rfl (fun H' _ hH => op_indexAddrM (f := (esl D.i)) (.r rfl) (.r rfl) hv5 En.sl sl29) ?_
      refine AD.s (ws := []) rfl rfl (fun H' _ hH => op_load_vp1 (.e rfl) rfl sc42) ?_
      obtain ⟨v6, hv6, hm⟩ := bindE hm
      refine AD.s (ws := []) rfl rfl (fun H' _ hH => op_fn Try.call25 (.e rfl) (.cons (.r rfl) (.cons (.r rfl) .nil)) (m_ref32_SameInts_ok hv6)) ?_
      refine AD.s (ws := []) rfl rfl (fun H' _ hH => op_not (.r rfl)) ?_
      refine AD.nil ?_
      refine AW.cond (b := _) rfl (fun hc3 => ?_) (fun hc3 => ?_)
      · replace hm := iteT hc3 hm
        refine AW.seqR ?_
        refine AL.s rfl (op_assignD (.e rfl)) ?_
        refine AL.nil ?_
        refine AW.ret ?_
        refine bq_ret ?_
        refine tq_ret ?_
        refine tq_ret ?_
        obtain rfl := Option.some.inj hm
        obtain rfl := Option.some.inj hI1
        replace hm := hk1
        try dsimp only at hm
        refine bq_ret ?_
        refine tq_ret ?_
        obtain rfl := Option.some.inj hm
        exact EndQ.d (.tmp (.e rfl) .nil) rfl rfl
      · replace hm := iteF hc3 hm
        refine AW.skip ?_
        refine bq_n ?_
        refine nq ?_
        refine AW.region ?_
        refine AL.s rfl (op_moveD (.e rfl)) ?_
        refine AL.s rfl (op_addw (.r rfl) (.r rfl)) ?_
        refine AL.s rfl (op_assignD (.e rfl)) ?_
        refine AL.nil ?_
        obtain rfl := Option.some.inj hm
        exact nq ⟨_, hI1, ⟨[], rfl, rfl, rfl, ⟨(.d rfl), (.d rfl), (.d rfl), trivial⟩, trivial, .nil⟩⟩
    · replace hm := iteF hc2 hm
      refine AW.exit ?_
      refine tq_exit ?_
      refine tq_exit ?_
      obtain rfl := Option.some.inj hm
      obtain rfl := Option.some.inj hI1
      replace hm := hk1
      try dsimp only at hm
      refine bq_hit ?_
      refine nq ?_
      refine AW.seqR ?_
      refine AL.s rfl (op_assignD (.e rfl)) ?_
      refine AL.nil ?_
      refine AW.ret ?_
      obtain rfl := Option.some.inj hm
      exact EndQ.d (.tmp (.e rfl) .nil) rfl rfl

set_option maxHeartbeats 20000000 in
theorem m_ref32_SameRules_ok {n : Nat} {a1 : (List SConstraint)} {a2 : (List SConstraint)} {r : Bool} (hm : m_ref32_SameRules n a1 a2 = some r) : Fn Try.prog 14 [(.sl (a1.map SConstraint.e)), (.sl (a2.map SConstraint.e))] (.bool r) := by
  unfold m_ref32_SameRules at hm
  refine Fn.of_AW (fnn := Try.f14) Try.func14 rfl (Nat.le_of_ble_eq_true rfl) (fun g0 w0 hw0 => ?_)
  refine AW.reset 0 [(0, .d (.sl (a1.map SConstraint.e))), (1, .d (.sl (a2.map SConstraint.e)))] [] (WOK.g0 hw0 (by simp)) ⟨[], rfl, rfl, rfl, ⟨(.d rfl), (.d rfl), trivial⟩, trivial, .nil⟩ ?_
  refine AW.seqR ?_
  refine AL.s rfl (op_assignD (.e rfl)) ?_
  refine AL.nil ?_
  refine AW.seq ?_
  refine AW.seqR ?_
  refine AL.s rfl (op_moveD (.e rfl)) ?_
  refine AL.s rfl (op_lenM (f := SConstraint.e) (.r rfl) sl22) ?_
  refine AL.s rfl (op_moveD (.e rfl)) ?_
  refine AL.s rfl (op_lenM (f := SConstraint.e) (.r rfl) sl22) ?_
  refine AL.s rfl (op_neq (.r rfl) (.r rfl)) ?_
  refine AL.nil ?_
  refine AW.cond (b := _) rfl (fun hc1 => ?_) (fun hc1 => ?_)
  · replace hm := iteT hc1 hm
    refine AW.seqR ?_
    refine AL.s rfl (op_assignD (.e rfl)) ?_
    refine AL.nil ?_
    refine AW.ret ?_
    refine tq_ret ?_
    obtain rfl := Option.some.inj hm
    exact EndQ.d (.tmp (.e rfl) .nil) rfl rfl
  · replace hm := iteF hc1 hm
    refine AW.skip ?_
    refine nq ?_
    refine AW.seq ?_
    refine AW.seqR ?_
    refine AL.s rfl (op_assignD (.e rfl)) ?_
    refine AL.nil ?_
    refine AW.block ?_
    obtain ⟨t_1, hI1, hk1⟩ := bindE hm
    refine AW.loopS (σ := Int) (τ := (Bool ⊕ Unit)) 0 (fun x => [(0, .d (.sl (a1.map SConstraint.e))), (1, .d (.sl (a2.map SConstraint.e))), (5, .d (.int .i64 x))]) (fun x => []) hI1 (WOK.g0 hw0 (by simp)) ⟨[], rfl, rfl, rfl, ⟨(.d rfl), (.d rfl), (.d rfl), trivial⟩, trivial, .nil⟩ ?_
    rintro n1 s3 hI1
    obtain ⟨y_1, hm, hI1⟩ := iterS hI1
    replace hm : m_ref32_SameRules_L1 n _ _ s3 = some y_1 := hm
    unfold m_ref32_SameRules_L1 at hm
    try dsimp only at hm
    refine AW.seq ?_
    refine AW.seqR ?_
    refine AL.s rfl (op_moveD (.e rfl)) ?_
    refine AL.s rfl (op_moveD (.e rfl)) ?_
    refine AL.s rfl (op_lenM (f := SConstraint.e) (.r rfl) sl22) ?_
    refine AL.s rfl (op_lss (.r rfl) (.r rfl)) ?_
    refine AL.nil ?_
    refine AW.cond (b := _) rfl (fun hc2 => ?_) (fun hc2 => ?_)
    · replace hm := iteT hc2 hm
      refine AW.skip ?_
      refine nq ?_
      refine AW.seq ?_
      refine AW.block ?_
      refine AW.seqD [([], []), ([], []), ([], []), ([], []), ([], []), ([], []), ([], []), ([], []), ([], [])] mo (by decide +kernel) ?_
      refine AD.s (ws := []) rfl rfl (fun H' _ hH => op_moveD (.e rfl)) ?_
      refine AD.s (ws := []) rfl rfl (fun H' _ hH => op_moveD (.e rfl)) ?_
      obtain ⟨v4, hv4, hm⟩ := bindE hm
      refine AD.s (ws := []) rfl rfl (fun H' _ hH => op_indexAddrM (f := SConstraint.e) (.r rfl) (.r rfl) hv4 enSConstraint sl22) ?_
      refine AD.s (ws := []) rfl rfl (fun H' _ hH => op_loadA (.e rfl) rfl ag50) ?_
      refine AD.s (ws := []) rfl rfl (fun H' _ hH => op_moveD (.e rfl)) ?_
      refine AD.s (ws := []) rfl rfl (fun H' _ hH => op_moveD (.e rfl)) ?_
      obtain ⟨v5, hv5, hm⟩ := bindE hm
      refine AD.s (ws := []) rfl rfl (fun H' _ hH => op_indexAddrM (f := SConstraint.e) (.r rfl) (.r rfl) hv5 enSConstraint sl22) ?_
      refine AD.s (ws := []) rfl rfl (fun H' _ hH => op_loadA (.e rfl) rfl ag50) ?_
      refine AD.s (ws := []) rfl rfl (fun H' _ hH => op_neqSt (a := v4) (b := v5) es50 (.r rfl) (.r rfl)) ?_
      refine AD.nil ?_
      refine AW.cond (b := _) rfl (fun hc3 => ?_) (fun hc3 => ?_)
      · replace hm := iteT hc3 hm
        refine AW.seqR ?_
        refine AL.s rfl (op_assignD (.e rfl)) ?_
        refine AL.nil ?_
        refine AW.ret ?_
        refine bq_ret ?_
        refine tq_ret ?_
        refine tq_ret ?_
        obtain rfl := Option.some.inj hm
        obtain rfl := Option.some.inj hI1
        replace hm := hk1
        try dsimp only at hm
        refine bq_ret ?_
        refine tq_ret ?_
        obtain rfl := Option.some.inj hm
        exact EndQ.d (.tmp (.e rfl) .nil) rfl rfl
      · replace hm := iteF hc3 hm
        refine AW.skip ?_
        refine bq_n ?_
        refine nq ?_
        refine AW.region ?_
        refine AL.s rfl (op_moveD (.e rfl)) ?_
        refine AL.s rfl (op_addw (.r rfl) (.r rfl)) ?_
        refine AL.s rfl (op_assignD (.e rfl)) ?_
        refine AL.nil ?_
        obtain rfl := Option.some.inj hm
        exact nq ⟨_, hI1, ⟨[], rfl, rfl, rfl, ⟨(.d rfl), (.d rfl), (.d rfl), trivial⟩, trivial, .nil⟩⟩
    · replace hm := iteF hc2 hm
      refine AW.exit ?_
      refine tq_exit ?_
      refine tq_exit ?_
      obtain rfl := Option.some.inj hm
      obtain rfl := Option.some.inj hI1
      replace hm := hk1
      try dsimp only at hm
      refine bq_hit ?_
      refine nq ?_
      refine AW.seqR ?_
      refine AL.s rfl (op_assignD (.e rfl)) ?_
      refine AL.nil ?_
      refine AW.ret ?_
      obtain rfl := Option.some.inj hm
      exact EndQ.d (.tmp (.e rfl) .nil) rfl rfl

set_option maxHeartbeats 20000000 in
theorem m_law32_awake_ok {n : Nat} {r : Bool} (hm : m_law32_awake n  = some r) : Fn Try.prog 11 [] (.bool r) := by
  unfold m_law32_awake at hm
  refine Fn.of_AW (fnn := Try.f11) Try.func11 rfl (Nat.le_of_ble_eq_true rfl) (fun g0 w0 hw0 => ?_)
  refine AW.reset 0 [] [] (WOK.g0 hw0 (by simp)) ⟨[], rfl, rfl, rfl, trivial, trivial, .nil⟩ ?_
  refine AW.seqR ?_
  refine AL.s rfl (op_assignD (.e rfl)) ?_
  refine AL.nil ?_
  refine AW.seqR ?_
  refine AL.s rfl (op_build bd50 (.cons (.e rfl) rfl rfl rfl rfl (Nat.le_of_ble_eq_true rfl) (.cons (.e rfl) rfl rfl rfl rfl (Nat.le_of_ble_eq_true rfl) (.cons (.e rfl) rfl rfl rfl rfl (Nat.le_of_ble_eq_true rfl) .nil)))) ?_
  refine AL.s rfl (op_build bd50 (.cons (.e rfl) rfl rfl rfl rfl (Nat.le_of_ble_eq_true rfl) (.cons (.e rfl) rfl rfl rfl rfl (Nat.le_of_ble_eq_true rfl) (.cons (.e rfl) rfl rfl rfl rfl (Nat.le_of_ble_eq_true rfl) .nil)))) ?_
  refine AL.s rfl (op_build bd50 (.cons (.e rfl) rfl rfl rfl rfl (Nat.le_of_ble_eq_true rfl) (.cons (.e rfl) rfl rfl rfl rfl (Nat.le_of_ble_eq_true rfl) (.cons (.e rfl) rfl rfl rfl rfl (Nat.le_of_ble_eq_true rfl) .nil)))) ?_
  refine AL.s rfl (op_buildSlice (ds := ([(⟨(1 : Int), (1 : Int), (2 : Int)⟩ : SConstraint), (⟨(1 : Int), (2 : Int), (3 : Int)⟩ : SConstraint), (⟨(2 : Int), (1 : Int), (4 : Int)⟩ : SConstraint)] : List SConstraint).map SConstraint.e) sl22 (.cons (.r rfl) rfl (enSConstraint.one _) (.cons (.r rfl) rfl (enSConstraint.one _) (.cons (.r rfl) rfl (enSConstraint.one _) .nil))) rfl (by decide)) ?_
  refine AL.s rfl (op_assignE (.e rfl)) ?_
  refine AL.nil ?_
  refine AW.seqR ?_
  refine AL.s rfl (op_moveE (.e rfl)) ?_
  obtain ⟨v1, hv1, hm⟩ := bindE hm
  refine AL.s rfl (op_fn Try.call15 (.e rfl) (.cons (.r rfl) .nil) (m_constraint_Groups_ok hv1)) ?_
  refine AL.s rfl (op_moveD (.e rfl)) ?_
  refine AL.s rfl (op_extractD (.e rfl) rfl) ?_
  refine AL.s rfl (op_extractD (.e rfl) rfl) ?_
  refine AL.s rfl (op_assignD (.e rfl)) ?_
  refine AL.s rfl (op_assignD (.e rfl)) ?_
  refine AL.nil ?_
  refine AW.seqR ?_
  refine AL.s rfl (op_moveE (.e rfl)) ?_
  obtain ⟨v2, hv2, hm⟩ := bindE hm
  refine AL.s rfl (op_fn Try.call17 (.e rfl) (.cons (.r rfl) (.cons (.r rfl) (.cons (.r rfl) .nil))) (m_constraint_Apart_ok hv2)) ?_
  refine AL.s rfl (op_moveD (.e rfl)) ?_
  refine AL.s rfl (op_extractD (.e rfl) rfl) ?_
  refine AL.s rfl (op_extractD (.e rfl) rfl) ?_
  refine AL.s rfl (op_assignD (.e rfl)) ?_
  refine AL.s rfl (op_assignD (.e rfl)) ?_
  refine AL.nil ?_
  refine AW.seqR ?_
  refine AL.s rfl (op_moveE (.e rfl)) ?_
  refine AL.s rfl (op_build bd50 (.cons (.e rfl) rfl rfl rfl rfl (Nat.le_of_ble_eq_true rfl) (.cons (.e rfl) rfl rfl rfl rfl (Nat.le_of_ble_eq_true rfl) (.cons (.e rfl) rfl rfl rfl rfl (Nat.le_of_ble_eq_true rfl) .nil)))) ?_
  refine AL.s rfl (op_buildSlice (ds := ([(⟨(2 : Int), (1 : Int), (3 : Int)⟩ : SConstraint)] : List SConstraint).map SConstraint.e) sl22 (.cons (.r rfl) rfl (enSConstraint.one _) .nil) rfl (by decide)) ?_
  obtain ⟨v3, hv3, hm⟩ := bindE hm
  refine AL.s rfl (op_appendEM (n := 0) (f := SConstraint.e) (l := ([(⟨(1 : Int), (1 : Int), (2 : Int)⟩ : SConstraint), (⟨(1 : Int), (2 : Int), (3 : Int)⟩ : SConstraint), (⟨(2 : Int), (1 : Int), (4 : Int)⟩ : SConstraint)] : List SConstraint)) (l' := ([(⟨(2 : Int), (1 : Int), (3 : Int)⟩ : SConstraint)] : List SConstraint)) sl22 (.e rfl) (.r rfl) rfl enSConstraint hv3) ?_
  obtain ⟨v4, hv4, hm⟩ := bindE hm
  refine AL.s rfl (op_fn Try.call16 (.e rfl) (.cons (.r rfl) .nil) (m_constraint_Conflicts_ok hv4)) ?_
  refine AL.s rfl (op_moveD (.e rfl)) ?_
  refine AL.s rfl (op_extractD (.e rfl) rfl) ?_
  refine AL.s rfl (op_extractD (.e rfl) rfl) ?_
  refine AL.s rfl (op_assignD (.e rfl)) ?_
  refine AL.s rfl (op_assignD (.e rfl)) ?_
  refine AL.nil ?_
  refine AW.seqR ?_
  refine AL.s rfl (op_moveD (.e rfl)) ?_
  refine AL.s rfl (op_eql (.r rfl) (.r rfl)) ?_
  refine AL.s rfl (op_moveD (.e rfl)) ?_
  refine AL.sT rfl rfl rfl rfl (fun g => op_moveD (.e rfl)) ?_
  refine AL.sT rfl rfl rfl rfl (fun g => op_eql (.we g rfl rfl) (.r rfl)) ?_
  refine AL.s rfl (op_and (.r rfl) (fun h => (.we h rfl rfl)) rfl) ?_
  refine AL.s rfl (op_moveD (.e rfl)) ?_
  refine AL.sT rfl rfl rfl rfl (fun g => op_moveD (.e rfl)) ?_
  refine AL.sT rfl rfl rfl rfl (fun g => op_eql (.we g rfl rfl) (.r rfl)) ?_
  refine AL.s rfl (op_and (.r rfl) (fun h => (.we h rfl rfl)) rfl) ?_
  refine AL.s rfl (op_moveD (.e rfl)) ?_
  refine AL.sT rfl rfl rfl rfl (fun g => op_moveD (.e rfl)) ?_
  refine AL.s rfl (op_and (.r rfl) (fun h => (.we h rfl rfl)) rfl) ?_
  refine AL.s rfl (op_moveD (.e rfl)) ?_
  refine AL.sT rfl rfl rfl rfl (fun g => op_moveD (.e rfl)) ?_
  refine AL.sT rfl rfl rfl rfl (fun g => op_buildSlice (ds := ([(1 : Int), (2 : Int), (3 : Int)] : List Int).map D.i) sl42 (.cons (.r rfl) rfl (En.i.one _) (.cons (.r rfl) rfl (En.i.one _) (.cons (.r rfl) rfl (En.i.one _) .nil))) rfl (by decide)) ?_
  refine AL.sT rfl rfl rfl rfl (fun g => op_buildSlice (ds := ([([(1 : Int), (2 : Int), (3 : Int)] : List Int)] : List (List Int)).map (esl D.i)) sl29 (.cons (.we g rfl rfl) rfl (En.sl.one _) .nil) rfl (by decide)) ?_
  obtain ⟨v5, hv5, hm⟩ := bindE hm
  refine AL.sT rfl rfl rfl rfl (fun g => op_fn Try.call18 (.e rfl) (.cons (.we g rfl rfl) (.cons (.we g rfl rfl) .nil)) (m_ref32_SameGroups_ok (iteT g hv5))) ?_
  refine AL.s rfl (op_and (.r rfl) (fun h => (.we h rfl rfl)) rfl) ?_
  refine AL.s rfl (op_moveD (.e rfl)) ?_
  refine AL.sT rfl rfl rfl rfl (fun g => op_moveD (.e rfl)) ?_
  refine AL.sT rfl rfl rfl rfl (fun g => op_lenM (f := SConflict.e) (.we g rfl rfl) sl32) ?_
  refine AL.sT rfl rfl rfl rfl (fun g => op_eql (.we g rfl rfl) (.r rfl)) ?_
  refine AL.s rfl (op_and (.r rfl) (fun h => (.we h rfl rfl)) rfl) ?_
  refine AL.s rfl (op_moveD (.e rfl)) ?_
  refine AL.sT rfl rfl rfl rfl (fun g => op_moveD (.e rfl)) ?_
  obtain ⟨v6, hv6, hm⟩ := bindE hm
  refine AL.sT rfl rfl rfl rfl (fun g => op_indexAddrM (f := SConflict.e) (.we g rfl rfl) (.r rfl) (iteT g hv6) enSConflict sl32) ?_
  refine AL.sT rfl rfl rfl rfl (fun g => op_field_vp (.we g rfl) fd55_1) ?_
  refine AL.sT rfl rfl rfl rfl (fun g => op_load_vp1 (.we g rfl) rfl sc42) ?_
  refine AL.sT rfl rfl rfl rfl (fun g => op_buildSlice (ds := ([(1 : Int), (2 : Int), (3 : Int)] : List Int).map D.i) sl42 (.cons (.r rfl) rfl (En.i.one _) (.cons (.r rfl) rfl (En.i.one _) (.cons (.r rfl) rfl (En.i.one _) .nil))) rfl (by decide)) ?_
  obtain ⟨v7, hv7, hm⟩ := bindE hm
  refine AL.sT rfl rfl rfl rfl (fun g => op_fn Try.call25 (.e rfl) (.cons (.we g rfl rfl) (.cons (.we g rfl rfl) .nil)) (m_ref32_SameInts_ok (iteT g hv7))) ?_
  refine AL.s rfl (op_and (.r rfl) (fun h => (.we h rfl rfl)) rfl) ?_
  refine AL.s rfl (op_moveD (.e rfl)) ?_
  refine AL.sT rfl rfl rfl rfl (fun g => op_moveE (.e rfl)) ?_
  obtain ⟨v8, hv8, hm⟩ := bindE hm
  refine AL.sT rfl rfl rfl rfl (fun g => op_fn Try.call30 (.e rfl) (.cons (.we g rfl rfl) .nil) (m_constraint_Valid_ok (iteT g hv8))) ?_
  refine AL.s rfl (op_and (.r rfl) (fun h => (.we h rfl rfl)) rfl) ?_
  refine AL.s rfl (op_assignD (.e rfl)) ?_
  refine AL.nil ?_
  refine AW.ret ?_
  obtain rfl := Option.some.inj hm
  exact EndQ.d (.tmp (.e rfl) .nil) rfl rfl

end Go.Proofs.Ytkfffaoopcnaoaa.Ab
