/- The functions do what they are in plain Lean. Conditions: none. -/
import Derived.Test.YtagdgndoabomiaaDoorTy
import Derived.Test.YtagdgndoabomiaaDoorMi
import Derived.Test.YtagdgndoabomiaaDoorFa
set_option maxRecDepth 100000
namespace Go.Proofs.YtagdgndoabomiaaDoor.Ab
open Go
attribute [local irreducible] AL AD AW

set_option maxHeartbeats 20000000 in
theorem m_nat_trimmed_f2_ok {n : Nat} {c1 : (List Int)} {r : (List Int)} (hm : m_nat_trimmed_f2 n c1 = some r) : ACall Tryd.prog 65 [.hs 0 0 c1.length 1] [.lst (c1.map D.i) 3 1] fun r' H' => r' = resOf [.hs 1 0 r.length 1] ∧ H' = [.dead, .lst (r.map D.i) 3 1] := by
  unfold m_nat_trimmed_f2 at hm
  refine ACall.of_AWG (fnn := Tryd.f65) Tryd.func65 rfl (Nat.le_of_ble_eq_true rfl) (fun g0 w0 hw0 => ?_)
  refine AW.reset 1 [(0, .hs 0 0 c1.length 1)] [.lst (c1.map D.i) 3 1] (WOK.g0 hw0 (by simp)) ⟨[0], rfl, rfl, rfl, ⟨(.hs rfl rfl), trivial⟩, trivial, (.lst rfl .nil)⟩ ?_
  refine AW.seqR ?_
  refine AL.s rfl (op_assignN (.e rfl)) ?_
  refine AL.nil ?_
  refine AW.seq ?_
  refine AW.block ?_
  obtain ⟨t_1, hI1, hk1⟩ := bindE hm
  refine AW.loopS (σ := (List Int)) (τ := (List Int)) 1 (fun x => [(0, .hs 0 0 x.length 1)]) (fun x => [.lst (x.map D.i) 3 1]) hI1 (WOK.g0 hw0 (by simp)) ⟨[0], rfl, rfl, rfl, ⟨(.hs rfl rfl), trivial⟩, trivial, (.lst rfl .nil)⟩ ?_
  rintro n1 s2 hI1
  obtain ⟨y_1, hm, hI1⟩ := iterS hI1
  replace hm : m_nat_trimmed_f2_L1 n s2 = some y_1 := hm
  unfold m_nat_trimmed_f2_L1 at hm
  try dsimp only at hm
  refine AW.seq ?_
  refine AW.seqR ?_
  refine AL.s rfl (op_moveH (.e rfl)) ?_
  refine AL.s rfl (op_len_hs (.e rfl) rfl sl29) ?_
  refine AL.s rfl (op_gtr (.r rfl) (.r rfl)) ?_
  refine AL.s rfl (op_moveD (.e rfl)) ?_
  refine AL.sT rfl rfl rfl rfl (fun g => op_moveH (.e rfl)) ?_
  refine AL.sT rfl rfl rfl rfl (fun g => op_moveH (.e rfl)) ?_
  refine AL.sT rfl rfl rfl rfl (fun g => op_len_hs (.we g rfl) rfl sl29) ?_
  refine AL.sT rfl rfl rfl rfl (fun g => op_subw (.we g rfl rfl) (.r rfl)) ?_
  obtain ⟨v3, hv3, hm⟩ := bindE hm
  refine AL.sT rfl rfl rfl rfl (fun g => op_indexAddr_hs (f := D.i) (l := s2) (.we g rfl) rfl rfl (.we g rfl rfl) (iteT g hv3) sl29) ?_
  obtain ⟨v4, hv4, hm⟩ := bindE hm
  refine AL.sT rfl rfl rfl rfl (fun g => op_load_lp (f := D.i) (fun _ => rfl) (.we g rfl) rfl (iteT g hv4) sc3) ?_
  refine AL.sT rfl rfl rfl rfl (fun g => op_eql (.we g rfl rfl) (.r rfl)) ?_
  refine AL.s rfl (op_and (.r rfl) (fun h => (.we h rfl rfl)) rfl) ?_
  refine AL.nil ?_
  refine AW.cond (b := _) rfl (fun hc1 => ?_) (fun hc1 => ?_)
  · replace hm := iteT hc1 hm
    refine AW.skip ?_
    refine nq ?_
    refine AW.block ?_
    refine AW.region ?_
    refine AL.s rfl (op_moveH (.e rfl)) ?_
    refine AL.s rfl (op_moveH (.e rfl)) ?_
    refine AL.s rfl (op_len_hs (.e rfl) rfl sl29) ?_
    refine AL.s rfl (op_subw (.r rfl) (.r rfl)) ?_
    obtain ⟨v5, hv5, hm⟩ := bindE hm
    refine AL.s rfl (op_truncH (f := D.i) (l := s2) (.e rfl) rfl rfl sl29 (.r rfl) hv5) ?_
    refine AL.s rfl (op_assignH (.e rfl)) ?_
    refine AL.nil ?_
    refine bq_n ?_
    obtain rfl := Option.some.inj hm
    exact nq ⟨_, hI1, ⟨[0], rfl, rfl, rfl, ⟨(.hs rfl rfl), trivial⟩, trivial, (.lst rfl .nil)⟩⟩
  · replace hm := iteF hc1 hm
    refine AW.exit ?_
    refine tq_exit ?_
    refine tq_exit ?_
    obtain rfl := Option.some.inj hm
    obtain rfl := Option.some.inj hI1
    replace hm := hk1
    try dsimp only at hm
    refine bq_hit ?_
    refine nq ?_
    refine AW.seqR ?_
    refine AL.s rfl (op_moveH (.e rfl)) ?_
    refine AL.s rfl (op_assignH (.e rfl)) ?_
    refine AL.nil ?_
    refine AW.moveL (n := 1) (f := D.i) (l := s2) 0 [2] rfl rfl ⟨rfl, trivial⟩ ?_
    refine AW.ret ?_
    obtain rfl := Option.some.inj hm
    exact ⟨_, [0, 1], (.tmp (.e rfl) .nil), rfl, rfl, (.cons (.hs rfl rfl) .nil), (.dead (.lst rfl .nil))⟩

set_option maxHeartbeats 20000000 in
theorem m_nat_minus_f2_ok {n : Nat} {a1 : (List Int)} {a2 : (List Int)} {r : (List Int)} (hm : m_nat_minus n a1 a2 = some r) : ACall Tryd.prog 57 [.d (.sl (a1.map D.i)), .d (.sl (a2.map D.i))] [] fun r' H' => r' = resOf [.hs 0 0 r.length 1] ∧ H' = [.lst (r.map D.i) 3 1] := by
  unfold m_nat_minus at hm
  refine ACall.of_AWG (fnn := Tryd.f57) Tryd.func57 rfl (Nat.le_of_ble_eq_true rfl) (fun g0 w0 hw0 => ?_)
  refine AW.reset 0 [(0, .d (.sl (a1.map D.i))), (1, .d (.sl (a2.map D.i)))] [] (WOK.g0 hw0 (by simp)) ⟨[], rfl, rfl, rfl, ⟨(.d rfl), (.d rfl), trivial⟩, trivial, .nil⟩ ?_
  refine AW.seqR ?_
  refine AL.s rfl (op_assignN (.e rfl)) ?_
  refine AL.nil ?_
  refine AW.seqR ?_
  refine AL.s rfl (op_moveD (.e rfl)) ?_
  refine AL.s rfl (op_lenM (f := D.i) (.r rfl) sl29) ?_
  obtain ⟨v3, hv3, hm⟩ := bindE hm
  refine AL.s rfl (op_makeM (n := 0) (f := D.i) (.r rfl) sl29 zr3 rfl rfl hv3) ?_
  refine AL.s rfl (op_assignH (.e rfl)) ?_
  refine AL.nil ?_
  refine AW.seqR ?_
  refine AL.s rfl (op_assignD (.e rfl)) ?_
  refine AL.nil ?_
  refine AW.seq ?_
  refine AW.seqR ?_
  refine AL.s rfl (op_moveD (.e rfl)) ?_
  refine AL.s rfl (op_lenM (f := D.i) (.r rfl) sl29) ?_
  refine AL.s rfl (op_moveD (.e rfl)) ?_
  refine AL.nil ?_
  refine AW.block ?_
  obtain ⟨t_1, hI1, hk1⟩ := bindE hm
  refine AW.loopS (σ := (Int × Int × (List Int))) (τ := (List Int)) 0 (fun x => [(0, .d (.sl (a1.map D.i))), (1, .d (.sl (a2.map D.i))), (5, .hs 0 0 x.2.2.length 1), (6, .d (.int .i64 x.1)), (13, .d (.int .i64 (a1.length : Int))), (14, .d (.int .i64 x.2.1))]) (fun x => [.lst (x.2.2.map D.i) 3 1]) hI1 (WOK.g0 hw0 (by simp)) ⟨[0], rfl, rfl, rfl, ⟨(.d rfl), (.d rfl), (.hs rfl rfl), (.d rfl), (.d rfl), (.d rfl), trivial⟩, trivial, (.lst rfl .nil)⟩ ?_
  rintro n1 ⟨s4, s5, s6⟩ hI1
  obtain ⟨y_1, hm, hI1⟩ := iterS hI1
  replace hm : m_nat_minus_L1 n _ _ s4 s5 s6 = some y_1 := hm
  unfold m_nat_minus_L1 at hm
  try dsimp only at hm
  refine AW.seqR ?_
  refine AL.s rfl (op_lss (.r rfl) (.r rfl)) ?_
  refine AL.nil ?_
  refine AW.seq ?_
  refine AW.cond (b := _) rfl (fun hc1 => ?_) (fun hc1 => ?_)
  · replace hm := iteT hc1 hm
    refine AW.skip ?_
    refine nq ?_
    refine AW.seq ?_
    refine AW.block ?_
    refine AW.seqR ?_
    refine AL.s rfl (op_moveD (.e rfl)) ?_
    refine AL.s rfl (op_assignD (.e rfl)) ?_
    refine AL.nil ?_
    refine AW.seqD [([], []), ([], []), ([], []), ([], []), ([], []), ([], []), ([], []), ([], []), ([], []), ([], []), ([], [])] mo (by decide +kernel) ?_
    refine AD.s (ws := []) rfl rfl (fun H' _ hH => op_moveD (.e rfl)) ?_
    refine AD.s (ws := []) rfl rfl (fun H' _ hH => op_moveD (.e rfl)) ?_
    obtain ⟨v7, hv7, hm⟩ := bindE hm
    refine AD.s (ws := []) rfl rfl (fun H' _ hH => op_indexAddrM (f := D.i) (.r rfl) (.r rfl) hv7 En.i sl29) ?_
    refine AD.s (ws := []) rfl rfl (fun H' _ hH => op_load_vp1 (.e rfl) rfl sc3) ?_
    refine AD.s (ws := []) rfl rfl (fun H' _ hH => op_moveD (.e rfl)) ?_
    refine AD.s (ws := []) rfl rfl (fun H' _ hH => op_moveD (.e rfl)) ?_
    obtain ⟨v8, hv8, hm⟩ := bindE hm
    refine AD.s (ws := []) rfl rfl (fun H' _ hH => op_fn Tryd.call47 (.e rfl) (.cons (.r rfl) (.cons (.r rfl) .nil)) (m_nat_digit_ok hv8)) ?_
    refine AD.s (ws := []) rfl rfl (fun H' _ hH => op_subw (.r rfl) (.r rfl)) ?_
    refine AD.s (ws := []) rfl rfl (fun H' _ hH => op_moveD (.e rfl)) ?_
    refine AD.s (ws := []) rfl rfl (fun H' _ hH => op_subw (.r rfl) (.r rfl)) ?_
    refine AD.s (ws := []) rfl rfl (fun H' _ hH => op_assignD (.e rfl)) ?_
    refine AD.nil ?_
    refine AW.seqR ?_
    refine AL.s rfl (op_assignD (.e rfl)) ?_
    refine AL.nil ?_
    obtain ⟨t_j1, hm, hkj1⟩ := bindE hm
    refine AW.cutS (α := (Int × Int)) 0 (fun x => x = t_j1) (fun x => [(0, .d (.sl (a1.map D.i))), (1, .d (.sl (a2.map D.i))), (5, .hs 0 0 s6.length 1), (6, .d (.int .i64 x.1)), (7, .d (.int .i64 s5)), (8, .d (.int .i64 x.2)), (13, .d (.int .i64 (a1.length : Int))), (14, .d (.int .i64 s5))]) (fun x => [.lst (s6.map D.i) 3 1]) (WOK.g0 hw0 (by simp)) ?_ ?_
    · skip
      refine AW.seqR ?_
      refine AL.s rfl (op_moveD (.e rfl)) ?_
      refine AL.s rfl (op_lss (.r rfl) (.r rfl)) ?_
      refine AL.nil ?_
      refine AW.cond (b := _) rfl (fun hc2 => ?_) (fun hc2 => ?_)
      · replace hm := iteT hc2 hm
        refine AW.seqR ?_
        refine AL.s rfl (op_moveD (.e rfl)) ?_
        refine AL.s rfl (op_addw (.r rfl) (.r rfl)) ?_
        refine AL.s rfl (op_assignD (.e rfl)) ?_
        refine AL.nil ?_
        refine AW.region ?_
        refine AL.s rfl (op_assignD (.e rfl)) ?_
        refine AL.nil ?_
        obtain rfl := Option.some.inj hm
        exact nq ⟨_, rfl, ⟨[0], rfl, rfl, rfl, ⟨(.d rfl), (.d rfl), (.hs rfl rfl), (.d rfl), (.d rfl), (.d rfl), (.d rfl), (.d rfl), trivial⟩, trivial, (.lst rfl .nil)⟩⟩
      · replace hm := iteF hc2 hm
        refine AW.skip ?_
        obtain rfl := Option.some.inj hm
        exact nq ⟨_, rfl, ⟨[0], rfl, rfl, rfl, ⟨(.d rfl), (.d rfl), (.hs rfl rfl), (.d rfl), (.d rfl), (.d rfl), (.d rfl), (.d rfl), trivial⟩, trivial, (.lst rfl .nil)⟩⟩
    · rintro ⟨s9, s10⟩ rfl
      replace hm := hkj1
      try dsimp only at hm
      refine AW.region ?_
      refine AL.s rfl (op_moveH (.e rfl)) ?_
      refine AL.s rfl (op_moveD (.e rfl)) ?_
      refine AL.s rfl (op_moveD (.e rfl)) ?_
      obtain ⟨v11, hv11, hm⟩ := bindE hm
      refine AL.s rfl (op_indexAddr_hs (f := D.i) (l := s6) (.e rfl) rfl rfl (.r rfl) hv11 sl29) ?_
      obtain ⟨v12, hv12, hm⟩ := bindE hm
      refine AL.s rfl (op_store_lp (f := D.i) (fun _ => rfl) (.e rfl) (.r rfl) rfl hv12 ⟨_, rfl, rfl⟩ En.i) ?_
      refine AL.nil ?_
      refine bq_n ?_
      refine nq ?_
      refine AW.region ?_
      refine AL.s rfl (op_addw (.r rfl) (.r rfl)) ?_
      refine AL.s rfl (op_moveD (.e rfl)) ?_
      refine AL.nil ?_
      obtain rfl := Option.some.inj hm
      exact nq ⟨_, hI1, ⟨[0], rfl, rfl, rfl, ⟨(.d rfl), (.d rfl), (.hs rfl (setI_len hv12).symm), (.d rfl), (.d rfl), (.d rfl), trivial⟩, trivial, (.lst rfl .nil)⟩⟩
  · replace hm := iteF hc1 hm
    refine AW.exit ?_
    refine tq_exit ?_
    refine tq_exit ?_
    obtain rfl := Option.some.inj hm
    obtain rfl := Option.some.inj hI1
    replace hm := hk1
    try dsimp only at hm
    refine bq_hit ?_
    refine nq ?_
    refine AW.seqR ?_
    refine AL.s rfl (op_moveH (.e rfl)) ?_
    obtain ⟨v13, hv13, hm⟩ := bindE hm
    refine AL.s rfl (op_callF (v := .hs 1 0 v13.length 1) (H' := [.dead, .lst (v13.map D.i) 3 1]) [0] Tryd.call65 (.e rfl) (.cons (.e rfl) .nil) (m_nat_trimmed_f2_ok hv13) rfl (.cons rfl .nil) rfl rfl rfl rfl rfl rfl rfl rfl) ?_
    refine AL.s rfl (op_assignH (.e rfl)) ?_
    refine AL.nil ?_
    refine AW.ret ?_
    obtain rfl := Option.some.inj hm
    exact ⟨_, [1], (.tmp (.e rfl) .nil), rfl, rfl, (.cons (.hs rfl rfl) .nil), (.lst rfl .nil)⟩

set_option maxHeartbeats 20000000 in
theorem m_nat_times_ok {n : Nat} {a1 : (List Int)} {a2 : (List Int)} {r : (List Int)} (hm : m_nat_times n a1 a2 = some r) : Fn Tryd.prog 49 [(.sl (a1.map D.i)), (.sl (a2.map D.i))] (.sl (r.map D.i)) := by
  unfold m_nat_times at hm
  refine Fn.of_AW (fnn := Tryd.f49) Tryd.func49 rfl (Nat.le_of_ble_eq_true rfl) (fun g0 w0 hw0 => ?_)
  refine AW.reset 0 [(0, .d (.sl (a1.map D.i))), (1, .d (.sl (a2.map D.i)))] [] (WOK.g0 hw0 (by simp)) ⟨[], rfl, rfl, rfl, ⟨(.d rfl), (.d rfl), trivial⟩, trivial, .nil⟩ ?_
  refine AW.seqR ?_
  refine AL.s rfl (op_assignN (.e rfl)) ?_
  refine AL.nil ?_
  refine AW.seqR ?_
  refine AL.s rfl (op_moveD (.e rfl)) ?_
  refine AL.s rfl (op_lenM (f := D.i) (.r rfl) sl29) ?_
  refine AL.s rfl (op_moveD (.e rfl)) ?_
  refine AL.s rfl (op_lenM (f := D.i) (.r rfl) sl29) ?_
  refine AL.s rfl (op_addw (.r rfl) (.r rfl)) ?_
  obtain ⟨v3, hv3, hm⟩ := bindE hm
  refine AL.s rfl (op_makeM (n := 0) (f := D.i) (.r rfl) sl29 zr3 rfl rfl hv3) ?_
  refine AL.s rfl (op_assignH (.e rfl)) ?_
  refine AL.nil ?_
  refine AW.seq ?_
  refine AW.seqR ?_
  refine AL.s rfl (op_moveD (.e rfl)) ?_
  refine AL.s rfl (op_lenM (f := D.i) (.r rfl) sl29) ?_
  refine AL.s rfl (op_moveD (.e rfl)) ?_
  refine AL.nil ?_
  refine AW.block ?_
  obtain ⟨t_1, hI1, hk1⟩ := bindE hm
  refine AW.loopS (σ := (Int × (List Int))) (τ := (List Int)) 0 (fun x => [(1, .d (.sl (a2.map D.i))), (5, .hs 0 0 x.2.length 1), (16, .d (.sl (a1.map D.i))), (17, .d (.int .i64 (a1.length : Int))), (18, .d (.int .i64 x.1))]) (fun x => [.lst (x.2.map D.i) 3 1]) hI1 (WOK.g0 hw0 (by simp)) ⟨[0], rfl, rfl, rfl, ⟨(.d rfl), (.hs rfl rfl), (.d rfl), (.d rfl), (.d rfl), trivial⟩, trivial, (.lst rfl .nil)⟩ ?_
  rintro n1 ⟨s4, s5⟩ hI1
  obtain ⟨y_1, hm, hI1⟩ := iterS hI1
  replace hm : m_nat_times_L1 n _ _ s4 s5 = some y_1 := hm
  unfold m_nat_times_L1 at hm
  try dsimp only at hm
  refine AW.seqR ?_
  refine AL.s rfl (op_lss (.r rfl) (.r rfl)) ?_
  refine AL.nil ?_
  refine AW.seq ?_
  refine AW.cond (b := _) rfl (fun hc1 => ?_) (fun hc1 => ?_)
  · replace hm := iteT hc1 hm
    refine AW.skip ?_
    refine nq ?_
    refine AW.seq ?_
    refine AW.block ?_
    refine AW.seqR ?_
    refine AL.s rfl (op_moveD (.e rfl)) ?_
    obtain ⟨v6, hv6, hm⟩ := bindE hm
    refine AL.s rfl (op_indexAddrM (f := D.i) (.r rfl) (.r rfl) hv6 En.i sl29) ?_
    refine AL.s rfl (op_load_vp1 (.e rfl) rfl sc3) ?_
    refine AL.s rfl (op_assignD (.e rfl)) ?_
    refine AL.s rfl (op_assignD (.e rfl)) ?_
    refine AL.nil ?_
    refine AW.seqR ?_
    refine AL.s rfl (op_assignD (.e rfl)) ?_
    refine AL.nil ?_
    refine AW.seq ?_
    refine AW.seqR ?_
    refine AL.s rfl (op_moveD (.e rfl)) ?_
    refine AL.s rfl (op_lenM (f := D.i) (.r rfl) sl29) ?_
    refine AL.s rfl (op_moveD (.e rfl)) ?_
    refine AL.nil ?_
    refine AW.block ?_
    obtain ⟨t_2, hI2, hk2⟩ := bindE hm
    refine AW.loopS (σ := (Int × Int × (List Int))) (τ := (Int × (List Int))) 0 (fun x => [(1, .d (.sl (a2.map D.i))), (5, .hs 0 0 x.2.2.length 1), (6, .d (.int .i64 s4)), (7, .d (.int .i64 v6)), (8, .d (.int .i64 x.1)), (16, .d (.sl (a1.map D.i))), (17, .d (.int .i64 (a1.length : Int))), (18, .d (.int .i64 s4)), (24, .d (.int .i64 (a2.length : Int))), (25, .d (.int .i64 x.2.1))]) (fun x => [.lst (x.2.2.map D.i) 3 1]) hI2 (WOK.g0 hw0 (by simp)) ⟨[0], rfl, rfl, rfl, ⟨(.d rfl), (.hs rfl rfl), (.d rfl), (.d rfl), (.d rfl), (.d rfl), (.d rfl), (.d rfl), (.d rfl), (.d rfl), trivial⟩, trivial, (.lst rfl .nil)⟩ ?_
    rintro n2 ⟨s7, s8, s9⟩ hI2
    obtain ⟨y_2, hm, hI2⟩ := iterS hI2
    replace hm : m_nat_times_L2 n _ _ _ s7 s8 s9 = some y_2 := hm
    unfold m_nat_times_L2 at hm
    try dsimp only at hm
    refine AW.seqR ?_
    refine AL.s rfl (op_lss (.r rfl) (.r rfl)) ?_
    refine AL.nil ?_
    refine AW.seq ?_
    refine AW.cond (b := _) rfl (fun hc2 => ?_) (fun hc2 => ?_)
    · replace hm := iteT hc2 hm
      refine AW.skip ?_
      refine nq ?_
      refine AW.seq ?_
      refine AW.block ?_
      refine AW.seqR ?_
      refine AL.s rfl (op_moveD (.e rfl)) ?_
      refine AL.s rfl (op_assignD (.e rfl)) ?_
      refine AL.nil ?_
      refine AW.seqD [([], []), ([], []), ([], []), ([], []), ([], []), ([0], []), ([0], []), ([], []), ([], []), ([], []), ([], []), ([], []), ([], []), ([], []), ([], []), ([], [])] mo (by decide +kernel) ?_
      refine AD.s (ws := []) rfl rfl (fun H' _ hH => op_moveD (.e rfl)) ?_
      refine AD.s (ws := []) rfl rfl (fun H' _ hH => op_moveH (.e rfl)) ?_
      refine AD.s (ws := []) rfl rfl (fun H' _ hH => op_moveD (.e rfl)) ?_
      refine AD.s (ws := []) rfl rfl (fun H' _ hH => op_moveD (.e rfl)) ?_
      refine AD.s (ws := []) rfl rfl (fun H' _ hH => op_addw (.r rfl) (.r rfl)) ?_
      obtain ⟨v10, hv10, hm⟩ := bindE hm
      refine AD.s (ws := []) rfl rfl (fun H' _ hH => op_indexAddr_hs (f := D.i) (l := s9) (.e rfl) ((hH _ (by simp)).trans rfl) rfl (.r rfl) hv10 sl29) ?_
      obtain ⟨v11, hv11, hm⟩ := bindE hm
      refine AD.s (ws := []) rfl rfl (fun H' _ hH => op_load_lp (f := D.i) (fun _ => rfl) (.e rfl) ((hH _ (by simp)).trans rfl) hv11 sc3) ?_
      refine AD.s (ws := []) rfl rfl (fun H' _ hH => op_moveD (.e rfl)) ?_
      refine AD.s (ws := []) rfl rfl (fun H' _ hH => op_moveD (.e rfl)) ?_
      refine AD.s (ws := []) rfl rfl (fun H' _ hH => op_moveD (.e rfl)) ?_
      obtain ⟨v12, hv12, hm⟩ := bindE hm
      refine AD.s (ws := []) rfl rfl (fun H' _ hH => op_indexAddrM (f := D.i) (.r rfl) (.r rfl) hv12 En.i sl29) ?_
      refine AD.s (ws := []) rfl rfl (fun H' _ hH => op_load_vp1 (.e rfl) rfl sc3) ?_
      refine AD.s (ws := []) rfl rfl (fun H' _ hH => op_mulw (.r rfl) (.r rfl)) ?_
      refine AD.s (ws := []) rfl rfl (fun H' _ hH => op_addw (.r rfl) (.r rfl)) ?_
      refine AD.s (ws := []) rfl rfl (fun H' _ hH => op_addw (.r rfl) (.r rfl)) ?_
      refine AD.s (ws := []) rfl rfl (fun H' _ hH => op_assignD (.e rfl)) ?_
      refine AD.nil ?_
      refine AW.seqR ?_
      refine AL.s rfl (op_moveH (.e rfl)) ?_
      refine AL.s rfl (op_moveD (.e rfl)) ?_
      refine AL.s rfl (op_moveD (.e rfl)) ?_
      refine AL.s rfl (op_addw (.r rfl) (.r rfl)) ?_
      refine AL.s rfl (op_moveD (.e rfl)) ?_
      obtain ⟨v13, hv13, hm⟩ := bindE hm
      refine AL.s rfl (op_remM (.r rfl) (.r rfl) hv13) ?_
      obtain ⟨v14, hv14, hm⟩ := bindE hm
      refine AL.s rfl (op_indexAddr_hs (f := D.i) (l := s9) (.e rfl) rfl rfl (.r rfl) hv14 sl29) ?_
      obtain ⟨v15, hv15, hm⟩ := bindE hm
      refine AL.s rfl (op_store_lp (f := D.i) (fun _ => rfl) (.e rfl) (.r rfl) rfl hv15 ⟨_, rfl, rfl⟩ En.i) ?_
      refine AL.nil ?_
      refine AW.region ?_
      refine AL.s rfl (op_moveD (.e rfl)) ?_
      obtain ⟨v16, hv16, hm⟩ := bindE hm
      refine AL.s rfl (op_quoM (.r rfl) (.r rfl) hv16) ?_
      refine AL.s rfl (op_assignD (.e rfl)) ?_
      refine AL.nil ?_
      refine bq_n ?_
      refine nq ?_
      refine AW.region ?_
      refine AL.s rfl (op_addw (.r rfl) (.r rfl)) ?_
      refine AL.s rfl (op_moveD (.e rfl)) ?_
      refine AL.nil ?_
      obtain rfl := Option.some.inj hm
      exact nq ⟨_, hI2, ⟨[0], rfl, rfl, rfl, ⟨(.d rfl), (.hs rfl (setI_len hv15).symm), (.d rfl), (.d rfl), (.d rfl), (.d rfl), (.d rfl), (.d rfl), (.d rfl), (.d rfl), trivial⟩, trivial, (.lst rfl .nil)⟩⟩
    · replace hm := iteF hc2 hm
      refine AW.exit ?_
      refine tq_exit ?_
      refine tq_exit ?_
      obtain rfl := Option.some.inj hm
      obtain rfl := Option.some.inj hI2
      replace hm := hk2
      try dsimp only at hm
      refine bq_hit ?_
      refine nq ?_
      refine AW.region ?_
      refine AL.s rfl (op_moveH (.e rfl)) ?_
      refine AL.s rfl (op_moveD (.e rfl)) ?_
      refine AL.s rfl (op_moveD (.e rfl)) ?_
      refine AL.s rfl (op_lenM (f := D.i) (.r rfl) sl29) ?_
      refine AL.s rfl (op_addw (.r rfl) (.r rfl)) ?_
      refine AL.s rfl (op_moveD (.e rfl)) ?_
      obtain ⟨v17, hv17, hm⟩ := bindE hm
      refine AL.s rfl (op_indexAddr_hs (f := D.i) (l := s9) (.e rfl) rfl rfl (.r rfl) hv17 sl29) ?_
      obtain ⟨v18, hv18, hm⟩ := bindE hm
      refine AL.s rfl (op_store_lp (f := D.i) (fun _ => rfl) (.e rfl) (.r rfl) rfl hv18 ⟨_, rfl, rfl⟩ En.i) ?_
      refine AL.nil ?_
      refine bq_n ?_
      refine nq ?_
      refine AW.region ?_
      refine AL.s rfl (op_addw (.r rfl) (.r rfl)) ?_
      refine AL.s rfl (op_moveD (.e rfl)) ?_
      refine AL.nil ?_
      obtain rfl := Option.some.inj hm
      exact nq ⟨_, hI1, ⟨[0], rfl, rfl, rfl, ⟨(.d rfl), (.hs rfl (setI_len hv18).symm), (.d rfl), (.d rfl), (.d rfl), trivial⟩, trivial, (.lst rfl .nil)⟩⟩
  · replace hm := iteF hc1 hm
    refine AW.exit ?_
    refine tq_exit ?_
    refine tq_exit ?_
    obtain rfl := Option.some.inj hm
    obtain rfl := Option.some.inj hI1
    replace hm := hk1
    try dsimp only at hm
    refine bq_hit ?_
    refine nq ?_
    refine AW.reset 0 [(5, .hs 0 0 s5.length 1)] [.lst (s5.map D.i) 3 1] (WOK.g0 hw0 (by simp)) ⟨[0], rfl, rfl, rfl, ⟨(.hs rfl rfl), trivial⟩, trivial, (.lst rfl .nil)⟩ ?_
    refine AW.seqR ?_
    refine AL.s rfl (op_moveH (.e rfl)) ?_
    obtain ⟨v19, hv19, hm⟩ := bindE hm
    refine AL.s rfl (op_callF (v := .hs 1 0 v19.length 1) (H' := [.dead, .lst (v19.map D.i) 3 1]) [0] Tryd.call65 (.e rfl) (.cons (.e rfl) .nil) (m_nat_trimmed_f2_ok hv19) rfl (.cons rfl .nil) rfl rfl rfl rfl rfl rfl rfl rfl) ?_
    refine AL.s rfl (op_assignH (.e rfl)) ?_
    refine AL.nil ?_
    refine AW.freeze (f := D.i) (l := v19) 1 [4, 62] rfl rfl En.i ⟨rfl, rfl, trivial⟩ ?_
    refine AW.ret ?_
    obtain rfl := Option.some.inj hm
    exact EndQ.d (.tmp (.e rfl) .nil) rfl rfl

set_option maxHeartbeats 20000000 in
theorem m_slices_Clone_nat_Nat_int_ok {n : Nat} {a1 : (List Int)} {r : (List Int)} (hm : m_slices_Clone_nat_Nat_int n a1 = some r) : ACall Tryd.prog 54 [.d (.sl (a1.map D.i))] [] fun r' H' => r' = resOf [.hs 0 0 r.length 1] ∧ H' = [.lst (r.map D.i) 3 1] := by
  unfold m_slices_Clone_nat_Nat_int at hm
  refine ACall.of_AWG (fnn := Tryd.f54) Tryd.func54 rfl (Nat.le_of_ble_eq_true rfl) (fun g0 w0 hw0 => ?_)
  refine AW.seqR ?_
  refine AL.s rfl (op_assignN (.e rfl)) ?_
  refine AL.nil ?_
  refine AW.seq ?_
  refine AW.seqR ?_
  refine AL.s rfl (op_moveD (.e rfl)) ?_
  refine AL.sE rfl (op_nilS (.r rfl) rfl sl29) ?_
  rintro _ ⟨b0, rfl, hb0⟩
  refine AL.nil ?_
  refine AW.cond (b := _) rfl (fun hc0 => ?_) (fun hc0 => ?_)
  · have hm : some ([] : (List Int)) = some r := by have ha := hb0 hc0; simp only [List.map_eq_nil_iff] at ha; subst ha; simpa [app] using hm
    refine AW.seqR ?_
    refine AL.s rfl (op_assignN (.e rfl)) ?_
    refine AL.nil ?_
    refine AW.lstize (n := 0) 2 3 1 rfl rfl ?_
    refine AW.ret ?_
    refine tq_ret ?_
    obtain rfl := Option.some.inj hm
    exact ⟨_, [0], (.tmp (.e rfl) .nil), rfl, rfl, (.cons (.hs rfl rfl) .nil), (.lst rfl .nil)⟩
  · skip
    refine AW.skip ?_
    refine nq ?_
    refine AW.seqR ?_
    refine AL.s rfl (op_buildSlice (ds := ([] : List Int).map D.i) sl29 .nil rfl (by decide)) ?_
    refine AL.s rfl (op_moveD (.e rfl)) ?_
    obtain ⟨v2, hv2, hm⟩ := bindE hm
    refine AL.s rfl (op_appendEH (n := 0) (f := D.i) (l' := a1) sl29 (.e rfl) (.r rfl) rfl En.i hv2) ?_
    refine AL.s rfl (op_assignH (.e rfl)) ?_
    refine AL.nil ?_
    refine AW.ret ?_
    obtain rfl := Option.some.inj hm
    exact ⟨_, [1], (.tmp (.e rfl) .nil), rfl, rfl, (.cons (.hs rfl rfl) .nil), (.lst rfl .nil)⟩

set_option maxHeartbeats 20000000 in
theorem m_slices_Insert_nat_Nat_int_ok {n : Nat} {c1 : List Int} {a2 : Int} {a3 : List Int} {r : List Int} (hm : m_slices_Insert_nat_Nat_int n c1 a2 a3 = some r) : ACall Tryd.prog 66 [.hs 0 0 c1.length 1, .d (.int .i64 a2), .d (.sl (a3.map D.i))] [.lst (c1.map D.i) 3 1] fun r' H' => r' = resOf [.hs 1 0 r.length 1] ∧ H' = [.dead, .lst (r.map D.i) 3 1] := by
  obtain ⟨i, x, rfl, rfl, hi, hb, hl, rfl⟩ := insL_inv hm
  refine ACall.of_AWG (fnn := Tryd.f66) Tryd.func66 rfl (Nat.le_of_ble_eq_true rfl) (fun g0 w0 hw0 => ?_)
  obtain ⟨ad, c, hg, hlc, hmax, hroom⟩ := hw0.lst 0 _ _ _ rfl
  clear hroom
  rw [List.length_map] at hlc
  have hrl : (c1.take i ++ x :: c1.drop i).length = c1.length + 1 := by simp; omega
  have h1 : ∀ y : Int, (D.i y).cells = [D.i y] := fun _ => rfl
  refine AW.seqR ?_
  refine AL.s rfl (op_assignN (.e rfl)) ?_
  refine AL.nil ?_
  refine AW.seqR ?_
  refine AL.s rfl (op_moveH (.e rfl)) ?_
  refine AL.s rfl (op_moveD (.e rfl)) ?_
  refine AL.s rfl (op_sliceH (f := D.i) (l := c1) (.e rfl) rfl rfl sl29 (.r rfl) rfl (slc_tail hi rfl)) ?_
  refine AL.nil ?_
  refine AW.seqR ?_
  refine AL.s rfl (op_moveD (.e rfl)) ?_
  refine AL.s rfl (op_lenM (f := D.i) (l := [x]) (.r rfl) sl22) ?_
  refine AL.s rfl (op_assignD (.e rfl)) ?_
  refine AL.nil ?_
  refine AW.seq ?_
  refine AW.seqR ?_
  refine AL.s rfl (op_moveD (.e rfl)) ?_
  refine AL.s rfl (op_eql (.r rfl) (.r rfl)) ?_
  refine AL.nil ?_
  refine AW.cond (b := _) rfl (fun hc1 => absurd hc1 (by simp)) (fun _ => ?_)
  refine AW.skip ?_
  refine nq ?_
  refine AW.seqR ?_
  refine AL.s rfl (op_moveH (.e rfl)) ?_
  refine AL.s rfl (op_len_hs (.e rfl) rfl sl29) ?_
  refine AL.s rfl (op_assignD (.e rfl)) ?_
  refine AL.nil ?_
  refine AW.seq ?_
  refine AW.seqR ?_
  refine AL.s rfl (op_moveD (.e rfl)) ?_
  refine AL.s rfl (op_moveD (.e rfl)) ?_
  refine AL.s rfl (op_eql (.r rfl) (.r rfl)) ?_
  refine AL.nil ?_
  refine AW.cond (b := _) rfl (fun hc2 => ?_) (fun hc2 => ?_)
  · have hin : i = c1.length := by simp at hc2; omega
    subst hin
    refine AW.seqR ?_
    refine AL.s rfl (op_moveH (.e rfl)) ?_
    refine AL.s rfl (op_moveD (.e rfl)) ?_
    refine AL.s rfl (OpV.appendT sl29.u sl22.u (op_appendHM (n := 1) (f := D.i) (l := c1) (l' := [x]) sl29 (.e rfl) (.r rfl) rfl rfl rfl En.i (app1 hb hl))) ?_
    refine AL.s rfl (op_assignH (.e rfl)) ?_
    refine AL.nil ?_
    refine AW.ret ?_
    refine tq_ret ?_
    have he : c1.take c1.length ++ x :: c1.drop c1.length = c1 ++ [x] := by simp
    rw [he]
    exact ⟨_, [0, 1], (.tmp (.e rfl) .nil), rfl, rfl, (.cons (.hs rfl rfl) .nil), (.dead (.lst rfl .nil))⟩
  · have hin : i < c1.length := by simp at hc2; omega
    refine AW.skip ?_
    refine nq ?_
    refine AW.seq ?_
    refine AW.seqR ?_
    refine AL.s rfl (op_moveD (.e rfl)) ?_
    refine AL.s rfl (op_moveD (.e rfl)) ?_
    refine AL.s rfl (op_addE (.r rfl) (.r rfl) (w1 hl)) ?_
    refine AL.s rfl (op_moveH (.e rfl)) ?_
    refine AL.sX rfl (op_cap hg (.e rfl) rfl sl29) (fun _ => ?_)
    refine AL.s rfl (op_gtr (.r rfl) (.r rfl)) ?_
    refine AL.nil ?_
    refine AW.cond (b := _) rfl (fun hc3 => ?_) (fun hc3 => ?_)
    · have hc : c < c1.length + 1 := by simp at hc3; omega
      refine AW.free ?_
      refine AW.seqR ?_
      refine AL.s rfl (op_moveH (.e rfl)) ?_
      refine AL.s rfl (op_moveD (.e rfl)) ?_
      refine AL.s rfl (op_sliceH (f := D.i) (l := c1) (.e rfl) rfl rfl sl29 rfl (.r rfl) (slc_head hi)) ?_
      refine AL.s rfl (op_moveD (.e rfl)) ?_
      refine AL.s rfl (op_moveD (.e rfl)) ?_
      refine AL.s rfl (op_addE (.r rfl) (.r rfl) (w1 hl)) ?_
      refine AL.s rfl (op_moveD (.e rfl)) ?_
      refine AL.s rfl (op_subE (.r rfl) (.r rfl) (ws hl hi)) ?_
      refine AL.sX rfl (op_appendZ (f := D.i) (l := c1) (z := (0 : Int)) (res := 1) (i := i) hg (.e (congrArg (V.hs 0 0 · 1) (by simp; omega))) (.r rfl) rfl hi h1 (by omega) (by omega) sl29 Tryd.underlying3 zr3 rfl rfl (by rw [show i + (c1.length + 1 - i) = c1.length + 1 by omega]; exact hb) (by omega)) (fun _ => ?_)
      refine AL.s rfl (op_assignH (.e rfl)) ?_
      refine AL.nil ?_
      have hZl : (c1.take i ++ List.replicate (c1.length + 1 - i) (0 : Int)).length = i + (c1.length + 1 - i) := by simp; omega
      refine AW.seqR ?_
      refine AL.s rfl (op_moveH (.e rfl)) ?_
      refine AL.s rfl (op_moveD (.e rfl)) ?_
      refine AL.s rfl (op_sliceH (f := D.i) (l := c1.take i ++ List.replicate (c1.length + 1 - i) (0 : Int)) (.e rfl) rfl hZl sl29 (.r rfl) rfl (slc_tail (by omega) (by omega))) ?_
      refine AL.s rfl (op_moveD (.e rfl)) ?_
      refine AL.s rfl (op_copyD (f := D.i) (l := c1.take i ++ List.replicate (c1.length + 1 - i) (0 : Int)) (src := [x]) (lo := i) (len := c1.length + 1 - i) h1 En.i (.e (cong2 (V.hs 1 · · 1) (Int.toNat_natCast i) (by rw [List.length_drop, hZl]; omega))) rfl (by omega) (.r rfl) sl29) ?_
      refine AL.nil ?_
      have hY1 : (cpyL (c1.take i ++ List.replicate (c1.length + 1 - i) (0 : Int)) i (c1.length + 1 - i) [x]).length = i + (c1.length + 1 - i) := by rw [cpyL_len (by omega), hZl]
      refine AW.seqD [([], []), ([], []), ([], []), ([], []), ([1], []), ([], []), ([], []), ([0], []), ([1, 0], [1])] mo (by decide +kernel) ?_
      refine AD.s (ws := []) rfl rfl (fun H' _ hH => op_moveH (.e rfl)) ?_
      refine AD.s (ws := []) rfl rfl (fun H' _ hH => op_moveD (.e rfl)) ?_
      refine AD.s (ws := []) rfl rfl (fun H' _ hH => op_moveD (.e rfl)) ?_
      refine AD.s (ws := []) rfl rfl (fun H' _ hH => op_addE (.r rfl) (.r rfl) (w1 (by omega))) ?_
      refine AD.s (ws := []) rfl rfl (fun H' _ hH => op_sliceH (f := D.i) (l := cpyL (c1.take i ++ List.replicate (c1.length + 1 - i) (0 : Int)) i (c1.length + 1 - i) [x]) (.e rfl) ((hH _ (by simp)).trans rfl) hY1 sl29 (.r rfl) rfl (slc_tail (by omega) (by omega))) ?_
      refine AD.s (ws := []) rfl rfl (fun H' _ hH => op_moveH (.e rfl)) ?_
      refine AD.s (ws := []) rfl rfl (fun H' _ hH => op_moveD (.e rfl)) ?_
      refine AD.s (ws := []) rfl rfl (fun H' _ hH => op_sliceH (f := D.i) (l := c1) (.e rfl) ((hH _ (by simp)).trans rfl) rfl sl29 (.r rfl) rfl (slc_tail hi rfl)) ?_
      refine AD.s (ws := [(1, _)]) rfl rfl (fun H' _ hH => op_copyH (f := D.i) (l := cpyL (c1.take i ++ List.replicate (c1.length + 1 - i) (0 : Int)) i (c1.length + 1 - i) [x]) (l2 := c1) (src := c1.drop i) (lo := i + 1) (len := c1.length - i) (lo2 := i) (len2 := c1.length - i) h1 En.i
        (.e (cong2 (V.hs 1 · · 1) (Int.toNat_natCast _) (by rw [List.length_drop, hY1]; omega))) ((hH _ (by simp)).trans rfl) (by omega) (.e (cong2 (V.hs 0 · · 1) (Int.toNat_natCast _) (List.length_drop ..))) ((hH _ (by simp)).trans rfl) (List.take_of_length_le (by simp)) (by omega) sl29) ?_
      refine AD.nil ?_
      rw [cpy_grow hi]
      refine AW.seqR ?_
      refine AL.s rfl (op_moveH (.e rfl)) ?_
      refine AL.s rfl (op_assignH (.e rfl)) ?_
      refine AL.nil ?_
      refine AW.ret ?_
      refine tq_ret ?_
      exact ⟨_, [0, 1], (.tmp (.e rfl) .nil), rfl, rfl, (.cons (.hs rfl (by rw [hrl]; omega)) .nil), (.dead (.lst rfl .nil))⟩
    · have hc : c1.length + 1 ≤ c := by simp at hc3; omega
      refine AW.skip ?_
      refine nq ?_
      refine AW.seqR ?_
      refine AL.s rfl (op_moveH (.e rfl)) ?_
      refine AL.s rfl (op_moveD (.e rfl)) ?_
      refine AL.s rfl (op_moveD (.e rfl)) ?_
      refine AL.s rfl (op_addE (.r rfl) (.r rfl) (w1 hl)) ?_
      refine AL.sX rfl (op_up (l := c1.map D.i) hg (.e rfl) (.r rfl) rfl (List.length_map ..) (fun y hy => by obtain ⟨q, _, rfl⟩ := List.mem_map.1 hy; rfl) hc sl29) (fun u => ?_)
      refine AL.s rfl (op_assignH (.e rfl)) ?_
      refine AL.nil ?_
      have hUl : (c1.map D.i ++ [D.raw u]).length = c1.length + 1 := by simp
      have hU1 : ∀ y ∈ c1.map D.i ++ [D.raw u], y.cells = [y] := fun y hy => by
        simp only [List.mem_append, List.mem_map, List.mem_singleton] at hy
        rcases hy with ⟨q, _, rfl⟩ | rfl <;> rfl
      refine AW.seq ?_
      refine AW.seqR ?_
      refine AL.s rfl (op_moveD (.e rfl)) ?_
      refine AL.s rfl (op_moveH (.e rfl)) ?_
      refine AL.s rfl (op_moveD (.e rfl)) ?_
      refine AL.s rfl (op_moveD (.e rfl)) ?_
      refine AL.s rfl (op_addE (.r rfl) (.r rfl) (w1 (by omega))) ?_
      refine AL.s rfl (op_sliceH (f := id) (l := c1.map D.i ++ [D.raw u]) (.e rfl) (by rw [List.map_id]; rfl) hUl sl29 (.r rfl) rfl (slc_tail (by rw [hUl]; omega) (by rw [hUl]))) ?_
      refine AL.s rfl (op_overlaps (l := [D.i x]) (L := c1.map D.i ++ [D.raw u]) (lo := i + 1) (len := c1.length - i) (tS := 22) (tR := 4)
        (run_callFunc_extern Tryd.func75 (by kernel_rfl) (by kernel_rfl) (by kernel_rfl) (by kernel_rfl)) (.e rfl) (.r rfl) (.e (cong2 (V.hs 0 · · 1) (Int.toNat_natCast _) (by rw [List.length_drop, hUl]; omega))) rfl (by rw [hUl]; omega) (by omega) (En.i.szL [x]) (En.i.oneL [x]) (by simp) sl22) ?_
      refine AL.s rfl (op_not (.r rfl)) ?_
      refine AL.nil ?_
      refine AW.cond (b := _) rfl (fun _ => ?_) (fun hc4 => absurd hc4 (by decide))
      refine AW.seqD [([], []), ([], []), ([], []), ([], []), ([0], []), ([], []), ([], []), ([0], []), ([0], [0])] mo (by decide +kernel) ?_
      refine AD.s (ws := []) rfl rfl (fun H' _ hH => op_moveH (.e rfl)) ?_
      refine AD.s (ws := []) rfl rfl (fun H' _ hH => op_moveD (.e rfl)) ?_
      refine AD.s (ws := []) rfl rfl (fun H' _ hH => op_moveD (.e rfl)) ?_
      refine AD.s (ws := []) rfl rfl (fun H' _ hH => op_addE (.r rfl) (.r rfl) (w1 (by omega))) ?_
      refine AD.s (ws := []) rfl rfl (fun H' _ hH => op_sliceH (f := id) (l := c1.map D.i ++ [D.raw u]) (.e rfl) (by rw [List.map_id]; exact (hH _ (by simp)).trans rfl) hUl sl29 (.r rfl) rfl (slc_tail (by rw [hUl]; omega) (by rw [hUl]))) ?_
      refine AD.s (ws := []) rfl rfl (fun H' _ hH => op_moveH (.e rfl)) ?_
      refine AD.s (ws := []) rfl rfl (fun H' _ hH => op_moveD (.e rfl)) ?_
      refine AD.s (ws := []) rfl rfl (fun H' _ hH => op_sliceH (f := id) (l := c1.map D.i ++ [D.raw u]) (.e rfl) (by rw [List.map_id]; exact (hH _ (by simp)).trans rfl) hUl sl29 (.r rfl) rfl (slc_tail (by rw [hUl]; omega) (by rw [hUl]))) ?_
      refine AD.s (ws := [(0, _)]) rfl rfl (fun H' _ hH => op_copySelf (L := c1.map D.i ++ [D.raw u]) (src := (c1.drop i).map D.i) (lo := i + 1) (len := c1.length - i) (lo2 := i) (len2 := c1.length + 1 - i) (n := c1.length - i) hU1
        (.e (cong2 (V.hs 0 · · 1) (Int.toNat_natCast _) (by rw [List.length_drop, hUl]; omega))) (.e (cong2 (V.hs 0 · · 1) (Int.toNat_natCast _) (by rw [List.length_drop, hUl]))) ((hH _ (by simp)).trans rfl) (by rw [hUl]; omega) (by rw [hUl]; omega) (by omega)
        (by rw [List.drop_append_of_le_length (by simp; omega), List.take_append_of_le_length (by simp), List.take_of_length_le (by simp), List.map_drop]) (fun y hy => by obtain ⟨q, _, rfl⟩ := List.mem_map.1 hy; exact En.i.one q _ (by rw [h1]; simp)) sl29) ?_
      refine AD.nil ?_
      have hX : (c1.map D.i ++ [D.raw u]).take (i + 1) ++ (c1.drop i).map D.i ++ (c1.map D.i ++ [D.raw u]).drop (i + 1 + (c1.length - i)) = (c1.take (i + 1) ++ c1.drop i).map D.i := by
        have e1 : (c1.map D.i ++ [D.raw u]).take (i + 1) = (c1.take (i + 1)).map D.i := by rw [List.take_append_of_le_length (by simp; omega), List.map_take]
        have e2 : (c1.map D.i ++ [D.raw u]).drop (i + 1 + (c1.length - i)) = [] := List.drop_of_length_le (by rw [hUl]; omega)
        rw [e1, e2, List.append_nil, ← List.map_append]
      rw [hX]
      have hXl : (c1.take (i + 1) ++ c1.drop i).length = c1.length + 1 := by simp; omega
      refine AW.seqR ?_
      refine AL.s rfl (op_moveH (.e rfl)) ?_
      refine AL.s rfl (op_moveD (.e rfl)) ?_
      refine AL.s rfl (op_sliceH (f := D.i) (l := c1.take (i + 1) ++ c1.drop i) (.e rfl) rfl hXl sl29 (.r rfl) rfl (slc_tail (by rw [hXl]; omega) (by rw [hXl]))) ?_
      refine AL.s rfl (op_moveD (.e rfl)) ?_
      refine AL.s rfl (op_copyD (f := D.i) (l := c1.take (i + 1) ++ c1.drop i) (src := [x]) (lo := i) (len := c1.length + 1 - i) h1 En.i (.e (cong2 (V.hs 0 · · 1) (Int.toNat_natCast i) (by rw [List.length_drop, hXl]))) rfl (by rw [hXl]; omega) (.r rfl) sl29) ?_
      refine AL.nil ?_
      rw [cpy_room hin]
      refine AW.seqR ?_
      refine AL.s rfl (op_moveH (.e rfl)) ?_
      refine AL.s rfl (op_assignH (.e rfl)) ?_
      refine AL.nil ?_
      refine AW.moveL (n := 1) (f := D.i) (l := c1.take i ++ x :: c1.drop i) 0 [6] rfl rfl ⟨rfl, trivial⟩ ?_
      refine AW.ret ?_
      refine tq_ret ?_
      exact ⟨_, [0, 1], (.tmp (.e rfl) .nil), rfl, rfl, (.cons (.hs rfl hrl.symm) .nil), (.dead (.lst rfl .nil))⟩

set_option maxHeartbeats 20000000 in
theorem m_nat_quotient_f2_ok {n : Nat} {c1 : (List Int)} {a2 : (List Int)} {r : (Int × (List Int))} (hm : m_nat_quotient_f2 n c1 a2 = some r) : ACall Tryd.prog 67 [.hs 0 0 c1.length 1, .d (.sl (a2.map D.i))] [.lst (c1.map D.i) 3 1] fun r' H' => r' = resOf [.d (.int .i64 r.1), .hs 1 0 r.2.length 1] ∧ H' = [.dead, .lst (r.2.map D.i) 3 1] := by
  unfold m_nat_quotient_f2 at hm
  refine ACall.of_AWG (fnn := Tryd.f67) Tryd.func67 rfl (Nat.le_of_ble_eq_true rfl) (fun g0 w0 hw0 => ?_)
  refine AW.reset 1 [(0, .hs 0 0 c1.length 1), (1, .d (.sl (a2.map D.i)))] [.lst (c1.map D.i) 3 1] (WOK.g0 hw0 (by simp)) ⟨[0], rfl, rfl, rfl, ⟨(.hs rfl rfl), (.d rfl), trivial⟩, trivial, (.lst rfl .nil)⟩ ?_
  refine AW.seqR ?_
  refine AL.s rfl (op_assignD (.e rfl)) ?_
  refine AL.s rfl (op_assignN (.e rfl)) ?_
  refine AL.nil ?_
  refine AW.seqR ?_
  refine AL.s rfl (op_assignD (.e rfl)) ?_
  refine AL.s rfl (op_assignD (.e rfl)) ?_
  refine AL.nil ?_
  refine AW.seq ?_
  refine AW.block ?_
  obtain ⟨t_1, hI1, hk1⟩ := bindE hm
  refine AW.loopS (σ := (Int × Int)) (τ := Int) 1 (fun x => [(0, .hs 0 0 c1.length 1), (1, .d (.sl (a2.map D.i))), (6, .d (.int .i64 x.1)), (7, .d (.int .i64 x.2))]) (fun x => [.lst (c1.map D.i) 3 1]) hI1 (WOK.g0 hw0 (by simp)) ⟨[0], rfl, rfl, rfl, ⟨(.hs rfl rfl), (.d rfl), (.d rfl), (.d rfl), trivial⟩, trivial, (.lst rfl .nil)⟩ ?_
  rintro n1 ⟨s3, s4⟩ hI1
  obtain ⟨y_1, hm, hI1⟩ := iterS hI1
  replace hm : m_nat_quotient_f2_L1 n _ _ s3 s4 = some y_1 := hm
  unfold m_nat_quotient_f2_L1 at hm
  try dsimp only at hm
  refine AW.seq ?_
  refine AW.seqR ?_
  refine AL.s rfl (op_moveD (.e rfl)) ?_
  refine AL.s rfl (op_moveD (.e rfl)) ?_
  refine AL.s rfl (op_subw (.r rfl) (.r rfl)) ?_
  refine AL.s rfl (op_gtr (.r rfl) (.r rfl)) ?_
  refine AL.nil ?_
  refine AW.cond (b := _) rfl (fun hc1 => ?_) (fun hc1 => ?_)
  · replace hm := iteT hc1 hm
    refine AW.skip ?_
    refine nq ?_
    refine AW.block ?_
    refine AW.seqR ?_
    refine AL.s rfl (op_moveD (.e rfl)) ?_
    refine AL.s rfl (op_moveD (.e rfl)) ?_
    refine AL.s rfl (op_addw (.r rfl) (.r rfl)) ?_
    obtain ⟨v5, hv5, hm⟩ := bindE hm
    refine AL.s rfl (op_quoM (.r rfl) (.r rfl) hv5) ?_
    refine AL.s rfl (op_assignD (.e rfl)) ?_
    refine AL.nil ?_
    refine AW.seqR ?_
    refine AL.s rfl (op_moveD (.e rfl)) ?_
    refine AL.s rfl (op_moveD (.e rfl)) ?_
    refine AL.s rfl (op_buildSlice (ds := ([v5] : List Int).map D.i) sl29 (.cons (.r rfl) rfl (En.i.one _) .nil) rfl (by decide)) ?_
    obtain ⟨v6, hv6, hm⟩ := bindE hm
    refine AL.s rfl (op_fn Tryd.call49 (.e rfl) (.cons (.r rfl) (.cons (.r rfl) .nil)) (m_nat_times_ok hv6)) ?_
    refine AL.s rfl (op_moveH (.e rfl)) ?_
    obtain ⟨v7, hv7, hm⟩ := bindE hm
    refine AL.s rfl (op_lend [0] Tryd.call56 (.e rfl) (.d (.r rfl) (.l (f := D.i) (l := c1) (.e rfl) rfl rfl En.i rfl .nil)) (m_nat_compare_ok hv7) rfl) ?_
    refine AL.s rfl (op_leq (.r rfl) (.r rfl)) ?_
    refine AL.nil ?_
    refine AW.cond (b := _) rfl (fun hc2 => ?_) (fun hc2 => ?_)
    · replace hm := iteT hc2 hm
      refine AW.region ?_
      refine AL.s rfl (op_moveD (.e rfl)) ?_
      refine AL.s rfl (op_assignD (.e rfl)) ?_
      refine AL.nil ?_
      refine bq_n ?_
      obtain rfl := Option.some.inj hm
      exact nq ⟨_, hI1, ⟨[0], rfl, rfl, rfl, ⟨(.hs rfl rfl), (.d rfl), (.d rfl), (.d rfl), trivial⟩, trivial, (.lst rfl .nil)⟩⟩
    · replace hm := iteF hc2 hm
      refine AW.region ?_
      refine AL.s rfl (op_moveD (.e rfl)) ?_
      refine AL.s rfl (op_assignD (.e rfl)) ?_
      refine AL.nil ?_
      refine bq_n ?_
      obtain rfl := Option.some.inj hm
      exact nq ⟨_, hI1, ⟨[0], rfl, rfl, rfl, ⟨(.hs rfl rfl), (.d rfl), (.d rfl), (.d rfl), trivial⟩, trivial, (.lst rfl .nil)⟩⟩
  · replace hm := iteF hc1 hm
    refine AW.exit ?_
    refine tq_exit ?_
    refine tq_exit ?_
    obtain rfl := Option.some.inj hm
    obtain rfl := Option.some.inj hI1
    replace hm := hk1
    try dsimp only at hm
    refine bq_hit ?_
    refine nq ?_
    refine AW.seq ?_
    refine AW.seqR ?_
    refine AL.s rfl (op_moveD (.e rfl)) ?_
    refine AL.s rfl (op_eql (.r rfl) (.r rfl)) ?_
    refine AL.nil ?_
    refine AW.cond (b := _) rfl (fun hc3 => ?_) (fun hc3 => ?_)
    · replace hm := iteT hc3 hm
      refine AW.seqR ?_
      refine AL.s rfl (op_moveH (.e rfl)) ?_
      refine AL.s rfl (op_assignD (.e rfl)) ?_
      refine AL.s rfl (op_assignH (.e rfl)) ?_
      refine AL.nil ?_
      refine AW.moveL (n := 1) (f := D.i) (l := c1) 0 [5] rfl rfl ⟨rfl, trivial⟩ ?_
      refine AW.ret ?_
      refine tq_ret ?_
      obtain rfl := Option.some.inj hm
      exact ⟨_, [0, 1], (.tmp (.e rfl) (.tmp (.e rfl) .nil)), rfl, rfl, (.cons (.d rfl) (.cons (.hs rfl rfl) .nil)), (.dead (.lst rfl .nil))⟩
    · replace hm := iteF hc3 hm
      refine AW.skip ?_
      refine nq ?_
      refine AW.freeze (f := D.i) (l := c1) 0 [0] rfl rfl En.i ⟨rfl, trivial⟩ ?_
      refine AW.seqR ?_
      refine AL.s rfl (op_moveD (.e rfl)) ?_
      refine AL.s rfl (op_moveD (.e rfl)) ?_
      refine AL.s rfl (op_moveD (.e rfl)) ?_
      refine AL.s rfl (op_moveD (.e rfl)) ?_
      refine AL.s rfl (op_buildSlice (ds := ([s3] : List Int).map D.i) sl29 (.cons (.r rfl) rfl (En.i.one _) .nil) rfl (by decide)) ?_
      obtain ⟨v8, hv8, hm⟩ := bindE hm
      refine AL.s rfl (op_fn Tryd.call49 (.e rfl) (.cons (.r rfl) (.cons (.r rfl) .nil)) (m_nat_times_ok hv8)) ?_
      obtain ⟨v9, hv9, hm⟩ := bindE hm
      refine AL.s rfl (op_callF (v := .hs 1 0 v9.length 1) (H' := [.dead, .lst (v9.map D.i) 3 1]) [] Tryd.call57 (.e rfl) (.cons (.e rfl) (.cons (.e rfl) .nil)) (m_nat_minus_f2_ok hv9) rfl .nil rfl rfl rfl rfl rfl rfl rfl rfl) ?_
      refine AL.s rfl (op_assignD (.e rfl)) ?_
      refine AL.s rfl (op_assignH (.e rfl)) ?_
      refine AL.nil ?_
      refine AW.ret ?_
      obtain rfl := Option.some.inj hm
      exact ⟨_, [0, 1], (.tmp (.e rfl) (.tmp (.e rfl) .nil)), rfl, rfl, (.cons (.d rfl) (.cons (.hs rfl rfl) .nil)), (.dead (.lst rfl .nil))⟩

set_option maxHeartbeats 20000000 in
theorem m_nat_divide_ok {n : Nat} {a1 : (List Int)} {a2 : (List Int)} {r : ((List Int) × (List Int))} (hm : m_nat_divide n a1 a2 = some r) : Fn Tryd.prog 45 [(.sl (a1.map D.i)), (.sl (a2.map D.i))] (.tup [(.sl (r.1.map D.i)), (.sl (r.2.map D.i))]) := by
  unfold m_nat_divide at hm
  refine Fn.of_AW (fnn := Tryd.f45) Tryd.func45 rfl (Nat.le_of_ble_eq_true rfl) (fun g0 w0 hw0 => ?_)
  refine AW.reset 0 [(0, .d (.sl (a1.map D.i))), (1, .d (.sl (a2.map D.i)))] [] (WOK.g0 hw0 (by simp)) ⟨[], rfl, rfl, rfl, ⟨(.d rfl), (.d rfl), trivial⟩, trivial, .nil⟩ ?_
  refine AW.seqR ?_
  refine AL.s rfl (op_assignN (.e rfl)) ?_
  refine AL.s rfl (op_assignN (.e rfl)) ?_
  refine AL.nil ?_
  refine AW.seqR ?_
  refine AL.s rfl (op_moveD (.e rfl)) ?_
  refine AL.s rfl (op_lenM (f := D.i) (.r rfl) sl29) ?_
  refine AL.s rfl (op_moveD (.e rfl)) ?_
  refine AL.s rfl (op_lenM (f := D.i) (.r rfl) sl29) ?_
  refine AL.s rfl (op_subw (.r rfl) (.r rfl)) ?_
  refine AL.s rfl (op_addw (.r rfl) (.r rfl)) ?_
  refine AL.s rfl (op_max (.r rfl) (.r rfl)) ?_
  refine AL.s rfl (op_assignD (.e rfl)) ?_
  refine AL.nil ?_
  refine AW.seqR ?_
  refine AL.s rfl (op_moveD (.e rfl)) ?_
  obtain ⟨v3, hv3, hm⟩ := bindE hm
  refine AL.s rfl (op_makeM (n := 0) (f := D.i) (.r rfl) sl29 zr3 rfl rfl hv3) ?_
  refine AL.s rfl (op_assignH (.e rfl)) ?_
  refine AL.nil ?_
  refine AW.seqR ?_
  refine AL.s rfl (op_moveD (.e rfl)) ?_
  refine AL.s rfl (op_moveD (.e rfl)) ?_
  obtain ⟨v4, hv4, hm⟩ := bindE hm
  refine AL.s rfl (op_sliceM (f := D.i) (.r rfl) sl29 (.r rfl) rfl En.i hv4) ?_
  obtain ⟨v5, hv5, hm⟩ := bindE hm
  refine AL.s rfl (op_callF (v := .hs 1 0 v5.length 1) (H' := [.lst (v3.map D.i) 3 1, .lst (v5.map D.i) 3 1]) [] Tryd.call54 (.e rfl) (.cons (.e rfl) .nil) (m_slices_Clone_nat_Nat_int_ok hv5) rfl .nil rfl rfl rfl rfl rfl rfl rfl rfl) ?_
  refine AL.s rfl (op_assignH (.e rfl)) ?_
  refine AL.nil ?_
  refine AW.seq ?_
  refine AW.seqR ?_
  refine AL.s rfl (op_moveD (.e rfl)) ?_
  refine AL.s rfl (op_moveD (.e rfl)) ?_
  refine AL.nil ?_
  refine AW.block ?_
  obtain ⟨t_1, hI1, hk1⟩ := bindE hm
  refine AW.loopS (σ := (Int × (List Int) × (List Int))) (τ := ((List Int) × (List Int))) 0 (fun x => [(0, .d (.sl (a1.map D.i))), (1, .d (.sl (a2.map D.i))), (4, .hs 0 0 x.2.1.length 1), (5, .hs 1 0 x.2.2.length 1), (6, .d (.int .i64 (max (IntKind.i64.wrap ((IntKind.i64.wrap ((a1.length : Int) - (a2.length : Int))) + (1 : Int))) (0 : Int)))), (22, .d (.int .i64 (max (IntKind.i64.wrap ((IntKind.i64.wrap ((a1.length : Int) - (a2.length : Int))) + (1 : Int))) (0 : Int)))), (23, .d (.int .i64 x.1))]) (fun x => [.lst (x.2.1.map D.i) 3 1, .lst (x.2.2.map D.i) 3 1]) hI1 (WOK.g0 hw0 (by simp)) ⟨[0, 1], rfl, rfl, rfl, ⟨(.d rfl), (.d rfl), (.hs rfl rfl), (.hs rfl rfl), (.d rfl), (.d rfl), (.d rfl), trivial⟩, trivial, (.lst rfl (.lst rfl .nil))⟩ ?_
  rintro n1 ⟨s6, s7, s8⟩ hI1
  obtain ⟨y_1, hm, hI1⟩ := iterS hI1
  replace hm : m_nat_divide_L1 n _ _ s6 s7 s8 = some y_1 := hm
  unfold m_nat_divide_L1 at hm
  try dsimp only at hm
  refine AW.seqR ?_
  refine AL.s rfl (op_lss (.r rfl) (.r rfl)) ?_
  refine AL.nil ?_
  refine AW.seq ?_
  refine AW.cond (b := _) rfl (fun hc1 => ?_) (fun hc1 => ?_)
  · replace hm := iteT hc1 hm
    refine AW.skip ?_
    refine nq ?_
    refine AW.seq ?_
    refine AW.block ?_
    refine AW.seqR ?_
    refine AL.s rfl (op_moveD (.e rfl)) ?_
    refine AL.s rfl (op_assignD (.e rfl)) ?_
    refine AL.nil ?_
    refine AW.seqR ?_
    refine AL.s rfl (op_moveD (.e rfl)) ?_
    refine AL.s rfl (op_subw (.r rfl) (.r rfl)) ?_
    refine AL.s rfl (op_moveD (.e rfl)) ?_
    refine AL.s rfl (op_subw (.r rfl) (.r rfl)) ?_
    refine AL.s rfl (op_assignD (.e rfl)) ?_
    refine AL.nil ?_
    refine AW.seqR ?_
    refine AL.s rfl (op_moveH (.e rfl)) ?_
    refine AL.s rfl (op_moveD (.e rfl)) ?_
    refine AL.s rfl (op_moveD (.e rfl)) ?_
    obtain ⟨v9, hv9, hm⟩ := bindE hm
    refine AL.s rfl (op_indexAddrM (f := D.i) (.r rfl) (.r rfl) hv9 En.i sl29) ?_
    refine AL.s rfl (op_load_vp1 (.e rfl) rfl sc3) ?_
    refine AL.s rfl (op_buildSlice (ds := ([v9] : List Int).map D.i) sl22 (.cons (.r rfl) rfl (En.i.one _) .nil) rfl (by decide)) ?_
    refine AL.toD 35 rfl ?_
    obtain ⟨v10, hv10, hm⟩ := bindE hm
    refine AL.s rfl (op_callF (v := .hs 2 0 v10.length 1) (H' := [.lst (s7.map D.i) 3 1, .dead, .lst (v10.map D.i) 3 1]) [1] Tryd.call66 (.e rfl) (.cons (.e rfl) (.cons (.e rfl) (.cons (.e rfl) .nil))) (m_slices_Insert_nat_Nat_int_ok hv10) rfl (.cons rfl .nil) rfl rfl rfl rfl rfl rfl rfl rfl) ?_
    obtain ⟨v11, hv11, hm⟩ := bindE hm
    refine AL.s rfl (op_callF (v := .hs 3 0 v11.length 1) (H' := [.lst (s7.map D.i) 3 1, .dead, .dead, .lst (v11.map D.i) 3 1]) [2] Tryd.call65 (.e rfl) (.cons (.e rfl) .nil) (m_nat_trimmed_f2_ok hv11) rfl (.cons rfl .nil) rfl rfl rfl rfl rfl rfl rfl rfl) ?_
    refine AL.s rfl (op_assignH (.e rfl)) ?_
    refine AL.nil ?_
    refine AW.region ?_
    refine AL.s rfl (op_moveH (.e rfl)) ?_
    refine AL.s rfl (op_moveD (.e rfl)) ?_
    refine AL.s rfl (op_moveH (.e rfl)) ?_
    refine AL.s rfl (op_moveD (.e rfl)) ?_
    obtain ⟨v12, hv12, hm⟩ := bindE hm
    refine AL.s rfl (op_callF (v := .tup [.d (.int .i64 v12.1), .hs 4 0 v12.2.length 1]) (H' := [.lst (s7.map D.i) 3 1, .dead, .dead, .dead, .lst (v12.2.map D.i) 3 1]) [3] Tryd.call67 (.e rfl) (.cons (.e rfl) (.cons (.e rfl) .nil)) (m_nat_quotient_f2_ok hv12) rfl (.cons rfl .nil) rfl rfl rfl rfl rfl rfl rfl rfl) ?_
    refine AL.s rfl (op_moveU (.e rfl)) ?_
    refine AL.s rfl (op_extractV (.e rfl) rfl) ?_
    refine AL.s rfl (op_extractV (.e rfl) rfl) ?_
    obtain ⟨v13, hv13, hm⟩ := bindE hm
    refine AL.s rfl (op_indexAddr_hs (f := D.i) (l := s7) (.e rfl) rfl rfl (.r rfl) hv13 sl29) ?_
    obtain ⟨v14, hv14, hm⟩ := bindE hm
    refine AL.s rfl (op_store_lp (f := D.i) (fun _ => rfl) (.e rfl) (.r rfl) rfl hv14 ⟨_, rfl, rfl⟩ En.i) ?_
    refine AL.s rfl (op_assignH (.e rfl)) ?_
    refine AL.nil ?_
    refine bq_n ?_
    refine nq ?_
    refine AW.region ?_
    refine AL.s rfl (op_addw (.r rfl) (.r rfl)) ?_
    refine AL.s rfl (op_moveD (.e rfl)) ?_
    refine AL.nil ?_
    obtain rfl := Option.some.inj hm
    exact nq ⟨_, hI1, ⟨[0, 4], rfl, rfl, rfl, ⟨(.d rfl), (.d rfl), (.hs rfl (setI_len hv14).symm), (.hs rfl rfl), (.d rfl), (.d rfl), (.d rfl), trivial⟩, trivial, (.lst rfl (.lst rfl .nil))⟩⟩
  · replace hm := iteF hc1 hm
    refine AW.exit ?_
    refine tq_exit ?_
    refine tq_exit ?_
    obtain rfl := Option.some.inj hm
    obtain rfl := Option.some.inj hI1
    replace hm := hk1
    try dsimp only at hm
    refine bq_hit ?_
    refine nq ?_
    refine AW.seqR ?_
    refine AL.s rfl (op_moveH (.e rfl)) ?_
    obtain ⟨v15, hv15, hm⟩ := bindE hm
    refine AL.s rfl (op_callF (v := .hs 2 0 v15.length 1) (H' := [.dead, .lst (s8.map D.i) 3 1, .lst (v15.map D.i) 3 1]) [0] Tryd.call65 (.e rfl) (.cons (.e rfl) .nil) (m_nat_trimmed_f2_ok hv15) rfl (.cons rfl .nil) rfl rfl rfl rfl rfl rfl rfl rfl) ?_
    refine AL.s rfl (op_moveH (.e rfl)) ?_
    obtain ⟨v16, hv16, hm⟩ := bindE hm
    refine AL.s rfl (op_callF (v := .hs 3 0 v16.length 1) (H' := [.dead, .dead, .lst (v15.map D.i) 3 1, .lst (v16.map D.i) 3 1]) [1] Tryd.call65 (.e rfl) (.cons (.e rfl) .nil) (m_nat_trimmed_f2_ok hv16) rfl (.cons rfl .nil) rfl rfl rfl rfl rfl rfl rfl rfl) ?_
    refine AL.s rfl (op_assignH (.e rfl)) ?_
    refine AL.s rfl (op_assignH (.e rfl)) ?_
    refine AL.nil ?_
    refine AW.freeze (f := D.i) (l := v15) 2 [4, 49] rfl rfl En.i ⟨rfl, rfl, trivial⟩ ?_
    refine AW.freeze (f := D.i) (l := v16) 3 [5, 51] rfl rfl En.i ⟨rfl, rfl, trivial⟩ ?_
    refine AW.ret ?_
    obtain rfl := Option.some.inj hm
    exact EndQ.d (.tmp (.e rfl) (.tmp (.e rfl) .nil)) rfl rfl

set_option maxHeartbeats 20000000 in
theorem m_nat_Divide_ok {n : Nat} {a1 : (List Int)} {a2 : (List Int)} {r : ((List Int) × (List Int) × Int)} (hm : m_nat_Divide n a1 a2 = some r) : Fn Tryd.prog 34 [(.sl (a1.map D.i)), (.sl (a2.map D.i))] (.tup [(.sl (r.1.map D.i)), (.sl (r.2.1.map D.i)), (.int .i64 r.2.2)]) := by
  unfold m_nat_Divide at hm
  refine Fn.of_AW (fnn := Tryd.f34) Tryd.func34 rfl (Nat.le_of_ble_eq_true rfl) (fun g0 w0 hw0 => ?_)
  refine AW.seqR ?_
  refine AL.s rfl (op_assignN (.e rfl)) ?_
  refine AL.s rfl (op_assignN (.e rfl)) ?_
  refine AL.s rfl (op_assignD (.e rfl)) ?_
  refine AL.nil ?_
  refine AW.seq ?_
  refine AW.seqR ?_
  refine AL.s rfl (op_moveD (.e rfl)) ?_
  obtain ⟨v3, hv3, hm⟩ := bindE hm
  refine AL.s rfl (op_fn Tryd.call41 (.e rfl) (.cons (.r rfl) .nil) (m_nat_Valid_ok hv3)) ?_
  refine AL.s rfl (op_not (.r rfl)) ?_
  refine AL.s rfl (op_moveD (.e rfl)) ?_
  refine AL.sF rfl rfl rfl rfl (fun g => op_moveD (.e rfl)) ?_
  obtain ⟨v4, hv4, hm⟩ := bindE hm
  refine AL.sF rfl rfl rfl rfl (fun g => op_fn Tryd.call41 (.e rfl) (.cons (.we (nt g) rfl rfl) .nil) (m_nat_Valid_ok (iteT (nt g) hv4))) ?_
  refine AL.sF rfl rfl rfl rfl (fun g => op_not (.we (nt g) rfl rfl)) ?_
  refine AL.s rfl (op_or (.r rfl) rfl (fun h => (.we (nt h) rfl rfl))) ?_
  refine AL.s rfl (op_moveD (.e rfl)) ?_
  refine AL.sF rfl rfl rfl rfl (fun g => op_moveD (.e rfl)) ?_
  refine AL.sF rfl rfl rfl rfl (fun g => op_lenM (f := D.i) (.we (nt g) rfl rfl) sl29) ?_
  refine AL.sF rfl rfl rfl rfl (fun g => op_eql (.we (nt g) rfl rfl) (.r rfl)) ?_
  refine AL.s rfl (op_or (.r rfl) rfl (fun h => (.we (nt h) rfl rfl))) ?_
  refine AL.nil ?_
  refine AW.cond (b := _) rfl (fun hc1 => ?_) (fun hc1 => ?_)
  · replace hm := iteT hc1 hm
    refine AW.reset 0 [] [] (WOK.g0 hw0 (by simp)) ⟨[], rfl, rfl, rfl, trivial, trivial, .nil⟩ ?_
    refine AW.seqR ?_
    refine AL.s rfl (op_assignN (.e rfl)) ?_
    refine AL.s rfl (op_assignN (.e rfl)) ?_
    refine AL.s rfl (op_assignD (.e rfl)) ?_
    refine AL.nil ?_
    refine AW.ret ?_
    refine tq_ret ?_
    obtain rfl := Option.some.inj hm
    exact EndQ.d (.tmp (.e rfl) (.tmp (.e rfl) (.tmp (.e rfl) .nil))) rfl rfl
  · replace hm := iteF hc1 hm
    refine AW.skip ?_
    refine nq ?_
    refine AW.seqR ?_
    refine AL.s rfl (op_moveD (.e rfl)) ?_
    refine AL.s rfl (op_moveD (.e rfl)) ?_
    obtain ⟨v5, hv5, hm⟩ := bindE hm
    refine AL.s rfl (op_fn Tryd.call45 (.e rfl) (.cons (.r rfl) (.cons (.r rfl) .nil)) (m_nat_divide_ok hv5)) ?_
    refine AL.s rfl (op_moveD (.e rfl)) ?_
    refine AL.s rfl (op_extractD (.e rfl) rfl) ?_
    refine AL.s rfl (op_extractD (.e rfl) rfl) ?_
    refine AL.s rfl (op_assignD (.e rfl)) ?_
    refine AL.s rfl (op_assignD (.e rfl)) ?_
    refine AL.nil ?_
    refine AW.seqR ?_
    refine AL.s rfl (op_moveD (.e rfl)) ?_
    refine AL.s rfl (op_moveD (.e rfl)) ?_
    refine AL.s rfl (op_assignD (.e rfl)) ?_
    refine AL.s rfl (op_assignD (.e rfl)) ?_
    refine AL.s rfl (op_assignD (.e rfl)) ?_
    refine AL.nil ?_
    refine AW.ret ?_
    obtain rfl := Option.some.inj hm
    exact EndQ.d (.tmp (.e rfl) (.tmp (.e rfl) (.tmp (.e rfl) .nil))) rfl rfl

end Go.Proofs.YtagdgndoabomiaaDoor.Ab
