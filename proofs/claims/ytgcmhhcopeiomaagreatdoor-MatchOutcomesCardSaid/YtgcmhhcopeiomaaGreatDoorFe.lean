/- The functions do what they are in plain Lean. Conditions: none. -/
import Derived.Test.YtgcmhhcopeiomaaGreatDoorTy
import Derived.Test.YtgcmhhcopeiomaaGreatDoorMi
import Derived.Test.YtgcmhhcopeiomaaGreatDoorFd
set_option maxRecDepth 100000
namespace Go.Proofs.YtgcmhhcopeiomaaGreatDoor.Ab
open Go
attribute [local irreducible] AL AD AW

set_option maxHeartbeats 20000000 in
theorem m_ref03_times_ok {n : Nat} {a1 : (List Int)} {a2 : (List Int)} {r : (List Int)} (hm : m_ref03_times n a1 a2 = some r) : Fn Tryz.prog 80 [(.sl (a1.map D.i)), (.sl (a2.map D.i))] (.sl (r.map D.i)) := by
  unfold m_ref03_times at hm
  refine Fn.of_AW (fnn := Tryz.f80) Tryz.func80 rfl (Nat.le_of_ble_eq_true rfl) (fun g0 w0 hw0 => ?_)
  refine AW.reset 0 [(0, .d (.sl (a1.map D.i))), (1, .d (.sl (a2.map D.i)))] [] (WOK.g0 hw0 (by simp)) ⟨[], rfl, rfl, rfl, ⟨(.d rfl), (.d rfl), trivial⟩, trivial, .nil⟩ ?_
  refine AW.seqR ?_
  refine AL.s rfl (op_assignN (.e rfl)) ?_
  refine AL.nil ?_
  refine AW.seqR ?_
  refine AL.s rfl (op_moveD (.e rfl)) ?_
  refine AL.s rfl (op_lenM (f := D.i) (.r rfl) sl52) ?_
  refine AL.s rfl (op_moveD (.e rfl)) ?_
  refine AL.s rfl (op_lenM (f := D.i) (.r rfl) sl52) ?_
  refine AL.s rfl (op_addw (.r rfl) (.r rfl)) ?_
  obtain ⟨v3, hv3, hm⟩ := bindE hm
  refine AL.s rfl (op_makeM (n := 0) (f := D.i) (.r rfl) sl52 zr3 rfl rfl hv3) ?_
  refine AL.s rfl (op_assignH (.e rfl)) ?_
  refine AL.nil ?_
  refine AW.seq ?_
  refine AW.seqR ?_
  refine AL.s rfl (op_assignD (.e rfl)) ?_
  refine AL.nil ?_
  refine AW.block ?_
  obtain ⟨t_1, hI1, hk1⟩ := bindE hm
  refine AW.loopS (σ := (Int × (List Int))) (τ := (List Int)) 0 (fun x => [(0, .d (.sl (a1.map D.i))), (1, .d (.sl (a2.map D.i))), (5, .hs 0 0 x.2.length 1), (6, .d (.int .i64 x.1))]) (fun x => [.lst (x.2.map D.i) 3 1]) hI1 (WOK.g0 hw0 (by simp)) ⟨[0], rfl, rfl, rfl, ⟨(.d rfl), (.d rfl), (.hs rfl rfl), (.d rfl), trivial⟩, trivial, (.lst rfl .nil)⟩ ?_
  rintro n1 ⟨s4, s5⟩ hI1
  obtain ⟨y_1, hm, hI1⟩ := iterS hI1
  replace hm : m_ref03_times_L1 n _ _ s4 s5 = some y_1 := hm
  unfold m_ref03_times_L1 at hm
  try dsimp only at hm
  refine AW.seq ?_
  refine AW.seqR ?_
  refine AL.s rfl (op_moveD (.e rfl)) ?_
  refine AL.s rfl (op_moveD (.e rfl)) ?_
  refine AL.s rfl (op_lenM (f := D.i) (.r rfl) sl52) ?_
  refine AL.s rfl (op_lss (.r rfl) (.r rfl)) ?_
  refine AL.nil ?_
  refine AW.cond (b := _) rfl (fun hc1 => ?_) (fun hc1 => ?_)
  · replace hm := iteT hc1 hm
    refine AW.skip ?_
    refine nq ?_
    refine AW.seq ?_
    refine AW.block ?_
    refine AW.seqR ?_
    refine AL.s rfl (op_assignD (.e rfl)) ?_
    refine AL.nil ?_
    refine AW.seq ?_
    refine AW.seqR ?_
    refine AL.s rfl (op_assignD (.e rfl)) ?_
    refine AL.nil ?_
    refine AW.block ?_
    obtain ⟨t_2, hI2, hk2⟩ := bindE hm
    refine AW.loopS (σ := (Int × Int × (List Int))) (τ := (Int × (List Int))) 0 (fun x => [(0, .d (.sl (a1.map D.i))), (1, .d (.sl (a2.map D.i))), (5, .hs 0 0 x.2.2.length 1), (6, .d (.int .i64 s4)), (7, .d (.int .i64 x.1)), (8, .d (.int .i64 x.2.1))]) (fun x => [.lst (x.2.2.map D.i) 3 1]) hI2 (WOK.g0 hw0 (by simp)) ⟨[0], rfl, rfl, rfl, ⟨(.d rfl), (.d rfl), (.hs rfl rfl), (.d rfl), (.d rfl), (.d rfl), trivial⟩, trivial, (.lst rfl .nil)⟩ ?_
    rintro n2 ⟨s6, s7, s8⟩ hI2
    obtain ⟨y_2, hm, hI2⟩ := iterS hI2
    replace hm : m_ref03_times_L2 n _ _ _ s6 s7 s8 = some y_2 := hm
    unfold m_ref03_times_L2 at hm
    try dsimp only at hm
    refine AW.seq ?_
    refine AW.seqR ?_
    refine AL.s rfl (op_moveD (.e rfl)) ?_
    refine AL.s rfl (op_moveD (.e rfl)) ?_
    refine AL.s rfl (op_lenM (f := D.i) (.r rfl) sl52) ?_
    refine AL.s rfl (op_lss (.r rfl) (.r rfl)) ?_
    refine AL.nil ?_
    refine AW.cond (b := _) rfl (fun hc2 => ?_) (fun hc2 => ?_)
    · replace hm := iteT hc2 hm
      refine AW.skip ?_
      refine nq ?_
      refine AW.seq ?_
      refine AW.block ?_
      refine AW.seqD [([], []), ([], []), ([], []), ([], []), ([], []), ([0], []), ([0], []), ([], []), ([], []), ([], []), ([], []), ([], []), ([], []), ([], []), ([], []), ([], []), ([], []), ([], []), ([], [])] mo (by decide +kernel) ?_
      refine AD.s (ws := []) rfl rfl (fun H' _ hH => op_moveD (.e rfl)) ?_
      refine AD.s (ws := []) rfl rfl (fun H' _ hH => op_moveH (.e rfl)) ?_
      refine AD.s (ws := []) rfl rfl (fun H' _ hH => op_moveD (.e rfl)) ?_
      refine AD.s (ws := []) rfl rfl (fun H' _ hH => op_moveD (.e rfl)) ?_
      refine AD.s (ws := []) rfl rfl (fun H' _ hH => op_addw (.r rfl) (.r rfl)) ?_
      obtain ⟨v9, hv9, hm⟩ := bindE hm
      refine AD.s (ws := []) rfl rfl (fun H' _ hH => op_indexAddr_hs (f := D.i) (l := s8) (.e rfl) ((hH _ (by simp)).trans rfl) rfl (.r rfl) hv9 sl52) ?_
      obtain ⟨v10, hv10, hm⟩ := bindE hm
      refine AD.s (ws := []) rfl rfl (fun H' _ hH => op_load_lp (f := D.i) (fun _ => rfl) (.e rfl) ((hH _ (by simp)).trans rfl) hv10 sc3) ?_
      refine AD.s (ws := []) rfl rfl (fun H' _ hH => op_moveD (.e rfl)) ?_
      refine AD.s (ws := []) rfl rfl (fun H' _ hH => op_moveD (.e rfl)) ?_
      obtain ⟨v11, hv11, hm⟩ := bindE hm
      refine AD.s (ws := []) rfl rfl (fun H' _ hH => op_indexAddrM (f := D.i) (.r rfl) (.r rfl) hv11 En.i sl52) ?_
      refine AD.s (ws := []) rfl rfl (fun H' _ hH => op_load_vp1 (.e rfl) rfl sc3) ?_
      refine AD.s (ws := []) rfl rfl (fun H' _ hH => op_moveD (.e rfl)) ?_
      refine AD.s (ws := []) rfl rfl (fun H' _ hH => op_moveD (.e rfl)) ?_
      obtain ⟨v12, hv12, hm⟩ := bindE hm
      refine AD.s (ws := []) rfl rfl (fun H' _ hH => op_indexAddrM (f := D.i) (.r rfl) (.r rfl) hv12 En.i sl52) ?_
      refine AD.s (ws := []) rfl rfl (fun H' _ hH => op_load_vp1 (.e rfl) rfl sc3) ?_
      refine AD.s (ws := []) rfl rfl (fun H' _ hH => op_mulw (.r rfl) (.r rfl)) ?_
      refine AD.s (ws := []) rfl rfl (fun H' _ hH => op_addw (.r rfl) (.r rfl)) ?_
      refine AD.s (ws := []) rfl rfl (fun H' _ hH => op_addw (.r rfl) (.r rfl)) ?_
      refine AD.s (ws := []) rfl rfl (fun H' _ hH => op_assignD (.e rfl)) ?_
      refine AD.nil ?_
      refine AW.seqR ?_
      refine AL.s rfl (op_moveH (.e rfl)) ?_
      refine AL.s rfl (op_moveD (.e rfl)) ?_
      refine AL.s rfl (op_moveD (.e rfl)) ?_
      refine AL.s rfl (op_addw (.r rfl) (.r rfl)) ?_
      refine AL.s rfl (op_moveD (.e rfl)) ?_
      obtain ⟨v13, hv13, hm⟩ := bindE hm
      refine AL.s rfl (op_remM (.r rfl) (.r rfl) hv13) ?_
      obtain ⟨v14, hv14, hm⟩ := bindE hm
      refine AL.s rfl (op_indexAddr_hs (f := D.i) (l := s8) (.e rfl) rfl rfl (.r rfl) hv14 sl52) ?_
      obtain ⟨v15, hv15, hm⟩ := bindE hm
      refine AL.s rfl (op_store_lp (f := D.i) (fun _ => rfl) (.e rfl) (.r rfl) rfl hv15 ⟨_, rfl, rfl⟩ En.i) ?_
      refine AL.nil ?_
      refine AW.region ?_
      refine AL.s rfl (op_moveD (.e rfl)) ?_
      obtain ⟨v16, hv16, hm⟩ := bindE hm
      refine AL.s rfl (op_quoM (.r rfl) (.r rfl) hv16) ?_
      refine AL.s rfl (op_assignD (.e rfl)) ?_
      refine AL.nil ?_
      refine bq_n ?_
      refine nq ?_
      refine AW.region ?_
      refine AL.s rfl (op_moveD (.e rfl)) ?_
      refine AL.s rfl (op_addw (.r rfl) (.r rfl)) ?_
      refine AL.s rfl (op_assignD (.e rfl)) ?_
      refine AL.nil ?_
      obtain rfl := Option.some.inj hm
      exact nq ⟨_, hI2, ⟨[0], rfl, rfl, rfl, ⟨(.d rfl), (.d rfl), (.hs rfl (setI_len hv15).symm), (.d rfl), (.d rfl), (.d rfl), trivial⟩, trivial, (.lst rfl .nil)⟩⟩
    · replace hm := iteF hc2 hm
      refine AW.exit ?_
      refine tq_exit ?_
      refine tq_exit ?_
      obtain rfl := Option.some.inj hm
      obtain rfl := Option.some.inj hI2
      replace hm := hk2
      try dsimp only at hm
      refine bq_hit ?_
      refine nq ?_
      refine AW.region ?_
      refine AL.s rfl (op_moveH (.e rfl)) ?_
      refine AL.s rfl (op_moveD (.e rfl)) ?_
      refine AL.s rfl (op_moveD (.e rfl)) ?_
      refine AL.s rfl (op_lenM (f := D.i) (.r rfl) sl52) ?_
      refine AL.s rfl (op_addw (.r rfl) (.r rfl)) ?_
      refine AL.s rfl (op_moveD (.e rfl)) ?_
      obtain ⟨v17, hv17, hm⟩ := bindE hm
      refine AL.s rfl (op_indexAddr_hs (f := D.i) (l := s8) (.e rfl) rfl rfl (.r rfl) hv17 sl52) ?_
      obtain ⟨v18, hv18, hm⟩ := bindE hm
      refine AL.s rfl (op_store_lp (f := D.i) (fun _ => rfl) (.e rfl) (.r rfl) rfl hv18 ⟨_, rfl, rfl⟩ En.i) ?_
      refine AL.nil ?_
      refine bq_n ?_
      refine nq ?_
      refine AW.reset 0 [(0, .d (.sl (a1.map D.i))), (1, .d (.sl (a2.map D.i))), (5, .hs 0 0 v18.length 1), (6, .d (.int .i64 s4))] [.lst (v18.map D.i) 3 1] (WOK.g0 hw0 (by simp)) ⟨[0], rfl, rfl, rfl, ⟨(.d rfl), (.d rfl), (.hs rfl (setI_len hv18).symm), (.d rfl), trivial⟩, trivial, (.lst rfl .nil)⟩ ?_
      refine AW.region ?_
      refine AL.s rfl (op_moveD (.e rfl)) ?_
      refine AL.s rfl (op_addw (.r rfl) (.r rfl)) ?_
      refine AL.s rfl (op_assignD (.e rfl)) ?_
      refine AL.nil ?_
      obtain rfl := Option.some.inj hm
      exact nq ⟨_, hI1, ⟨[0], rfl, rfl, rfl, ⟨(.d rfl), (.d rfl), (.hs rfl rfl), (.d rfl), trivial⟩, trivial, (.lst rfl .nil)⟩⟩
  · replace hm := iteF hc1 hm
    refine AW.exit ?_
    refine tq_exit ?_
    refine tq_exit ?_
    obtain rfl := Option.some.inj hm
    obtain rfl := Option.some.inj hI1
    replace hm := hk1
    try dsimp only at hm
    refine bq_hit ?_
    refine nq ?_
    refine AW.freeze (f := D.i) (l := s5) 0 [5] rfl rfl En.i ⟨rfl, trivial⟩ ?_
    refine AW.seqR ?_
    refine AL.s rfl (op_moveD (.e rfl)) ?_
    obtain ⟨v19, hv19, hm⟩ := bindE hm
    refine AL.s rfl (op_fn Tryz.call102 (.e rfl) (.cons (.r rfl) .nil) (m_ref03_trim_ok hv19)) ?_
    refine AL.s rfl (op_assignD (.e rfl)) ?_
    refine AL.nil ?_
    refine AW.ret ?_
    obtain rfl := Option.some.inj hm
    exact EndQ.d (.tmp (.e rfl) .nil) rfl rfl

set_option maxHeartbeats 20000000 in
theorem m_ref03_limited_ok {n : Nat} {a1 : (List Int)} {r : ((List Int) × Int)} (hm : m_ref03_limited n a1 = some r) : Fn Tryz.prog 81 [(.sl (a1.map D.i))] (.tup [(.sl (r.1.map D.i)), (.int .i64 r.2)]) := by
  unfold m_ref03_limited at hm
  refine Fn.of_AW (fnn := Tryz.f81) Tryz.func81 rfl (Nat.le_of_ble_eq_true rfl) (fun g0 w0 hw0 => ?_)
  refine AW.seqR ?_
  refine AL.s rfl (op_assignN (.e rfl)) ?_
  refine AL.s rfl (op_assignD (.e rfl)) ?_
  refine AL.nil ?_
  refine AW.seq ?_
  refine AW.seqR ?_
  refine AL.s rfl (op_moveD (.e rfl)) ?_
  obtain ⟨v2, hv2, hm⟩ := bindE hm
  refine AL.s rfl (op_fn Tryz.call102 (.e rfl) (.cons (.r rfl) .nil) (m_ref03_trim_ok hv2)) ?_
  refine AL.s rfl (op_assignD (.e rfl)) ?_
  refine AL.nil ?_
  refine AW.seqR ?_
  refine AL.s rfl (op_moveD (.e rfl)) ?_
  refine AL.s rfl (op_lenM (f := D.i) (.r rfl) sl52) ?_
  refine AL.s rfl (op_gtr (.r rfl) (.r rfl)) ?_
  refine AL.nil ?_
  refine AW.cond (b := _) rfl (fun hc1 => ?_) (fun hc1 => ?_)
  · replace hm := iteT hc1 hm
    refine AW.seqR ?_
    refine AL.s rfl (op_assignN (.e rfl)) ?_
    refine AL.s rfl (op_assignD (.e rfl)) ?_
    refine AL.nil ?_
    refine AW.ret ?_
    refine tq_ret ?_
    obtain rfl := Option.some.inj hm
    exact EndQ.d (.tmp (.e rfl) (.tmp (.e rfl) .nil)) rfl rfl
  · replace hm := iteF hc1 hm
    refine AW.skip ?_
    refine nq ?_
    refine AW.seqR ?_
    refine AL.s rfl (op_moveD (.e rfl)) ?_
    refine AL.s rfl (op_assignD (.e rfl)) ?_
    refine AL.s rfl (op_assignD (.e rfl)) ?_
    refine AL.nil ?_
    refine AW.ret ?_
    obtain rfl := Option.some.inj hm
    exact EndQ.d (.tmp (.e rfl) (.tmp (.e rfl) .nil)) rfl rfl

set_option maxHeartbeats 20000000 in
theorem m_ref03_Mul_ok {n : Nat} {a1 : (List Int)} {a2 : (List Int)} {r : ((List Int) × Int)} (hm : m_ref03_Mul n a1 a2 = some r) : Fn Tryz.prog 76 [(.sl (a1.map D.i)), (.sl (a2.map D.i))] (.tup [(.sl (r.1.map D.i)), (.int .i64 r.2)]) := by
  unfold m_ref03_Mul at hm
  refine Fn.of_AW (fnn := Tryz.f76) Tryz.func76 rfl (Nat.le_of_ble_eq_true rfl) (fun g0 w0 hw0 => ?_)
  refine AW.seqR ?_
  refine AL.s rfl (op_assignN (.e rfl)) ?_
  refine AL.s rfl (op_assignD (.e rfl)) ?_
  refine AL.nil ?_
  refine AW.seq ?_
  refine AW.seqR ?_
  refine AL.s rfl (op_moveD (.e rfl)) ?_
  obtain ⟨v3, hv3, hm⟩ := bindE hm
  refine AL.s rfl (op_fn Tryz.call79 (.e rfl) (.cons (.r rfl) .nil) (m_ref03_Valid_ok hv3)) ?_
  refine AL.s rfl (op_not (.r rfl)) ?_
  refine AL.s rfl (op_moveD (.e rfl)) ?_
  refine AL.sF rfl rfl rfl rfl (fun g => op_moveD (.e rfl)) ?_
  obtain ⟨v4, hv4, hm⟩ := bindE hm
  refine AL.sF rfl rfl rfl rfl (fun g => op_fn Tryz.call79 (.e rfl) (.cons (.we (nt g) rfl rfl) .nil) (m_ref03_Valid_ok (iteT (nt g) hv4))) ?_
  refine AL.sF rfl rfl rfl rfl (fun g => op_not (.we (nt g) rfl rfl)) ?_
  refine AL.s rfl (op_or (.r rfl) rfl (fun h => (.we (nt h) rfl rfl))) ?_
  refine AL.nil ?_
  refine AW.cond (b := _) rfl (fun hc1 => ?_) (fun hc1 => ?_)
  · replace hm := iteT hc1 hm
    refine AW.seqR ?_
    refine AL.s rfl (op_assignN (.e rfl)) ?_
    refine AL.s rfl (op_assignD (.e rfl)) ?_
    refine AL.nil ?_
    refine AW.ret ?_
    refine tq_ret ?_
    obtain rfl := Option.some.inj hm
    exact EndQ.d (.tmp (.e rfl) (.tmp (.e rfl) .nil)) rfl rfl
  · replace hm := iteF hc1 hm
    refine AW.skip ?_
    refine nq ?_
    refine AW.seqR ?_
    refine AL.s rfl (op_moveD (.e rfl)) ?_
    refine AL.s rfl (op_moveD (.e rfl)) ?_
    obtain ⟨v5, hv5, hm⟩ := bindE hm
    refine AL.s rfl (op_fn Tryz.call80 (.e rfl) (.cons (.r rfl) (.cons (.r rfl) .nil)) (m_ref03_times_ok hv5)) ?_
    obtain ⟨v6, hv6, hm⟩ := bindE hm
    refine AL.s rfl (op_fn Tryz.call81 (.e rfl) (.cons (.r rfl) .nil) (m_ref03_limited_ok hv6)) ?_
    refine AL.s rfl (op_extractD (.e rfl) rfl) ?_
    refine AL.s rfl (op_extractD (.e rfl) rfl) ?_
    refine AL.s rfl (op_assignD (.e rfl)) ?_
    refine AL.s rfl (op_assignD (.e rfl)) ?_
    refine AL.nil ?_
    refine AW.ret ?_
    obtain rfl := Option.some.inj hm
    exact EndQ.d (.tmp (.e rfl) (.tmp (.e rfl) .nil)) rfl rfl

set_option maxHeartbeats 20000000 in
theorem m_ref03_compare_ok {n : Nat} {a1 : (List Int)} {a2 : (List Int)} {r : Int} (hm : m_ref03_compare n a1 a2 = some r) : Fn Tryz.prog 82 [(.sl (a1.map D.i)), (.sl (a2.map D.i))] (.int .i64 r) := by
  unfold m_ref03_compare at hm
  refine Fn.of_AW (fnn := Tryz.f82) Tryz.func82 rfl (Nat.le_of_ble_eq_true rfl) (fun g0 w0 hw0 => ?_)
  refine AW.reset 0 [(0, .d (.sl (a1.map D.i))), (1, .d (.sl (a2.map D.i)))] [] (WOK.g0 hw0 (by simp)) ⟨[], rfl, rfl, rfl, ⟨(.d rfl), (.d rfl), trivial⟩, trivial, .nil⟩ ?_
  refine AW.seqR ?_
  refine AL.s rfl (op_assignD (.e rfl)) ?_
  refine AL.nil ?_
  refine AW.seq ?_
  refine AW.seqR ?_
  refine AL.s rfl (op_moveD (.e rfl)) ?_
  refine AL.s rfl (op_lenM (f := D.i) (.r rfl) sl52) ?_
  refine AL.s rfl (op_moveD (.e rfl)) ?_
  refine AL.s rfl (op_lenM (f := D.i) (.r rfl) sl52) ?_
  refine AL.s rfl (op_neq (.r rfl) (.r rfl)) ?_
  refine AL.nil ?_
  refine AW.cond (b := _) rfl (fun hc1 => ?_) (fun hc1 => ?_)
  · replace hm := iteT hc1 hm
    refine AW.seq ?_
    refine AW.seqR ?_
    refine AL.s rfl (op_moveD (.e rfl)) ?_
    refine AL.s rfl (op_lenM (f := D.i) (.r rfl) sl52) ?_
    refine AL.s rfl (op_moveD (.e rfl)) ?_
    refine AL.s rfl (op_lenM (f := D.i) (.r rfl) sl52) ?_
    refine AL.s rfl (op_lss (.r rfl) (.r rfl)) ?_
    refine AL.nil ?_
    refine AW.cond (b := _) rfl (fun hc2 => ?_) (fun hc2 => ?_)
    · replace hm := iteT hc2 hm
      refine AW.seqR ?_
      refine AL.s rfl (op_assignD (.e rfl)) ?_
      refine AL.nil ?_
      refine AW.ret ?_
      refine tq_ret ?_
      refine tq_ret ?_
      obtain rfl := Option.some.inj hm
      exact EndQ.d (.tmp (.e rfl) .nil) rfl rfl
    · replace hm := iteF hc2 hm
      refine AW.skip ?_
      refine nq ?_
      refine AW.seqR ?_
      refine AL.s rfl (op_assignD (.e rfl)) ?_
      refine AL.nil ?_
      refine AW.ret ?_
      refine tq_ret ?_
      obtain rfl := Option.some.inj hm
      exact EndQ.d (.tmp (.e rfl) .nil) rfl rfl
  · replace hm := iteF hc1 hm
    refine AW.skip ?_
    refine nq ?_
    refine AW.seq ?_
    refine AW.seqR ?_
    refine AL.s rfl (op_moveD (.e rfl)) ?_
    refine AL.s rfl (op_lenM (f := D.i) (.r rfl) sl52) ?_
    refine AL.s rfl (op_subw (.r rfl) (.r rfl)) ?_
    refine AL.s rfl (op_assignD (.e rfl)) ?_
    refine AL.nil ?_
    refine AW.block ?_
    obtain ⟨t_1, hI1, hk1⟩ := bindE hm
    refine AW.loopS (σ := Int) (τ := (Int ⊕ Unit)) 0 (fun x => [(0, .d (.sl (a1.map D.i))), (1, .d (.sl (a2.map D.i))), (5, .d (.int .i64 x))]) (fun x => []) hI1 (WOK.g0 hw0 (by simp)) ⟨[], rfl, rfl, rfl, ⟨(.d rfl), (.d rfl), (.d rfl), trivial⟩, trivial, .nil⟩ ?_
    rintro n1 s3 hI1
    obtain ⟨y_1, hm, hI1⟩ := iterS hI1
    replace hm : m_ref03_compare_L1 n _ _ s3 = some y_1 := hm
    unfold m_ref03_compare_L1 at hm
    try dsimp only at hm
    refine AW.seq ?_
    refine AW.seqR ?_
    refine AL.s rfl (op_moveD (.e rfl)) ?_
    refine AL.s rfl (op_geq (.r rfl) (.r rfl)) ?_
    refine AL.nil ?_
    refine AW.cond (b := _) rfl (fun hc3 => ?_) (fun hc3 => ?_)
    · replace hm := iteT hc3 hm
      refine AW.skip ?_
      refine nq ?_
      refine AW.seq ?_
      refine AW.block ?_
      refine AW.seq ?_
      refine AW.seqD [([], []), ([], []), ([], []), ([], []), ([], []), ([], []), ([], []), ([], []), ([], [])] mo (by decide +kernel) ?_
      refine AD.s (ws := []) rfl rfl (fun H' _ hH => op_moveD (.e rfl)) ?_
      refine AD.s (ws := []) rfl rfl (fun H' _ hH => op_moveD (.e rfl)) ?_
      obtain ⟨v4, hv4, hm⟩ := bindE hm
      refine AD.s (ws := []) rfl rfl (fun H' _ hH => op_indexAddrM (f := D.i) (.r rfl) (.r rfl) hv4 En.i sl52) ?_
      refine AD.s (ws := []) rfl rfl (fun H' _ hH => op_load_vp1 (.e rfl) rfl sc3) ?_
      refine AD.s (ws := []) rfl rfl (fun H' _ hH => op_moveD (.e rfl)) ?_
      refine AD.s (ws := []) rfl rfl (fun H' _ hH => op_moveD (.e rfl)) ?_
      obtain ⟨v5, hv5, hm⟩ := bindE hm
      refine AD.s (ws := []) rfl rfl (fun H' _ hH => op_indexAddrM (f := D.i) (.r rfl) (.r rfl) hv5 En.i sl52) ?_
      refine AD.s (ws := []) rfl rfl (fun H' _ hH => op_load_vp1 (.e rfl) rfl sc3) ?_
      refine AD.s (ws := []) rfl rfl (fun H' _ hH => op_lss (.r rfl) (.r rfl)) ?_
      refine AD.nil ?_
      refine AW.cond (b := _) rfl (fun hc4 => ?_) (fun hc4 => ?_)
      · replace hm := iteT hc4 hm
        refine AW.seqR ?_
        refine AL.s rfl (op_assignD (.e rfl)) ?_
        refine AL.nil ?_
        refine AW.ret ?_
        refine tq_ret ?_
        refine bq_ret ?_
        refine tq_ret ?_
        refine tq_ret ?_
        obtain rfl := Option.some.inj hm
        obtain rfl := Option.some.inj hI1
        replace hm := hk1
        try dsimp only at hm
        refine bq_ret ?_
        refine tq_ret ?_
        obtain rfl := Option.some.inj hm
        exact EndQ.d (.tmp (.e rfl) .nil) rfl rfl
      · replace hm := iteF hc4 hm
        refine AW.skip ?_
        refine nq ?_
        refine AW.seqD [([], []), ([], []), ([], []), ([], []), ([], []), ([], []), ([], []), ([], []), ([], [])] mo (by decide +kernel) ?_
        refine AD.s (ws := []) rfl rfl (fun H' _ hH => op_moveD (.e rfl)) ?_
        refine AD.s (ws := []) rfl rfl (fun H' _ hH => op_moveD (.e rfl)) ?_
        obtain ⟨v6, hv6, hm⟩ := bindE hm
        refine AD.s (ws := []) rfl rfl (fun H' _ hH => op_indexAddrM (f := D.i) (.r rfl) (.r rfl) hv6 En.i sl52) ?_
        refine AD.s (ws := []) rfl rfl (fun H' _ hH => op_load_vp1 (.e rfl) rfl sc3) ?_
        refine AD.s (ws := []) rfl rfl (fun H' _ hH => op_moveD (.e rfl)) ?_
        refine AD.s (ws := []) rfl rfl (fun H' _ hH => op_moveD (.e rfl)) ?_
        obtain ⟨v7, hv7, hm⟩ := bindE hm
        refine AD.s (ws := []) rfl rfl (fun H' _ hH => op_indexAddrM (f := D.i) (.r rfl) (.r rfl) hv7 En.i sl52) ?_
        refine AD.s (ws := []) rfl rfl (fun H' _ hH => op_load_vp1 (.e rfl) rfl sc3) ?_
        refine AD.s (ws := []) rfl rfl (fun H' _ hH => op_gtr (.r rfl) (.r rfl)) ?_
        refine AD.nil ?_
        refine AW.cond (b := _) rfl (fun hc5 => ?_) (fun hc5 => ?_)
        · replace hm := iteT hc5 hm
          refine AW.seqR ?_
          refine AL.s rfl (op_assignD (.e rfl)) ?_
          refine AL.nil ?_
          refine AW.ret ?_
          refine bq_ret ?_
          refine tq_ret ?_
          refine tq_ret ?_
          obtain rfl := Option.some.inj hm
          obtain rfl := Option.some.inj hI1
          replace hm := hk1
          try dsimp only at hm
          refine bq_ret ?_
          refine tq_ret ?_
          obtain rfl := Option.some.inj hm
          exact EndQ.d (.tmp (.e rfl) .nil) rfl rfl
        · replace hm := iteF hc5 hm
          refine AW.skip ?_
          refine bq_n ?_
          refine nq ?_
          refine AW.region ?_
          refine AL.s rfl (op_moveD (.e rfl)) ?_
          refine AL.s rfl (op_subw (.r rfl) (.r rfl)) ?_
          refine AL.s rfl (op_assignD (.e rfl)) ?_
          refine AL.nil ?_
          obtain rfl := Option.some.inj hm
          exact nq ⟨_, hI1, ⟨[], rfl, rfl, rfl, ⟨(.d rfl), (.d rfl), (.d rfl), trivial⟩, trivial, .nil⟩⟩
    · replace hm := iteF hc3 hm
      refine AW.exit ?_
      refine tq_exit ?_
      refine tq_exit ?_
      obtain rfl := Option.some.inj hm
      obtain rfl := Option.some.inj hI1
      replace hm := hk1
      try dsimp only at hm
      refine bq_hit ?_
      refine nq ?_
      refine AW.seqR ?_
      refine AL.s rfl (op_assignD (.e rfl)) ?_
      refine AL.nil ?_
      refine AW.ret ?_
      obtain rfl := Option.some.inj hm
      exact EndQ.d (.tmp (.e rfl) .nil) rfl rfl

set_option maxHeartbeats 20000000 in
theorem m_ref03_sum_ok {n : Nat} {a1 : (List Int)} {a2 : (List Int)} {r : (List Int)} (hm : m_ref03_sum n a1 a2 = some r) : Fn Tryz.prog 117 [(.sl (a1.map D.i)), (.sl (a2.map D.i))] (.sl (r.map D.i)) := by
  unfold m_ref03_sum at hm
  refine Fn.of_AW (fnn := Tryz.f117) Tryz.func117 rfl (Nat.le_of_ble_eq_true rfl) (fun g0 w0 hw0 => ?_)
  refine AW.reset 0 [(0, .d (.sl (a1.map D.i))), (1, .d (.sl (a2.map D.i)))] [] (WOK.g0 hw0 (by simp)) ⟨[], rfl, rfl, rfl, ⟨(.d rfl), (.d rfl), trivial⟩, trivial, .nil⟩ ?_
  refine AW.seqR ?_
  refine AL.s rfl (op_assignN (.e rfl)) ?_
  refine AL.nil ?_
  refine AW.seqR ?_
  refine AL.s rfl (op_assignN (.e rfl)) ?_
  refine AL.nil ?_
  refine AW.seqR ?_
  refine AL.s rfl (op_assignD (.e rfl)) ?_
  refine AL.nil ?_
  refine AW.seq ?_
  refine AW.seqR ?_
  refine AL.s rfl (op_assignD (.e rfl)) ?_
  refine AL.nil ?_
  refine AW.block ?_
  refine AW.tokenize (n := 0) 5 3 1 rfl rfl (by simp) ?_
  obtain ⟨t_1, hI1, hk1⟩ := bindE hm
  refine AW.loopS (σ := ((List Int) × Int × Int)) (τ := ((List Int) × Int)) 0 (fun x => [(0, .d (.sl (a1.map D.i))), (1, .d (.sl (a2.map D.i))), (5, .tk 0 (x.1.map D.i)), (6, .d (.int .i64 x.2.1)), (7, .d (.int .i64 x.2.2))]) (fun x => [.tok x.1.length 3 1]) hI1 (WOK.g0 hw0 (by simp)) ⟨[0], rfl, rfl, rfl, ⟨(.d rfl), (.d rfl), (.tk rfl), (.d rfl), (.d rfl), trivial⟩, trivial, (.tok rfl .nil)⟩ ?_
  rintro n1 ⟨s3, s4, s5⟩ hI1
  obtain ⟨y_1, hm, hI1⟩ := iterS hI1
  replace hm : m_ref03_sum_L1 n _ _ s3 s4 s5 = some y_1 := hm
  unfold m_ref03_sum_L1 at hm
  try dsimp only at hm
  refine AW.seq ?_
  refine AW.seqR ?_
  refine AL.s rfl (op_moveD (.e rfl)) ?_
  refine AL.s rfl (op_moveD (.e rfl)) ?_
  refine AL.s rfl (op_lenM (f := D.i) (.r rfl) sl52) ?_
  refine AL.s rfl (op_lss (.r rfl) (.r rfl)) ?_
  refine AL.s rfl (op_moveD (.e rfl)) ?_
  refine AL.sF rfl rfl rfl rfl (fun g => op_moveD (.e rfl)) ?_
  refine AL.sF rfl rfl rfl rfl (fun g => op_moveD (.e rfl)) ?_
  refine AL.sF rfl rfl rfl rfl (fun g => op_lenM (f := D.i) (.we (nt g) rfl rfl) sl52) ?_
  refine AL.sF rfl rfl rfl rfl (fun g => op_lss (.we (nt g) rfl rfl) (.we (nt g) rfl rfl)) ?_
  refine AL.s rfl (op_or (.r rfl) rfl (fun h => (.we (nt h) rfl rfl))) ?_
  refine AL.nil ?_
  refine AW.cond (b := _) rfl (fun hc1 => ?_) (fun hc1 => ?_)
  · replace hm := iteT hc1 hm
    refine AW.skip ?_
    refine nq ?_
    refine AW.seq ?_
    refine AW.block ?_
    obtain ⟨t_j1, hm, hkj1⟩ := bindE hm
    refine AW.cutS (α := Int) 0 (fun x => x = t_j1) (fun x => [(0, .d (.sl (a1.map D.i))), (1, .d (.sl (a2.map D.i))), (5, .tk 0 (s3.map D.i)), (6, .d (.int .i64 x)), (7, .d (.int .i64 s5))]) (fun x => [.tok s3.length 3 1]) (WOK.g0 hw0 (by simp)) ?_ ?_
    · skip
      refine AW.seqR ?_
      refine AL.s rfl (op_moveD (.e rfl)) ?_
      refine AL.s rfl (op_moveD (.e rfl)) ?_
      refine AL.s rfl (op_lenM (f := D.i) (.r rfl) sl52) ?_
      refine AL.s rfl (op_lss (.r rfl) (.r rfl)) ?_
      refine AL.nil ?_
      refine AW.cond (b := _) rfl (fun hc2 => ?_) (fun hc2 => ?_)
      · replace hm := iteT hc2 hm
        refine AW.region ?_
        refine AL.s rfl (op_moveD (.e rfl)) ?_
        refine AL.s rfl (op_moveD (.e rfl)) ?_
        refine AL.s rfl (op_moveD (.e rfl)) ?_
        obtain ⟨v6, hv6, hm⟩ := bindE hm
        refine AL.s rfl (op_indexAddrM (f := D.i) (.r rfl) (.r rfl) hv6 En.i sl52) ?_
        refine AL.s rfl (op_load_vp1 (.e rfl) rfl sc3) ?_
        refine AL.s rfl (op_addw (.r rfl) (.r rfl)) ?_
        refine AL.s rfl (op_assignD (.e rfl)) ?_
        refine AL.nil ?_
        obtain rfl := Option.some.inj hm
        exact nq ⟨_, rfl, ⟨[0], rfl, rfl, rfl, ⟨(.d rfl), (.d rfl), (.tk rfl), (.d rfl), (.d rfl), trivial⟩, trivial, (.tok rfl .nil)⟩⟩
      · replace hm := iteF hc2 hm
        refine AW.skip ?_
        obtain rfl := Option.some.inj hm
        exact nq ⟨_, rfl, ⟨[0], rfl, rfl, rfl, ⟨(.d rfl), (.d rfl), (.tk rfl), (.d rfl), (.d rfl), trivial⟩, trivial, (.tok rfl .nil)⟩⟩
    · rintro s7 rfl
      replace hm := hkj1
      try dsimp only at hm
      obtain ⟨t_j2, hm, hkj2⟩ := bindE hm
      refine AW.cutS (α := Int) 0 (fun x => x = t_j2) (fun x => [(0, .d (.sl (a1.map D.i))), (1, .d (.sl (a2.map D.i))), (5, .tk 0 (s3.map D.i)), (6, .d (.int .i64 x)), (7, .d (.int .i64 s5))]) (fun x => [.tok s3.length 3 1]) (WOK.g0 hw0 (by simp)) ?_ ?_
      · skip
        refine AW.seqR ?_
        refine AL.s rfl (op_moveD (.e rfl)) ?_
        refine AL.s rfl (op_moveD (.e rfl)) ?_
        refine AL.s rfl (op_lenM (f := D.i) (.r rfl) sl52) ?_
        refine AL.s rfl (op_lss (.r rfl) (.r rfl)) ?_
        refine AL.nil ?_
        refine AW.cond (b := _) rfl (fun hc3 => ?_) (fun hc3 => ?_)
        · replace hm := iteT hc3 hm
          refine AW.region ?_
          refine AL.s rfl (op_moveD (.e rfl)) ?_
          refine AL.s rfl (op_moveD (.e rfl)) ?_
          refine AL.s rfl (op_moveD (.e rfl)) ?_
          obtain ⟨v8, hv8, hm⟩ := bindE hm
          refine AL.s rfl (op_indexAddrM (f := D.i) (.r rfl) (.r rfl) hv8 En.i sl52) ?_
          refine AL.s rfl (op_load_vp1 (.e rfl) rfl sc3) ?_
          refine AL.s rfl (op_addw (.r rfl) (.r rfl)) ?_
          refine AL.s rfl (op_assignD (.e rfl)) ?_
          refine AL.nil ?_
          obtain rfl := Option.some.inj hm
          exact nq ⟨_, rfl, ⟨[0], rfl, rfl, rfl, ⟨(.d rfl), (.d rfl), (.tk rfl), (.d rfl), (.d rfl), trivial⟩, trivial, (.tok rfl .nil)⟩⟩
        · replace hm := iteF hc3 hm
          refine AW.skip ?_
          obtain rfl := Option.some.inj hm
          exact nq ⟨_, rfl, ⟨[0], rfl, rfl, rfl, ⟨(.d rfl), (.d rfl), (.tk rfl), (.d rfl), (.d rfl), trivial⟩, trivial, (.tok rfl .nil)⟩⟩
      · rintro s9 rfl
        replace hm := hkj2
        try dsimp only at hm
        refine AW.seqR ?_
        refine AL.s rfl (op_moveT (.e rfl)) ?_
        refine AL.s rfl (op_moveD (.e rfl)) ?_
        obtain ⟨v10, hv10, hm⟩ := bindE hm
        refine AL.s rfl (op_remM (.r rfl) (.r rfl) hv10) ?_
        refine AL.s rfl (op_buildSlice (ds := ([v10] : List Int).map D.i) sl52 (.cons (.r rfl) rfl (En.i.one _) .nil) rfl (by decide)) ?_
        obtain ⟨v11, hv11, hm⟩ := bindE hm
        refine AL.s rfl (op_appendM (f := D.i) (l' := ([v10] : List Int)) sl52 (.e rfl) (.r rfl) rfl rfl En.i hv11) ?_
        refine AL.s rfl (op_assignT (.e rfl)) ?_
        refine AL.nil ?_
        refine AW.region ?_
        refine AL.s rfl (op_moveD (.e rfl)) ?_
        obtain ⟨v12, hv12, hm⟩ := bindE hm
        refine AL.s rfl (op_quoM (.r rfl) (.r rfl) hv12) ?_
        refine AL.s rfl (op_assignD (.e rfl)) ?_
        refine AL.nil ?_
        refine bq_n ?_
        refine nq ?_
        refine AW.region ?_
        refine AL.s rfl (op_moveD (.e rfl)) ?_
        refine AL.s rfl (op_addw (.r rfl) (.r rfl)) ?_
        refine AL.s rfl (op_assignD (.e rfl)) ?_
        refine AL.nil ?_
        obtain rfl := Option.some.inj hm
        exact nq ⟨_, hI1, ⟨[0], rfl, rfl, rfl, ⟨(.d rfl), (.d rfl), (.tk rfl), (.d rfl), (.d rfl), trivial⟩, trivial, (.tok rfl .nil)⟩⟩
  · replace hm := iteF hc1 hm
    refine AW.exit ?_
    refine tq_exit ?_
    refine tq_exit ?_
    obtain rfl := Option.some.inj hm
    obtain rfl := Option.some.inj hI1
    replace hm := hk1
    try dsimp only at hm
    refine bq_hit ?_
    refine nq ?_
    refine AW.seqR ?_
    refine AL.s rfl (op_moveT (.e rfl)) ?_
    refine AL.s rfl (op_moveD (.e rfl)) ?_
    refine AL.s rfl (op_buildSlice (ds := ([s4] : List Int).map D.i) sl52 (.cons (.r rfl) rfl (En.i.one _) .nil) rfl (by decide)) ?_
    obtain ⟨v13, hv13, hm⟩ := bindE hm
    refine AL.s rfl (op_appendM (f := D.i) (l' := ([s4] : List Int)) sl52 (.e rfl) (.r rfl) rfl rfl En.i hv13) ?_
    obtain ⟨v14, hv14, hm⟩ := bindE hm
    refine AL.s rfl (op_fn Tryz.call102 (.e rfl) (.cons (.r rfl) .nil) (m_ref03_trim_ok hv14)) ?_
    refine AL.s rfl (op_assignD (.e rfl)) ?_
    refine AL.nil ?_
    refine AW.ret ?_
    obtain rfl := Option.some.inj hm
    exact EndQ.d (.tmp (.e rfl) .nil) rfl rfl

set_option maxHeartbeats 20000000 in
theorem m_ref03_half_ok {n : Nat} {a1 : (List Int)} {r : (List Int)} (hm : m_ref03_half n a1 = some r) : Fn Tryz.prog 118 [(.sl (a1.map D.i))] (.sl (r.map D.i)) := by
  unfold m_ref03_half at hm
  refine Fn.of_AW (fnn := Tryz.f118) Tryz.func118 rfl (Nat.le_of_ble_eq_true rfl) (fun g0 w0 hw0 => ?_)
  refine AW.reset 0 [(0, .d (.sl (a1.map D.i)))] [] (WOK.g0 hw0 (by simp)) ⟨[], rfl, rfl, rfl, ⟨(.d rfl), trivial⟩, trivial, .nil⟩ ?_
  refine AW.seqR ?_
  refine AL.s rfl (op_assignN (.e rfl)) ?_
  refine AL.nil ?_
  refine AW.seqR ?_
  refine AL.s rfl (op_moveD (.e rfl)) ?_
  refine AL.s rfl (op_lenM (f := D.i) (.r rfl) sl52) ?_
  obtain ⟨v2, hv2, hm⟩ := bindE hm
  refine AL.s rfl (op_makeM (n := 0) (f := D.i) (.r rfl) sl52 zr3 rfl rfl hv2) ?_
  refine AL.s rfl (op_assignH (.e rfl)) ?_
  refine AL.nil ?_
  refine AW.seq ?_
  refine AW.seqR ?_
  refine AL.s rfl (op_assignD (.e rfl)) ?_
  refine AL.nil ?_
  refine AW.block ?_
  obtain ⟨t_1, hI1, hk1⟩ := bindE hm
  refine AW.loopS (σ := (Int × (List Int))) (τ := (List Int)) 0 (fun x => [(0, .d (.sl (a1.map D.i))), (3, .hs 0 0 x.2.length 1), (4, .d (.int .i64 x.1))]) (fun x => [.lst (x.2.map D.i) 3 1]) hI1 (WOK.g0 hw0 (by simp)) ⟨[0], rfl, rfl, rfl, ⟨(.d rfl), (.hs rfl rfl), (.d rfl), trivial⟩, trivial, (.lst rfl .nil)⟩ ?_
  rintro n1 ⟨s3, s4⟩ hI1
  obtain ⟨y_1, hm, hI1⟩ := iterS hI1
  replace hm : m_ref03_half_L1 n _ s3 s4 = some y_1 := hm
  unfold m_ref03_half_L1 at hm
  try dsimp only at hm
  refine AW.seq ?_
  refine AW.seqR ?_
  refine AL.s rfl (op_moveD (.e rfl)) ?_
  refine AL.s rfl (op_moveD (.e rfl)) ?_
  refine AL.s rfl (op_lenM (f := D.i) (.r rfl) sl52) ?_
  refine AL.s rfl (op_lss (.r rfl) (.r rfl)) ?_
  refine AL.nil ?_
  refine AW.cond (b := _) rfl (fun hc1 => ?_) (fun hc1 => ?_)
  · replace hm := iteT hc1 hm
    refine AW.skip ?_
    refine nq ?_
    obtain ⟨t_j1, hm, hkj1⟩ := bindE hm
    refine AW.cutS (α := (List Int)) 0 (fun x => x = t_j1) (fun x => [(0, .d (.sl (a1.map D.i))), (3, .hs 0 0 x.length 1), (4, .d (.int .i64 s3))]) (fun x => [.lst (x.map D.i) 3 1]) (WOK.g0 hw0 (by simp)) ?_ ?_
    · skip
      refine AW.block ?_
      refine AW.seqR ?_
      refine AL.s rfl (op_moveH (.e rfl)) ?_
      refine AL.s rfl (op_moveD (.e rfl)) ?_
      refine AL.s rfl (op_moveD (.e rfl)) ?_
      refine AL.s rfl (op_moveD (.e rfl)) ?_
      obtain ⟨v5, hv5, hm⟩ := bindE hm
      refine AL.s rfl (op_indexAddrM (f := D.i) (.r rfl) (.r rfl) hv5 En.i sl52) ?_
      refine AL.s rfl (op_load_vp1 (.e rfl) rfl sc3) ?_
      obtain ⟨v6, hv6, hm⟩ := bindE hm
      refine AL.s rfl (op_quoM (.r rfl) (.r rfl) hv6) ?_
      obtain ⟨v7, hv7, hm⟩ := bindE hm
      refine AL.s rfl (op_indexAddr_hs (f := D.i) (l := s4) (.e rfl) rfl rfl (.r rfl) hv7 sl52) ?_
      obtain ⟨v8, hv8, hm⟩ := bindE hm
      refine AL.s rfl (op_store_lp (f := D.i) (fun _ => rfl) (.e rfl) (.r rfl) rfl hv8 ⟨_, rfl, rfl⟩ En.i) ?_
      refine AL.nil ?_
      refine AW.reset 0 [(0, .d (.sl (a1.map D.i))), (3, .hs 0 0 v8.length 1), (4, .d (.int .i64 s3))] [.lst (v8.map D.i) 3 1] (WOK.g0 hw0 (by simp)) ⟨[0], rfl, rfl, rfl, ⟨(.d rfl), (.hs rfl (setI_len hv8).symm), (.d rfl), trivial⟩, trivial, (.lst rfl .nil)⟩ ?_
      refine AW.seqR ?_
      refine AL.s rfl (op_moveD (.e rfl)) ?_
      refine AL.s rfl (op_addw (.r rfl) (.r rfl)) ?_
      refine AL.s rfl (op_moveD (.e rfl)) ?_
      refine AL.s rfl (op_lenM (f := D.i) (.r rfl) sl52) ?_
      refine AL.s rfl (op_lss (.r rfl) (.r rfl)) ?_
      refine AL.s rfl (op_moveD (.e rfl)) ?_
      refine AL.sT rfl rfl rfl rfl (fun g => op_moveD (.e rfl)) ?_
      refine AL.sT rfl rfl rfl rfl (fun g => op_moveD (.e rfl)) ?_
      refine AL.sT rfl rfl rfl rfl (fun g => op_addw (.we g rfl rfl) (.r rfl)) ?_
      obtain ⟨v9, hv9, hm⟩ := bindE hm
      refine AL.sT rfl rfl rfl rfl (fun g => op_indexAddrM (f := D.i) (.we g rfl rfl) (.we g rfl rfl) (iteT g hv9) En.i sl52) ?_
      refine AL.sT rfl rfl rfl rfl (fun g => op_load_vp1 (.we g rfl) rfl sc3) ?_
      obtain ⟨v10, hv10, hm⟩ := bindE hm
      refine AL.sT rfl rfl rfl rfl (fun g => op_remM (.we g rfl rfl) (.r rfl) (iteT g hv10)) ?_
      refine AL.sT rfl rfl rfl rfl (fun g => op_eql (.we g rfl rfl) (.r rfl)) ?_
      refine AL.s rfl (op_and (.r rfl) (fun h => (.we h rfl rfl)) rfl) ?_
      refine AL.nil ?_
      refine AW.cond (b := _) rfl (fun hc2 => ?_) (fun hc2 => ?_)
      · replace hm := iteT hc2 hm
        refine AW.region ?_
        refine AL.s rfl (op_moveH (.e rfl)) ?_
        refine AL.s rfl (op_moveD (.e rfl)) ?_
        obtain ⟨v11, hv11, hm⟩ := bindE hm
        refine AL.s rfl (op_indexAddr_hs (f := D.i) (l := v8) (.e rfl) rfl rfl (.r rfl) hv11 sl52) ?_
        obtain ⟨v12, hv12, hm⟩ := bindE hm
        refine AL.s rfl (op_load_lp (f := D.i) (fun _ => rfl) (.e rfl) rfl hv12 sc3) ?_
        refine AL.s rfl (op_addw (.r rfl) (.r rfl)) ?_
        obtain ⟨v13, hv13, hm⟩ := bindE hm
        refine AL.s rfl (op_indexAddr_hs (f := D.i) (l := v8) (.e rfl) rfl rfl (.r rfl) hv13 sl52) ?_
        obtain ⟨v14, hv14, hm⟩ := bindE hm
        refine AL.s rfl (op_store_lp (f := D.i) (fun _ => rfl) (.e rfl) (.r rfl) rfl hv14 ⟨_, rfl, rfl⟩ En.i) ?_
        refine AL.nil ?_
        refine bq_n ?_
        obtain rfl := Option.some.inj hm
        exact nq ⟨_, rfl, ⟨[0], rfl, rfl, rfl, ⟨(.d rfl), (.hs rfl (setI_len hv14).symm), (.d rfl), trivial⟩, trivial, (.lst rfl .nil)⟩⟩
      · replace hm := iteF hc2 hm
        refine AW.skip ?_
        refine bq_n ?_
        obtain rfl := Option.some.inj hm
        exact nq ⟨_, rfl, ⟨[0], rfl, rfl, rfl, ⟨(.d rfl), (.hs rfl rfl), (.d rfl), trivial⟩, trivial, (.lst rfl .nil)⟩⟩
    · rintro s15 rfl
      replace hm := hkj1
      try dsimp only at hm
      refine AW.region ?_
      refine AL.s rfl (op_moveD (.e rfl)) ?_
      refine AL.s rfl (op_addw (.r rfl) (.r rfl)) ?_
      refine AL.s rfl (op_assignD (.e rfl)) ?_
      refine AL.nil ?_
      obtain rfl := Option.some.inj hm
      exact nq ⟨_, hI1, ⟨[0], rfl, rfl, rfl, ⟨(.d rfl), (.hs rfl rfl), (.d rfl), trivial⟩, trivial, (.lst rfl .nil)⟩⟩
  · replace hm := iteF hc1 hm
    refine AW.exit ?_
    refine tq_exit ?_
    refine tq_exit ?_
    obtain rfl := Option.some.inj hm
    obtain rfl := Option.some.inj hI1
    replace hm := hk1
    try dsimp only at hm
    refine bq_hit ?_
    refine nq ?_
    refine AW.freeze (f := D.i) (l := s4) 0 [3] rfl rfl En.i ⟨rfl, trivial⟩ ?_
    refine AW.seqR ?_
    refine AL.s rfl (op_moveD (.e rfl)) ?_
    obtain ⟨v16, hv16, hm⟩ := bindE hm
    refine AL.s rfl (op_fn Tryz.call102 (.e rfl) (.cons (.r rfl) .nil) (m_ref03_trim_ok hv16)) ?_
    refine AL.s rfl (op_assignD (.e rfl)) ?_
    refine AL.nil ?_
    refine AW.ret ?_
    obtain rfl := Option.some.inj hm
    exact EndQ.d (.tmp (.e rfl) .nil) rfl rfl

set_option maxHeartbeats 20000000 in
theorem m_ref03_less_ok {n : Nat} {a1 : (List Int)} {a2 : (List Int)} {r : (List Int)} (hm : m_ref03_less n a1 a2 = some r) : Fn Tryz.prog 119 [(.sl (a1.map D.i)), (.sl (a2.map D.i))] (.sl (r.map D.i)) := by
  unfold m_ref03_less at hm
  refine Fn.of_AW (fnn := Tryz.f119) Tryz.func119 rfl (Nat.le_of_ble_eq_true rfl) (fun g0 w0 hw0 => ?_)
  refine AW.reset 0 [(0, .d (.sl (a1.map D.i))), (1, .d (.sl (a2.map D.i)))] [] (WOK.g0 hw0 (by simp)) ⟨[], rfl, rfl, rfl, ⟨(.d rfl), (.d rfl), trivial⟩, trivial, .nil⟩ ?_
  refine AW.seqR ?_
  refine AL.s rfl (op_assignN (.e rfl)) ?_
  refine AL.nil ?_
  refine AW.seqR ?_
  refine AL.s rfl (op_assignN (.e rfl)) ?_
  refine AL.nil ?_
  refine AW.seqR ?_
  refine AL.s rfl (op_assignD (.e rfl)) ?_
  refine AL.nil ?_
  refine AW.seq ?_
  refine AW.seqR ?_
  refine AL.s rfl (op_assignD (.e rfl)) ?_
  refine AL.nil ?_
  refine AW.block ?_
  refine AW.tokenize (n := 0) 5 3 1 rfl rfl (by simp) ?_
  obtain ⟨t_1, hI1, hk1⟩ := bindE hm
  refine AW.loopS (σ := ((List Int) × Int × Int)) (τ := (List Int)) 0 (fun x => [(0, .d (.sl (a1.map D.i))), (1, .d (.sl (a2.map D.i))), (5, .tk 0 (x.1.map D.i)), (6, .d (.int .i64 x.2.1)), (7, .d (.int .i64 x.2.2))]) (fun x => [.tok x.1.length 3 1]) hI1 (WOK.g0 hw0 (by simp)) ⟨[0], rfl, rfl, rfl, ⟨(.d rfl), (.d rfl), (.tk rfl), (.d rfl), (.d rfl), trivial⟩, trivial, (.tok rfl .nil)⟩ ?_
  rintro n1 ⟨s3, s4, s5⟩ hI1
  obtain ⟨y_1, hm, hI1⟩ := iterS hI1
  replace hm : m_ref03_less_L1 n _ _ s3 s4 s5 = some y_1 := hm
  unfold m_ref03_less_L1 at hm
  try dsimp only at hm
  refine AW.seq ?_
  refine AW.seqR ?_
  refine AL.s rfl (op_moveD (.e rfl)) ?_
  refine AL.s rfl (op_moveD (.e rfl)) ?_
  refine AL.s rfl (op_lenM (f := D.i) (.r rfl) sl52) ?_
  refine AL.s rfl (op_lss (.r rfl) (.r rfl)) ?_
  refine AL.nil ?_
  refine AW.cond (b := _) rfl (fun hc1 => ?_) (fun hc1 => ?_)
  · replace hm := iteT hc1 hm
    refine AW.skip ?_
    refine nq ?_
    refine AW.seq ?_
    refine AW.block ?_
    refine AW.seqR ?_
    refine AL.s rfl (op_moveD (.e rfl)) ?_
    refine AL.s rfl (op_moveD (.e rfl)) ?_
    obtain ⟨v6, hv6, hm⟩ := bindE hm
    refine AL.s rfl (op_indexAddrM (f := D.i) (.r rfl) (.r rfl) hv6 En.i sl52) ?_
    refine AL.s rfl (op_load_vp1 (.e rfl) rfl sc3) ?_
    refine AL.s rfl (op_moveD (.e rfl)) ?_
    refine AL.s rfl (op_subw (.r rfl) (.r rfl)) ?_
    refine AL.s rfl (op_assignD (.e rfl)) ?_
    refine AL.nil ?_
    obtain ⟨t_j1, hm, hkj1⟩ := bindE hm
    refine AW.cutS (α := Int) 0 (fun x => x = t_j1) (fun x => [(0, .d (.sl (a1.map D.i))), (1, .d (.sl (a2.map D.i))), (5, .tk 0 (s3.map D.i)), (7, .d (.int .i64 s5)), (8, .d (.int .i64 x))]) (fun x => [.tok s3.length 3 1]) (WOK.g0 hw0 (by simp)) ?_ ?_
    · skip
      refine AW.seqR ?_
      refine AL.s rfl (op_moveD (.e rfl)) ?_
      refine AL.s rfl (op_moveD (.e rfl)) ?_
      refine AL.s rfl (op_lenM (f := D.i) (.r rfl) sl52) ?_
      refine AL.s rfl (op_lss (.r rfl) (.r rfl)) ?_
      refine AL.nil ?_
      refine AW.cond (b := _) rfl (fun hc2 => ?_) (fun hc2 => ?_)
      · replace hm := iteT hc2 hm
        refine AW.region ?_
        refine AL.s rfl (op_moveD (.e rfl)) ?_
        refine AL.s rfl (op_moveD (.e rfl)) ?_
        refine AL.s rfl (op_moveD (.e rfl)) ?_
        obtain ⟨v7, hv7, hm⟩ := bindE hm
        refine AL.s rfl (op_indexAddrM (f := D.i) (.r rfl) (.r rfl) hv7 En.i sl52) ?_
        refine AL.s rfl (op_load_vp1 (.e rfl) rfl sc3) ?_
        refine AL.s rfl (op_subw (.r rfl) (.r rfl)) ?_
        refine AL.s rfl (op_assignD (.e rfl)) ?_
        refine AL.nil ?_
        obtain rfl := Option.some.inj hm
        exact nq ⟨_, rfl, ⟨[0], rfl, rfl, rfl, ⟨(.d rfl), (.d rfl), (.tk rfl), (.d rfl), (.d rfl), trivial⟩, trivial, (.tok rfl .nil)⟩⟩
      · replace hm := iteF hc2 hm
        refine AW.skip ?_
        obtain rfl := Option.some.inj hm
        exact nq ⟨_, rfl, ⟨[0], rfl, rfl, rfl, ⟨(.d rfl), (.d rfl), (.tk rfl), (.d rfl), (.d rfl), trivial⟩, trivial, (.tok rfl .nil)⟩⟩
    · rintro s8 rfl
      replace hm := hkj1
      try dsimp only at hm
      refine AW.seqR ?_
      refine AL.s rfl (op_assignD (.e rfl)) ?_
      refine AL.nil ?_
      obtain ⟨t_j2, hm, hkj2⟩ := bindE hm
      refine AW.cutS (α := (Int × Int)) 0 (fun x => x = t_j2) (fun x => [(0, .d (.sl (a1.map D.i))), (1, .d (.sl (a2.map D.i))), (5, .tk 0 (s3.map D.i)), (6, .d (.int .i64 x.1)), (7, .d (.int .i64 s5)), (8, .d (.int .i64 x.2))]) (fun x => [.tok s3.length 3 1]) (WOK.g0 hw0 (by simp)) ?_ ?_
      · skip
        refine AW.seqR ?_
        refine AL.s rfl (op_moveD (.e rfl)) ?_
        refine AL.s rfl (op_lss (.r rfl) (.r rfl)) ?_
        refine AL.nil ?_
        refine AW.cond (b := _) rfl (fun hc3 => ?_) (fun hc3 => ?_)
        · replace hm := iteT hc3 hm
          refine AW.seqR ?_
          refine AL.s rfl (op_moveD (.e rfl)) ?_
          refine AL.s rfl (op_addw (.r rfl) (.r rfl)) ?_
          refine AL.s rfl (op_assignD (.e rfl)) ?_
          refine AL.nil ?_
          refine AW.region ?_
          refine AL.s rfl (op_assignD (.e rfl)) ?_
          refine AL.nil ?_
          obtain rfl := Option.some.inj hm
          exact nq ⟨_, rfl, ⟨[0], rfl, rfl, rfl, ⟨(.d rfl), (.d rfl), (.tk rfl), (.d rfl), (.d rfl), (.d rfl), trivial⟩, trivial, (.tok rfl .nil)⟩⟩
        · replace hm := iteF hc3 hm
          refine AW.skip ?_
          obtain rfl := Option.some.inj hm
          exact nq ⟨_, rfl, ⟨[0], rfl, rfl, rfl, ⟨(.d rfl), (.d rfl), (.tk rfl), (.d rfl), (.d rfl), (.d rfl), trivial⟩, trivial, (.tok rfl .nil)⟩⟩
      · rintro ⟨s9, s10⟩ rfl
        replace hm := hkj2
        try dsimp only at hm
        refine AW.region ?_
        refine AL.s rfl (op_moveT (.e rfl)) ?_
        refine AL.s rfl (op_moveD (.e rfl)) ?_
        refine AL.s rfl (op_buildSlice (ds := ([s10] : List Int).map D.i) sl52 (.cons (.r rfl) rfl (En.i.one _) .nil) rfl (by decide)) ?_
        obtain ⟨v11, hv11, hm⟩ := bindE hm
        refine AL.s rfl (op_appendM (f := D.i) (l' := ([s10] : List Int)) sl52 (.e rfl) (.r rfl) rfl rfl En.i hv11) ?_
        refine AL.s rfl (op_assignT (.e rfl)) ?_
        refine AL.nil ?_
        refine bq_n ?_
        refine nq ?_
        refine AW.region ?_
        refine AL.s rfl (op_moveD (.e rfl)) ?_
        refine AL.s rfl (op_addw (.r rfl) (.r rfl)) ?_
        refine AL.s rfl (op_assignD (.e rfl)) ?_
        refine AL.nil ?_
        obtain rfl := Option.some.inj hm
        exact nq ⟨_, hI1, ⟨[0], rfl, rfl, rfl, ⟨(.d rfl), (.d rfl), (.tk rfl), (.d rfl), (.d rfl), trivial⟩, trivial, (.tok rfl .nil)⟩⟩
  · replace hm := iteF hc1 hm
    refine AW.exit ?_
    refine tq_exit ?_
    refine tq_exit ?_
    obtain rfl := Option.some.inj hm
    obtain rfl := Option.some.inj hI1
    replace hm := hk1
    try dsimp only at hm
    refine bq_hit ?_
    refine nq ?_
    refine AW.seqR ?_
    refine AL.s rfl (op_moveT (.e rfl)) ?_
    obtain ⟨v12, hv12, hm⟩ := bindE hm
    refine AL.s rfl (op_fn Tryz.call102 (.e rfl) (.cons (.r rfl) .nil) (m_ref03_trim_ok hv12)) ?_
    refine AL.s rfl (op_assignD (.e rfl)) ?_
    refine AL.nil ?_
    refine AW.ret ?_
    obtain rfl := Option.some.inj hm
    exact EndQ.d (.tmp (.e rfl) .nil) rfl rfl

set_option maxHeartbeats 20000000 in
theorem m_ref03_divide_ok {n : Nat} {a1 : (List Int)} {a2 : (List Int)} {r : ((List Int) × (List Int))} (hm : m_ref03_divide n a1 a2 = some r) : Fn Tryz.prog 101 [(.sl (a1.map D.i)), (.sl (a2.map D.i))] (.tup [(.sl (r.1.map D.i)), (.sl (r.2.map D.i))]) := by
  unfold m_ref03_divide at hm
  refine Fn.of_AW (fnn := Tryz.f101) Tryz.func101 rfl (Nat.le_of_ble_eq_true rfl) (fun g0 w0 hw0 => ?_)
  refine AW.reset 0 [(0, .d (.sl (a1.map D.i))), (1, .d (.sl (a2.map D.i)))] [] (WOK.g0 hw0 (by simp)) ⟨[], rfl, rfl, rfl, ⟨(.d rfl), (.d rfl), trivial⟩, trivial, .nil⟩ ?_
  refine AW.seqR ?_
  refine AL.s rfl (op_assignN (.e rfl)) ?_
  refine AL.s rfl (op_assignN (.e rfl)) ?_
  refine AL.nil ?_
  refine AW.seqR ?_
  refine AL.s rfl (op_assignD (.e rfl)) ?_
  refine AL.nil ?_
  refine AW.seq ?_
  refine AW.block ?_
  obtain ⟨t_1, hI1, hk1⟩ := bindE hm
  refine AW.loopS (σ := ((List Int) × Int)) (τ := ((List Int) × Int)) 0 (fun x => [(0, .d (.sl (a1.map D.i))), (1, .d (.sl (x.1.map D.i))), (6, .d (.int .i64 x.2))]) (fun x => []) hI1 (WOK.g0 hw0 (by simp)) ⟨[], rfl, rfl, rfl, ⟨(.d rfl), (.d rfl), (.d rfl), trivial⟩, trivial, .nil⟩ ?_
  rintro n1 ⟨s3, s4⟩ hI1
  obtain ⟨y_1, hm, hI1⟩ := iterS hI1
  replace hm : m_ref03_divide_L1 n _ s3 s4 = some y_1 := hm
  unfold m_ref03_divide_L1 at hm
  try dsimp only at hm
  refine AW.seq ?_
  refine AW.seqR ?_
  refine AL.s rfl (op_moveD (.e rfl)) ?_
  refine AL.s rfl (op_moveD (.e rfl)) ?_
  obtain ⟨v5, hv5, hm⟩ := bindE hm
  refine AL.s rfl (op_fn Tryz.call82 (.e rfl) (.cons (.r rfl) (.cons (.r rfl) .nil)) (m_ref03_compare_ok hv5)) ?_
  refine AL.s rfl (op_leq (.r rfl) (.r rfl)) ?_
  refine AL.nil ?_
  refine AW.cond (b := _) rfl (fun hc1 => ?_) (fun hc1 => ?_)
  · replace hm := iteT hc1 hm
    refine AW.skip ?_
    refine nq ?_
    refine AW.block ?_
    refine AW.seqR ?_
    refine AL.s rfl (op_moveD (.e rfl)) ?_
    refine AL.s rfl (op_moveD (.e rfl)) ?_
    obtain ⟨v6, hv6, hm⟩ := bindE hm
    refine AL.s rfl (op_fn Tryz.call117 (.e rfl) (.cons (.r rfl) (.cons (.r rfl) .nil)) (m_ref03_sum_ok hv6)) ?_
    refine AL.s rfl (op_assignD (.e rfl)) ?_
    refine AL.nil ?_
    refine AW.region ?_
    refine AL.s rfl (op_moveD (.e rfl)) ?_
    refine AL.s rfl (op_addw (.r rfl) (.r rfl)) ?_
    refine AL.s rfl (op_assignD (.e rfl)) ?_
    refine AL.nil ?_
    refine bq_n ?_
    obtain rfl := Option.some.inj hm
    exact nq ⟨_, hI1, ⟨[], rfl, rfl, rfl, ⟨(.d rfl), (.d rfl), (.d rfl), trivial⟩, trivial, .nil⟩⟩
  · replace hm := iteF hc1 hm
    refine AW.exit ?_
    refine tq_exit ?_
    refine tq_exit ?_
    obtain rfl := Option.some.inj hm
    obtain rfl := Option.some.inj hI1
    replace hm := hk1
    try dsimp only at hm
    refine bq_hit ?_
    refine nq ?_
    refine AW.seqR ?_
    refine AL.s rfl (op_assignN (.e rfl)) ?_
    refine AL.nil ?_
    refine AW.seq ?_
    refine AW.seqR ?_
    refine AL.s rfl (op_assignD (.e rfl)) ?_
    refine AL.nil ?_
    refine AW.block ?_
    obtain ⟨t_2, hI2, hk2⟩ := bindE hm
    refine AW.loopS (σ := ((List Int) × (List Int) × (List Int) × Int)) (τ := ((List Int) × (List Int))) 0 (fun x => [(0, .d (.sl (x.1.map D.i))), (1, .d (.sl (x.2.1.map D.i))), (6, .d (.int .i64 s4)), (7, .d (.sl (x.2.2.1.map D.i))), (8, .d (.int .i64 x.2.2.2))]) (fun x => []) hI2 (WOK.g0 hw0 (by simp)) ⟨[], rfl, rfl, rfl, ⟨(.d rfl), (.d rfl), (.d rfl), (.d rfl), (.d rfl), trivial⟩, trivial, .nil⟩ ?_
    rintro n2 ⟨s7, s8, s9, s10⟩ hI2
    obtain ⟨y_2, hm, hI2⟩ := iterS hI2
    replace hm : m_ref03_divide_L2 n _ s7 s8 s9 s10 = some y_2 := hm
    unfold m_ref03_divide_L2 at hm
    try dsimp only at hm
    refine AW.seq ?_
    refine AW.seqR ?_
    refine AL.s rfl (op_moveD (.e rfl)) ?_
    refine AL.s rfl (op_moveD (.e rfl)) ?_
    refine AL.s rfl (op_lss (.r rfl) (.r rfl)) ?_
    refine AL.nil ?_
    refine AW.cond (b := _) rfl (fun hc2 => ?_) (fun hc2 => ?_)
    · replace hm := iteT hc2 hm
      refine AW.skip ?_
      refine nq ?_
      obtain ⟨t_j1, hm, hkj1⟩ := bindE hm
      refine AW.cutS (α := ((List Int) × (List Int) × (List Int))) 0 (fun x => x = t_j1) (fun x => [(0, .d (.sl (x.1.map D.i))), (1, .d (.sl (x.2.1.map D.i))), (6, .d (.int .i64 s4)), (7, .d (.sl (x.2.2.map D.i))), (8, .d (.int .i64 s10))]) (fun x => []) (WOK.g0 hw0 (by simp)) ?_ ?_
      · skip
        refine AW.block ?_
        refine AW.seqR ?_
        refine AL.s rfl (op_moveD (.e rfl)) ?_
        obtain ⟨v11, hv11, hm⟩ := bindE hm
        refine AL.s rfl (op_fn Tryz.call118 (.e rfl) (.cons (.r rfl) .nil) (m_ref03_half_ok hv11)) ?_
        refine AL.s rfl (op_moveD (.e rfl)) ?_
        refine AL.s rfl (op_moveD (.e rfl)) ?_
        obtain ⟨v12, hv12, hm⟩ := bindE hm
        refine AL.s rfl (op_fn Tryz.call117 (.e rfl) (.cons (.r rfl) (.cons (.r rfl) .nil)) (m_ref03_sum_ok hv12)) ?_
        refine AL.s rfl (op_assignD (.e rfl)) ?_
        refine AL.s rfl (op_assignD (.e rfl)) ?_
        refine AL.nil ?_
        refine AW.seqR ?_
        refine AL.s rfl (op_moveD (.e rfl)) ?_
        refine AL.s rfl (op_moveD (.e rfl)) ?_
        obtain ⟨v13, hv13, hm⟩ := bindE hm
        refine AL.s rfl (op_fn Tryz.call82 (.e rfl) (.cons (.r rfl) (.cons (.r rfl) .nil)) (m_ref03_compare_ok hv13)) ?_
        refine AL.s rfl (op_leq (.r rfl) (.r rfl)) ?_
        refine AL.nil ?_
        refine AW.cond (b := _) rfl (fun hc3 => ?_) (fun hc3 => ?_)
        · replace hm := iteT hc3 hm
          refine AW.region ?_
          refine AL.s rfl (op_moveD (.e rfl)) ?_
          refine AL.s rfl (op_moveD (.e rfl)) ?_
          obtain ⟨v14, hv14, hm⟩ := bindE hm
          refine AL.s rfl (op_fn Tryz.call119 (.e rfl) (.cons (.r rfl) (.cons (.r rfl) .nil)) (m_ref03_less_ok hv14)) ?_
          refine AL.s rfl (op_moveD (.e rfl)) ?_
          refine AL.s rfl (op_buildSlice (ds := ([(1 : Int)] : List Int).map D.i) sl52 (.cons (.r rfl) rfl (En.i.one _) .nil) rfl (by decide)) ?_
          obtain ⟨v15, hv15, hm⟩ := bindE hm
          refine AL.s rfl (op_fn Tryz.call117 (.e rfl) (.cons (.r rfl) (.cons (.r rfl) .nil)) (m_ref03_sum_ok hv15)) ?_
          refine AL.s rfl (op_assignD (.e rfl)) ?_
          refine AL.s rfl (op_assignD (.e rfl)) ?_
          refine AL.nil ?_
          refine bq_n ?_
          obtain rfl := Option.some.inj hm
          exact nq ⟨_, rfl, ⟨[], rfl, rfl, rfl, ⟨(.d rfl), (.d rfl), (.d rfl), (.d rfl), (.d rfl), trivial⟩, trivial, .nil⟩⟩
        · replace hm := iteF hc3 hm
          refine AW.skip ?_
          refine bq_n ?_
          obtain rfl := Option.some.inj hm
          exact nq ⟨_, rfl, ⟨[], rfl, rfl, rfl, ⟨(.d rfl), (.d rfl), (.d rfl), (.d rfl), (.d rfl), trivial⟩, trivial, .nil⟩⟩
      · rintro ⟨s16, s17, s18⟩ rfl
        replace hm := hkj1
        try dsimp only at hm
        refine AW.region ?_
        refine AL.s rfl (op_moveD (.e rfl)) ?_
        refine AL.s rfl (op_addw (.r rfl) (.r rfl)) ?_
        refine AL.s rfl (op_assignD (.e rfl)) ?_
        refine AL.nil ?_
        obtain rfl := Option.some.inj hm
        exact nq ⟨_, hI2, ⟨[], rfl, rfl, rfl, ⟨(.d rfl), (.d rfl), (.d rfl), (.d rfl), (.d rfl), trivial⟩, trivial, .nil⟩⟩
    · replace hm := iteF hc2 hm
      refine AW.exit ?_
      refine tq_exit ?_
      refine tq_exit ?_
      obtain rfl := Option.some.inj hm
      obtain rfl := Option.some.inj hI2
      replace hm := hk2
      try dsimp only at hm
      refine bq_hit ?_
      refine nq ?_
      refine AW.seqR ?_
      refine AL.s rfl (op_moveD (.e rfl)) ?_
      refine AL.s rfl (op_moveD (.e rfl)) ?_
      refine AL.s rfl (op_assignD (.e rfl)) ?_
      refine AL.s rfl (op_assignD (.e rfl)) ?_
      refine AL.nil ?_
      refine AW.ret ?_
      obtain rfl := Option.some.inj hm
      exact EndQ.d (.tmp (.e rfl) (.tmp (.e rfl) .nil)) rfl rfl

set_option maxHeartbeats 20000000 in
theorem m_ref03_Gcd_ok {n : Nat} {a1 : (List Int)} {a2 : (List Int)} {r : ((List Int) × Int)} (hm : m_ref03_Gcd n a1 a2 = some r) : Fn Tryz.prog 77 [(.sl (a1.map D.i)), (.sl (a2.map D.i))] (.tup [(.sl (r.1.map D.i)), (.int .i64 r.2)]) := by
  unfold m_ref03_Gcd at hm
  refine Fn.of_AW (fnn := Tryz.f77) Tryz.func77 rfl (Nat.le_of_ble_eq_true rfl) (fun g0 w0 hw0 => ?_)
  refine AW.reset 0 [(0, .d (.sl (a1.map D.i))), (1, .d (.sl (a2.map D.i)))] [] (WOK.g0 hw0 (by simp)) ⟨[], rfl, rfl, rfl, ⟨(.d rfl), (.d rfl), trivial⟩, trivial, .nil⟩ ?_
  refine AW.seqR ?_
  refine AL.s rfl (op_assignN (.e rfl)) ?_
  refine AL.s rfl (op_assignD (.e rfl)) ?_
  refine AL.nil ?_
  refine AW.seq ?_
  refine AW.seqR ?_
  refine AL.s rfl (op_moveD (.e rfl)) ?_
  obtain ⟨v3, hv3, hm⟩ := bindE hm
  refine AL.s rfl (op_fn Tryz.call79 (.e rfl) (.cons (.r rfl) .nil) (m_ref03_Valid_ok hv3)) ?_
  refine AL.s rfl (op_not (.r rfl)) ?_
  refine AL.s rfl (op_moveD (.e rfl)) ?_
  refine AL.sF rfl rfl rfl rfl (fun g => op_moveD (.e rfl)) ?_
  obtain ⟨v4, hv4, hm⟩ := bindE hm
  refine AL.sF rfl rfl rfl rfl (fun g => op_fn Tryz.call79 (.e rfl) (.cons (.we (nt g) rfl rfl) .nil) (m_ref03_Valid_ok (iteT (nt g) hv4))) ?_
  refine AL.sF rfl rfl rfl rfl (fun g => op_not (.we (nt g) rfl rfl)) ?_
  refine AL.s rfl (op_or (.r rfl) rfl (fun h => (.we (nt h) rfl rfl))) ?_
  refine AL.nil ?_
  refine AW.cond (b := _) rfl (fun hc1 => ?_) (fun hc1 => ?_)
  · replace hm := iteT hc1 hm
    refine AW.seqR ?_
    refine AL.s rfl (op_assignN (.e rfl)) ?_
    refine AL.s rfl (op_assignD (.e rfl)) ?_
    refine AL.nil ?_
    refine AW.ret ?_
    refine tq_ret ?_
    obtain rfl := Option.some.inj hm
    exact EndQ.d (.tmp (.e rfl) (.tmp (.e rfl) .nil)) rfl rfl
  · replace hm := iteF hc1 hm
    refine AW.skip ?_
    refine nq ?_
    refine AW.seq ?_
    refine AW.block ?_
    obtain ⟨t_1, hI1, hk1⟩ := bindE hm
    refine AW.loopS (σ := ((List Int) × (List Int))) (τ := (List Int)) 0 (fun x => [(0, .d (.sl (x.1.map D.i))), (1, .d (.sl (x.2.map D.i)))]) (fun x => []) hI1 (WOK.g0 hw0 (by simp)) ⟨[], rfl, rfl, rfl, ⟨(.d rfl), (.d rfl), trivial⟩, trivial, .nil⟩ ?_
    rintro n1 ⟨s5, s6⟩ hI1
    obtain ⟨y_1, hm, hI1⟩ := iterS hI1
    replace hm : m_ref03_Gcd_L1 n s5 s6 = some y_1 := hm
    unfold m_ref03_Gcd_L1 at hm
    try dsimp only at hm
    refine AW.seq ?_
    refine AW.seqR ?_
    refine AL.s rfl (op_moveD (.e rfl)) ?_
    refine AL.s rfl (op_lenM (f := D.i) (.r rfl) sl52) ?_
    refine AL.s rfl (op_gtr (.r rfl) (.r rfl)) ?_
    refine AL.nil ?_
    refine AW.cond (b := _) rfl (fun hc2 => ?_) (fun hc2 => ?_)
    · replace hm := iteT hc2 hm
      refine AW.skip ?_
      refine nq ?_
      refine AW.block ?_
      refine AW.seqR ?_
      refine AL.s rfl (op_moveD (.e rfl)) ?_
      refine AL.s rfl (op_moveD (.e rfl)) ?_
      obtain ⟨v7, hv7, hm⟩ := bindE hm
      refine AL.s rfl (op_fn Tryz.call101 (.e rfl) (.cons (.r rfl) (.cons (.r rfl) .nil)) (m_ref03_divide_ok hv7)) ?_
      refine AL.s rfl (op_moveD (.e rfl)) ?_
      refine AL.s rfl (op_extractD (.e rfl) rfl) ?_
      refine AL.s rfl (op_extractD (.e rfl) rfl) ?_
      refine AL.s rfl (op_assignD (.e rfl)) ?_
      refine AL.s rfl (op_assignD (.e rfl)) ?_
      refine AL.nil ?_
      refine AW.region ?_
      refine AL.s rfl (op_moveD (.e rfl)) ?_
      refine AL.s rfl (op_moveD (.e rfl)) ?_
      refine AL.s rfl (op_assignD (.e rfl)) ?_
      refine AL.s rfl (op_assignD (.e rfl)) ?_
      refine AL.nil ?_
      refine bq_n ?_
      obtain rfl := Option.some.inj hm
      exact nq ⟨_, hI1, ⟨[], rfl, rfl, rfl, ⟨(.d rfl), (.d rfl), trivial⟩, trivial, .nil⟩⟩
    · replace hm := iteF hc2 hm
      refine AW.exit ?_
      refine tq_exit ?_
      refine tq_exit ?_
      obtain rfl := Option.some.inj hm
      obtain rfl := Option.some.inj hI1
      replace hm := hk1
      try dsimp only at hm
      refine bq_hit ?_
      refine nq ?_
      refine AW.seqR ?_
      refine AL.s rfl (op_buildSlice (ds := ([] : List Int).map D.i) sl52 .nil rfl (by decide)) ?_
      refine AL.s rfl (op_moveD (.e rfl)) ?_
      obtain ⟨v8, hv8, hm⟩ := bindE hm
      refine AL.s rfl (op_appendEM (n := 0) (f := D.i) (l := ([] : List Int)) (l' := s5) sl52 (.e rfl) (.r rfl) rfl En.i hv8) ?_
      refine AL.s rfl (op_assignT (.e rfl)) ?_
      refine AL.s rfl (op_assignD (.e rfl)) ?_
      refine AL.nil ?_
      refine AW.ret ?_
      obtain rfl := Option.some.inj hm
      exact EndQ.d (.tmp (.e rfl) (.tmp (.e rfl) .nil)) rfl rfl

set_option maxHeartbeats 20000000 in
theorem m_ref03_Divide_ok {n : Nat} {a1 : (List Int)} {a2 : (List Int)} {r : ((List Int) × (List Int) × Int)} (hm : m_ref03_Divide n a1 a2 = some r) : Fn Tryz.prog 78 [(.sl (a1.map D.i)), (.sl (a2.map D.i))] (.tup [(.sl (r.1.map D.i)), (.sl (r.2.1.map D.i)), (.int .i64 r.2.2)]) := by
  unfold m_ref03_Divide at hm
  refine Fn.of_AW (fnn := Tryz.f78) Tryz.func78 rfl (Nat.le_of_ble_eq_true rfl) (fun g0 w0 hw0 => ?_)
  refine AW.seqR ?_
  refine AL.s rfl (op_assignN (.e rfl)) ?_
  refine AL.s rfl (op_assignN (.e rfl)) ?_
  refine AL.s rfl (op_assignD (.e rfl)) ?_
  refine AL.nil ?_
  refine AW.seq ?_
  refine AW.seqR ?_
  refine AL.s rfl (op_moveD (.e rfl)) ?_
  obtain ⟨v3, hv3, hm⟩ := bindE hm
  refine AL.s rfl (op_fn Tryz.call79 (.e rfl) (.cons (.r rfl) .nil) (m_ref03_Valid_ok hv3)) ?_
  refine AL.s rfl (op_not (.r rfl)) ?_
  refine AL.s rfl (op_moveD (.e rfl)) ?_
  refine AL.sF rfl rfl rfl rfl (fun g => op_moveD (.e rfl)) ?_
  obtain ⟨v4, hv4, hm⟩ := bindE hm
  refine AL.sF rfl rfl rfl rfl (fun g => op_fn Tryz.call79 (.e rfl) (.cons (.we (nt g) rfl rfl) .nil) (m_ref03_Valid_ok (iteT (nt g) hv4))) ?_
  refine AL.sF rfl rfl rfl rfl (fun g => op_not (.we (nt g) rfl rfl)) ?_
  refine AL.s rfl (op_or (.r rfl) rfl (fun h => (.we (nt h) rfl rfl))) ?_
  refine AL.s rfl (op_moveD (.e rfl)) ?_
  refine AL.sF rfl rfl rfl rfl (fun g => op_moveD (.e rfl)) ?_
  refine AL.sF rfl rfl rfl rfl (fun g => op_lenM (f := D.i) (.we (nt g) rfl rfl) sl52) ?_
  refine AL.sF rfl rfl rfl rfl (fun g => op_eql (.we (nt g) rfl rfl) (.r rfl)) ?_
  refine AL.s rfl (op_or (.r rfl) rfl (fun h => (.we (nt h) rfl rfl))) ?_
  refine AL.nil ?_
  refine AW.cond (b := _) rfl (fun hc1 => ?_) (fun hc1 => ?_)
  · replace hm := iteT hc1 hm
    refine AW.reset 0 [] [] (WOK.g0 hw0 (by simp)) ⟨[], rfl, rfl, rfl, trivial, trivial, .nil⟩ ?_
    refine AW.seqR ?_
    refine AL.s rfl (op_assignN (.e rfl)) ?_
    refine AL.s rfl (op_assignN (.e rfl)) ?_
    refine AL.s rfl (op_assignD (.e rfl)) ?_
    refine AL.nil ?_
    refine AW.ret ?_
    refine tq_ret ?_
    obtain rfl := Option.some.inj hm
    exact EndQ.d (.tmp (.e rfl) (.tmp (.e rfl) (.tmp (.e rfl) .nil))) rfl rfl
  · replace hm := iteF hc1 hm
    refine AW.skip ?_
    refine nq ?_
    refine AW.seqR ?_
    refine AL.s rfl (op_moveD (.e rfl)) ?_
    refine AL.s rfl (op_moveD (.e rfl)) ?_
    obtain ⟨v5, hv5, hm⟩ := bindE hm
    refine AL.s rfl (op_fn Tryz.call101 (.e rfl) (.cons (.r rfl) (.cons (.r rfl) .nil)) (m_ref03_divide_ok hv5)) ?_
    refine AL.s rfl (op_moveD (.e rfl)) ?_
    refine AL.s rfl (op_extractD (.e rfl) rfl) ?_
    refine AL.s rfl (op_extractD (.e rfl) rfl) ?_
    refine AL.s rfl (op_assignD (.e rfl)) ?_
    refine AL.s rfl (op_assignD (.e rfl)) ?_
    refine AL.nil ?_
    refine AW.seqR ?_
    refine AL.s rfl (op_moveD (.e rfl)) ?_
    refine AL.s rfl (op_moveD (.e rfl)) ?_
    refine AL.s rfl (op_assignD (.e rfl)) ?_
    refine AL.s rfl (op_assignD (.e rfl)) ?_
    refine AL.s rfl (op_assignD (.e rfl)) ?_
    refine AL.nil ?_
    refine AW.ret ?_
    obtain rfl := Option.some.inj hm
    exact EndQ.d (.tmp (.e rfl) (.tmp (.e rfl) (.tmp (.e rfl) .nil))) rfl rfl

set_option maxHeartbeats 20000000 in
theorem m_ref28_Product_ok {n : Nat} {a1 : (List SRatio)} {r : ((List Int) × (List Int) × Int)} (hm : m_ref28_Product n a1 = some r) : Fn Tryz.prog 44 [(.sl (a1.map SRatio.e))] (.tup [(.sl (r.1.map D.i)), (.sl (r.2.1.map D.i)), (.int .i64 r.2.2)]) := by
  unfold m_ref28_Product at hm
  refine Fn.of_AW (fnn := Tryz.f44) Tryz.func44 rfl (Nat.le_of_ble_eq_true rfl) (fun g0 w0 hw0 => ?_)
  refine AW.reset 0 [(0, .d (.sl (a1.map SRatio.e)))] [] (WOK.g0 hw0 (by simp)) ⟨[], rfl, rfl, rfl, ⟨(.d rfl), trivial⟩, trivial, .nil⟩ ?_
  refine AW.seqR ?_
  refine AL.s rfl (op_assignN (.e rfl)) ?_
  refine AL.s rfl (op_assignN (.e rfl)) ?_
  refine AL.s rfl (op_assignD (.e rfl)) ?_
  refine AL.nil ?_
  refine AW.seq ?_
  refine AW.seqR ?_
  refine AL.s rfl (op_moveD (.e rfl)) ?_
  obtain ⟨v2, hv2, hm⟩ := bindE hm
  refine AL.s rfl (op_fn Tryz.call40 (.e rfl) (.cons (.r rfl) .nil) (m_ref28_Valid_ok hv2)) ?_
  refine AL.s rfl (op_not (.r rfl)) ?_
  refine AL.nil ?_
  refine AW.cond (b := _) rfl (fun hc1 => ?_) (fun hc1 => ?_)
  · replace hm := iteT hc1 hm
    refine AW.seqR ?_
    refine AL.s rfl (op_assignN (.e rfl)) ?_
    refine AL.s rfl (op_assignN (.e rfl)) ?_
    refine AL.s rfl (op_assignD (.e rfl)) ?_
    refine AL.nil ?_
    refine AW.ret ?_
    refine tq_ret ?_
    obtain rfl := Option.some.inj hm
    exact EndQ.d (.tmp (.e rfl) (.tmp (.e rfl) (.tmp (.e rfl) .nil))) rfl rfl
  · replace hm := iteF hc1 hm
    refine AW.skip ?_
    refine nq ?_
    refine AW.seqR ?_
    refine AL.s rfl (op_buildSlice (ds := ([(1 : Int)] : List Int).map D.i) sl52 (.cons (.r rfl) rfl (En.i.one _) .nil) rfl (by decide)) ?_
    refine AL.s rfl (op_buildSlice (ds := ([(1 : Int)] : List Int).map D.i) sl52 (.cons (.r rfl) rfl (En.i.one _) .nil) rfl (by decide)) ?_
    refine AL.s rfl (op_assignE (.e rfl)) ?_
    refine AL.s rfl (op_assignE (.e rfl)) ?_
    refine AL.nil ?_
    refine AW.seq ?_
    refine AW.seqR ?_
    refine AL.s rfl (op_assignD (.e rfl)) ?_
    refine AL.nil ?_
    refine AW.block ?_
    obtain ⟨t_1, hI1, hk1⟩ := bindE hm
    refine AW.loopS (σ := ((List Int) × (List Int) × Int)) (τ := ((List Int) × (List Int))) 0 (fun x => [(0, .d (.sl (a1.map SRatio.e))), (5, .d (.sl (x.1.map D.i))), (6, .d (.sl (x.2.1.map D.i))), (7, .d (.int .i64 x.2.2))]) (fun x => []) hI1 (WOK.g0 hw0 (by simp)) ⟨[], rfl, rfl, rfl, ⟨(.d rfl), (.d rfl), (.d rfl), (.d rfl), trivial⟩, trivial, .nil⟩ ?_
    rintro n1 ⟨s3, s4, s5⟩ hI1
    obtain ⟨y_1, hm, hI1⟩ := iterS hI1
    replace hm : m_ref28_Product_L1 n _ s3 s4 s5 = some y_1 := hm
    unfold m_ref28_Product_L1 at hm
    try dsimp only at hm
    refine AW.seq ?_
    refine AW.seqR ?_
    refine AL.s rfl (op_moveD (.e rfl)) ?_
    refine AL.s rfl (op_moveD (.e rfl)) ?_
    refine AL.s rfl (op_lenM (f := SRatio.e) (.r rfl) sl40) ?_
    refine AL.s rfl (op_lss (.r rfl) (.r rfl)) ?_
    refine AL.nil ?_
    refine AW.cond (b := _) rfl (fun hc2 => ?_) (fun hc2 => ?_)
    · replace hm := iteT hc2 hm
      refine AW.skip ?_
      refine nq ?_
      refine AW.seq ?_
      refine AW.block ?_
      refine AW.seqR ?_
      refine AL.s rfl (op_moveD (.e rfl)) ?_
      refine AL.s rfl (op_moveD (.e rfl)) ?_
      refine AL.s rfl (op_moveD (.e rfl)) ?_
      obtain ⟨v6, hv6, hm⟩ := bindE hm
      refine AL.s rfl (op_indexAddrM (f := SRatio.e) (.r rfl) (.r rfl) hv6 enSRatio sl40) ?_
      refine AL.s rfl (op_field_vp (.e rfl) fd23_0) ?_
      refine AL.s rfl (op_load_vp1 (.e rfl) rfl sc3) ?_
      refine AL.s rfl (op_buildSlice (ds := ([v6.fNum] : List Int).map D.i) sl52 (.cons (.r rfl) rfl (En.i.one _) .nil) rfl (by decide)) ?_
      obtain ⟨v7, hv7, hm⟩ := bindE hm
      refine AL.s rfl (op_fn Tryz.call76 (.e rfl) (.cons (.r rfl) (.cons (.r rfl) .nil)) (m_ref03_Mul_ok hv7)) ?_
      refine AL.s rfl (op_moveD (.e rfl)) ?_
      refine AL.s rfl (op_extractD (.e rfl) rfl) ?_
      refine AL.s rfl (op_extractD (.e rfl) rfl) ?_
      refine AL.s rfl (op_assignD (.e rfl)) ?_
      refine AL.nil ?_
      refine AW.region ?_
      refine AL.s rfl (op_moveD (.e rfl)) ?_
      refine AL.s rfl (op_moveD (.e rfl)) ?_
      refine AL.s rfl (op_moveD (.e rfl)) ?_
      obtain ⟨v8, hv8, hm⟩ := bindE hm
      refine AL.s rfl (op_indexAddrM (f := SRatio.e) (.r rfl) (.r rfl) hv8 enSRatio sl40) ?_
      refine AL.s rfl (op_field_vp (.e rfl) fd23_1) ?_
      refine AL.s rfl (op_load_vp1 (.e rfl) rfl sc3) ?_
      refine AL.s rfl (op_buildSlice (ds := ([v8.fDen] : List Int).map D.i) sl52 (.cons (.r rfl) rfl (En.i.one _) .nil) rfl (by decide)) ?_
      obtain ⟨v9, hv9, hm⟩ := bindE hm
      refine AL.s rfl (op_fn Tryz.call76 (.e rfl) (.cons (.r rfl) (.cons (.r rfl) .nil)) (m_ref03_Mul_ok hv9)) ?_
      refine AL.s rfl (op_moveD (.e rfl)) ?_
      refine AL.s rfl (op_extractD (.e rfl) rfl) ?_
      refine AL.s rfl (op_extractD (.e rfl) rfl) ?_
      refine AL.s rfl (op_assignD (.e rfl)) ?_
      refine AL.nil ?_
      refine bq_n ?_
      refine nq ?_
      refine AW.region ?_
      refine AL.s rfl (op_moveD (.e rfl)) ?_
      refine AL.s rfl (op_addw (.r rfl) (.r rfl)) ?_
      refine AL.s rfl (op_assignD (.e rfl)) ?_
      refine AL.nil ?_
      obtain rfl := Option.some.inj hm
      exact nq ⟨_, hI1, ⟨[], rfl, rfl, rfl, ⟨(.d rfl), (.d rfl), (.d rfl), (.d rfl), trivial⟩, trivial, .nil⟩⟩
    · replace hm := iteF hc2 hm
      refine AW.exit ?_
      refine tq_exit ?_
      refine tq_exit ?_
      obtain rfl := Option.some.inj hm
      obtain rfl := Option.some.inj hI1
      replace hm := hk1
      try dsimp only at hm
      refine bq_hit ?_
      refine nq ?_
      refine AW.seqR ?_
      refine AL.s rfl (op_moveD (.e rfl)) ?_
      refine AL.s rfl (op_moveD (.e rfl)) ?_
      obtain ⟨v10, hv10, hm⟩ := bindE hm
      refine AL.s rfl (op_fn Tryz.call77 (.e rfl) (.cons (.r rfl) (.cons (.r rfl) .nil)) (m_ref03_Gcd_ok hv10)) ?_
      refine AL.s rfl (op_moveD (.e rfl)) ?_
      refine AL.s rfl (op_extractD (.e rfl) rfl) ?_
      refine AL.s rfl (op_extractD (.e rfl) rfl) ?_
      refine AL.s rfl (op_assignD (.e rfl)) ?_
      refine AL.s rfl (op_assignD (.e rfl)) ?_
      refine AL.nil ?_
      refine AW.seqR ?_
      refine AL.s rfl (op_moveD (.e rfl)) ?_
      refine AL.s rfl (op_moveD (.e rfl)) ?_
      obtain ⟨v11, hv11, hm⟩ := bindE hm
      refine AL.s rfl (op_fn Tryz.call78 (.e rfl) (.cons (.r rfl) (.cons (.r rfl) .nil)) (m_ref03_Divide_ok hv11)) ?_
      refine AL.s rfl (op_moveD (.e rfl)) ?_
      refine AL.s rfl (op_extractD (.e rfl) rfl) ?_
      refine AL.s rfl (op_extractD (.e rfl) rfl) ?_
      refine AL.s rfl (op_extractD (.e rfl) rfl) ?_
      refine AL.s rfl (op_assignD (.e rfl)) ?_
      refine AL.nil ?_
      refine AW.reset 0 [(5, .d (.sl (v11.1.map D.i))), (6, .d (.sl (s4.map D.i))), (8, .d (.sl (v10.1.map D.i)))] [] (WOK.g0 hw0 (by simp)) ⟨[], rfl, rfl, rfl, ⟨(.d rfl), (.d rfl), (.d rfl), trivial⟩, trivial, .nil⟩ ?_
      refine AW.seqR ?_
      refine AL.s rfl (op_moveD (.e rfl)) ?_
      refine AL.s rfl (op_moveD (.e rfl)) ?_
      obtain ⟨v12, hv12, hm⟩ := bindE hm
      refine AL.s rfl (op_fn Tryz.call78 (.e rfl) (.cons (.r rfl) (.cons (.r rfl) .nil)) (m_ref03_Divide_ok hv12)) ?_
      refine AL.s rfl (op_moveD (.e rfl)) ?_
      refine AL.s rfl (op_extractD (.e rfl) rfl) ?_
      refine AL.s rfl (op_extractD (.e rfl) rfl) ?_
      refine AL.s rfl (op_extractD (.e rfl) rfl) ?_
      refine AL.s rfl (op_assignD (.e rfl)) ?_
      refine AL.nil ?_
      refine AW.seqR ?_
      refine AL.s rfl (op_moveD (.e rfl)) ?_
      refine AL.s rfl (op_moveD (.e rfl)) ?_
      refine AL.s rfl (op_assignD (.e rfl)) ?_
      refine AL.s rfl (op_assignD (.e rfl)) ?_
      refine AL.s rfl (op_assignD (.e rfl)) ?_
      refine AL.nil ?_
      refine AW.ret ?_
      obtain rfl := Option.some.inj hm
      exact EndQ.d (.tmp (.e rfl) (.tmp (.e rfl) (.tmp (.e rfl) .nil))) rfl rfl

set_option maxHeartbeats 20000000 in
theorem m_ref03_Power_ok {n : Nat} {a1 : (List Int)} {a2 : Int} {r : ((List Int) × Int)} (hm : m_ref03_Power n a1 a2 = some r) : Fn Tryz.prog 45 [(.sl (a1.map D.i)), (.int .i64 a2)] (.tup [(.sl (r.1.map D.i)), (.int .i64 r.2)]) := by
  unfold m_ref03_Power at hm
  refine Fn.of_AW (fnn := Tryz.f45) Tryz.func45 rfl (Nat.le_of_ble_eq_true rfl) (fun g0 w0 hw0 => ?_)
  refine AW.reset 0 [(0, .d (.sl (a1.map D.i))), (1, .d (.int .i64 a2))] [] (WOK.g0 hw0 (by simp)) ⟨[], rfl, rfl, rfl, ⟨(.d rfl), (.d rfl), trivial⟩, trivial, .nil⟩ ?_
  refine AW.seqR ?_
  refine AL.s rfl (op_assignN (.e rfl)) ?_
  refine AL.s rfl (op_assignD (.e rfl)) ?_
  refine AL.nil ?_
  refine AW.seq ?_
  refine AW.block ?_
  refine AW.seqR ?_
  refine AL.s rfl (op_moveD (.e rfl)) ?_
  obtain ⟨v3, hv3, hm⟩ := bindE hm
  refine AL.s rfl (op_fn Tryz.call79 (.e rfl) (.cons (.r rfl) .nil) (m_ref03_Valid_ok hv3)) ?_
  refine AL.s rfl (op_not (.r rfl)) ?_
  refine AL.s rfl (op_assignD (.e rfl)) ?_
  refine AL.nil ?_
  refine AW.cond (b := _) rfl (fun hc1 => ?_) (fun hc1 => ?_)
  · replace hm := iteT hc1 hm
    refine AW.seqR ?_
    refine AL.s rfl (op_assignN (.e rfl)) ?_
    refine AL.s rfl (op_assignD (.e rfl)) ?_
    refine AL.nil ?_
    refine AW.ret ?_
    refine bq_ret ?_
    refine tq_ret ?_
    obtain rfl := Option.some.inj hm
    exact EndQ.d (.tmp (.e rfl) (.tmp (.e rfl) .nil)) rfl rfl
  · replace hm := iteF hc1 hm
    refine AW.seqR ?_
    refine AL.s rfl (op_moveD (.e rfl)) ?_
    refine AL.s rfl (op_lss (.r rfl) (.r rfl)) ?_
    refine AL.s rfl (op_moveD (.e rfl)) ?_
    refine AL.sF rfl rfl rfl rfl (fun g => op_moveD (.e rfl)) ?_
    refine AL.sF rfl rfl rfl rfl (fun g => op_gtr (.we (nt g) rfl rfl) (.r rfl)) ?_
    refine AL.s rfl (op_or (.r rfl) rfl (fun h => (.we (nt h) rfl rfl))) ?_
    refine AL.s rfl (op_assignD (.e rfl)) ?_
    refine AL.nil ?_
    refine AW.cond (b := _) rfl (fun hc2 => ?_) (fun hc2 => ?_)
    · replace hm := iteT hc2 hm
      refine AW.seqR ?_
      refine AL.s rfl (op_assignN (.e rfl)) ?_
      refine AL.s rfl (op_assignD (.e rfl)) ?_
      refine AL.nil ?_
      refine AW.ret ?_
      refine bq_ret ?_
      refine tq_ret ?_
      obtain rfl := Option.some.inj hm
      exact EndQ.d (.tmp (.e rfl) (.tmp (.e rfl) .nil)) rfl rfl
    · replace hm := iteF hc2 hm
      refine AW.skip ?_
      refine bq_n ?_
      refine nq ?_
      refine AW.seqR ?_
      refine AL.s rfl (op_buildSlice (ds := ([(1 : Int)] : List Int).map D.i) sl52 (.cons (.r rfl) rfl (En.i.one _) .nil) rfl (by decide)) ?_
      refine AL.s rfl (op_assignE (.e rfl)) ?_
      refine AL.nil ?_
      refine AW.seq ?_
      refine AW.seqR ?_
      refine AL.s rfl (op_assignD (.e rfl)) ?_
      refine AL.nil ?_
      refine AW.block ?_
      obtain ⟨t_1, hI1, hk1⟩ := bindE hm
      refine AW.loopS (σ := ((List Int) × Int)) (τ := (((List Int) × Int) ⊕ (List Int))) 0 (fun x => [(0, .d (.sl (a1.map D.i))), (1, .d (.int .i64 a2)), (6, .d (.sl (x.1.map D.i))), (7, .d (.int .i64 x.2))]) (fun x => []) hI1 (WOK.g0 hw0 (by simp)) ⟨[], rfl, rfl, rfl, ⟨(.d rfl), (.d rfl), (.d rfl), (.d rfl), trivial⟩, trivial, .nil⟩ ?_
      rintro n1 ⟨s4, s5⟩ hI1
      obtain ⟨y_1, hm, hI1⟩ := iterS hI1
      replace hm : m_ref03_Power_L1 n _ _ s4 s5 = some y_1 := hm
      unfold m_ref03_Power_L1 at hm
      try dsimp only at hm
      refine AW.seq ?_
      refine AW.seqR ?_
      refine AL.s rfl (op_moveD (.e rfl)) ?_
      refine AL.s rfl (op_moveD (.e rfl)) ?_
      refine AL.s rfl (op_lss (.r rfl) (.r rfl)) ?_
      refine AL.nil ?_
      refine AW.cond (b := _) rfl (fun hc3 => ?_) (fun hc3 => ?_)
      · replace hm := iteT hc3 hm
        refine AW.skip ?_
        refine nq ?_
        refine AW.seq ?_
        refine AW.block ?_
        refine AW.seqR ?_
        refine AL.s rfl (op_moveD (.e rfl)) ?_
        refine AL.s rfl (op_moveD (.e rfl)) ?_
        obtain ⟨v6, hv6, hm⟩ := bindE hm
        refine AL.s rfl (op_fn Tryz.call76 (.e rfl) (.cons (.r rfl) (.cons (.r rfl) .nil)) (m_ref03_Mul_ok hv6)) ?_
        refine AL.s rfl (op_moveD (.e rfl)) ?_
        refine AL.s rfl (op_extractD (.e rfl) rfl) ?_
        refine AL.s rfl (op_extractD (.e rfl) rfl) ?_
        refine AL.s rfl (op_assignD (.e rfl)) ?_
        refine AL.s rfl (op_assignD (.e rfl)) ?_
        refine AL.nil ?_
        refine AW.seq ?_
        refine AW.seqR ?_
        refine AL.s rfl (op_moveD (.e rfl)) ?_
        refine AL.s rfl (op_neq (.r rfl) (.r rfl)) ?_
        refine AL.nil ?_
        refine AW.cond (b := _) rfl (fun hc4 => ?_) (fun hc4 => ?_)
        · replace hm := iteT hc4 hm
          refine AW.seqR ?_
          refine AL.s rfl (op_moveD (.e rfl)) ?_
          refine AL.s rfl (op_assignN (.e rfl)) ?_
          refine AL.s rfl (op_assignD (.e rfl)) ?_
          refine AL.nil ?_
          refine AW.ret ?_
          refine tq_ret ?_
          refine bq_ret ?_
          refine tq_ret ?_
          refine tq_ret ?_
          obtain rfl := Option.some.inj hm
          obtain rfl := Option.some.inj hI1
          replace hm := hk1
          try dsimp only at hm
          refine bq_ret ?_
          refine tq_ret ?_
          obtain rfl := Option.some.inj hm
          exact EndQ.d (.tmp (.e rfl) (.tmp (.e rfl) .nil)) rfl rfl
        · replace hm := iteF hc4 hm
          refine AW.skip ?_
          refine nq ?_
          refine AW.region ?_
          refine AL.s rfl (op_moveD (.e rfl)) ?_
          refine AL.s rfl (op_assignD (.e rfl)) ?_
          refine AL.nil ?_
          refine bq_n ?_
          refine nq ?_
          refine AW.region ?_
          refine AL.s rfl (op_moveD (.e rfl)) ?_
          refine AL.s rfl (op_addw (.r rfl) (.r rfl)) ?_
          refine AL.s rfl (op_assignD (.e rfl)) ?_
          refine AL.nil ?_
          obtain rfl := Option.some.inj hm
          exact nq ⟨_, hI1, ⟨[], rfl, rfl, rfl, ⟨(.d rfl), (.d rfl), (.d rfl), (.d rfl), trivial⟩, trivial, .nil⟩⟩
      · replace hm := iteF hc3 hm
        refine AW.exit ?_
        refine tq_exit ?_
        refine tq_exit ?_
        obtain rfl := Option.some.inj hm
        obtain rfl := Option.some.inj hI1
        replace hm := hk1
        try dsimp only at hm
        refine bq_hit ?_
        refine nq ?_
        refine AW.seqR ?_
        refine AL.s rfl (op_moveD (.e rfl)) ?_
        refine AL.s rfl (op_assignD (.e rfl)) ?_
        refine AL.s rfl (op_assignD (.e rfl)) ?_
        refine AL.nil ?_
        refine AW.ret ?_
        obtain rfl := Option.some.inj hm
        exact EndQ.d (.tmp (.e rfl) (.tmp (.e rfl) .nil)) rfl rfl

set_option maxHeartbeats 20000000 in
theorem m_ref03_Bits_ok {n : Nat} {a1 : (List Int)} {r : Int} (hm : m_ref03_Bits n a1 = some r) : Fn Tryz.prog 46 [(.sl (a1.map D.i))] (.int .i64 r) := by
  unfold m_ref03_Bits at hm
  refine Fn.of_AW (fnn := Tryz.f46) Tryz.func46 rfl (Nat.le_of_ble_eq_true rfl) (fun g0 w0 hw0 => ?_)
  refine AW.reset 0 [(0, .d (.sl (a1.map D.i)))] [] (WOK.g0 hw0 (by simp)) ⟨[], rfl, rfl, rfl, ⟨(.d rfl), trivial⟩, trivial, .nil⟩ ?_
  refine AW.seqR ?_
  refine AL.s rfl (op_assignD (.e rfl)) ?_
  refine AL.nil ?_
  refine AW.seq ?_
  refine AW.seqR ?_
  refine AL.s rfl (op_moveD (.e rfl)) ?_
  obtain ⟨v2, hv2, hm⟩ := bindE hm
  refine AL.s rfl (op_fn Tryz.call79 (.e rfl) (.cons (.r rfl) .nil) (m_ref03_Valid_ok hv2)) ?_
  refine AL.s rfl (op_not (.r rfl)) ?_
  refine AL.s rfl (op_moveD (.e rfl)) ?_
  refine AL.sF rfl rfl rfl rfl (fun g => op_moveD (.e rfl)) ?_
  refine AL.sF rfl rfl rfl rfl (fun g => op_lenM (f := D.i) (.we (nt g) rfl rfl) sl52) ?_
  refine AL.sF rfl rfl rfl rfl (fun g => op_eql (.we (nt g) rfl rfl) (.r rfl)) ?_
  refine AL.s rfl (op_or (.r rfl) rfl (fun h => (.we (nt h) rfl rfl))) ?_
  refine AL.nil ?_
  refine AW.cond (b := _) rfl (fun hc1 => ?_) (fun hc1 => ?_)
  · replace hm := iteT hc1 hm
    refine AW.seqR ?_
    refine AL.s rfl (op_assignD (.e rfl)) ?_
    refine AL.nil ?_
    refine AW.ret ?_
    refine tq_ret ?_
    obtain rfl := Option.some.inj hm
    exact EndQ.d (.tmp (.e rfl) .nil) rfl rfl
  · replace hm := iteF hc1 hm
    refine AW.skip ?_
    refine nq ?_
    refine AW.seqR ?_
    refine AL.s rfl (op_moveD (.e rfl)) ?_
    refine AL.s rfl (op_lenM (f := D.i) (.r rfl) sl52) ?_
    refine AL.s rfl (op_subw (.r rfl) (.r rfl)) ?_
    refine AL.s rfl (op_mulw (.r rfl) (.r rfl)) ?_
    refine AL.s rfl (op_assignD (.e rfl)) ?_
    refine AL.nil ?_
    refine AW.seq ?_
    refine AW.seqR ?_
    refine AL.s rfl (op_moveD (.e rfl)) ?_
    refine AL.s rfl (op_moveD (.e rfl)) ?_
    refine AL.s rfl (op_lenM (f := D.i) (.r rfl) sl52) ?_
    refine AL.s rfl (op_subw (.r rfl) (.r rfl)) ?_
    obtain ⟨v3, hv3, hm⟩ := bindE hm
    refine AL.s rfl (op_indexAddrM (f := D.i) (.r rfl) (.r rfl) hv3 En.i sl52) ?_
    refine AL.s rfl (op_load_vp1 (.e rfl) rfl sc3) ?_
    refine AL.s rfl (op_assignD (.e rfl)) ?_
    refine AL.nil ?_
    refine AW.block ?_
    obtain ⟨t_1, hI1, hk1⟩ := bindE hm
    refine AW.loopS (σ := (Int × Int)) (τ := Int) 0 (fun x => [(3, .d (.int .i64 x.1)), (4, .d (.int .i64 x.2))]) (fun x => []) hI1 (WOK.g0 hw0 (by simp)) ⟨[], rfl, rfl, rfl, ⟨(.d rfl), (.d rfl), trivial⟩, trivial, .nil⟩ ?_
    rintro n1 ⟨s4, s5⟩ hI1
    obtain ⟨y_1, hm, hI1⟩ := iterS hI1
    replace hm : m_ref03_Bits_L1 n s4 s5 = some y_1 := hm
    unfold m_ref03_Bits_L1 at hm
    try dsimp only at hm
    refine AW.seq ?_
    refine AW.seqR ?_
    refine AL.s rfl (op_moveD (.e rfl)) ?_
    refine AL.s rfl (op_gtr (.r rfl) (.r rfl)) ?_
    refine AL.nil ?_
    refine AW.cond (b := _) rfl (fun hc2 => ?_) (fun hc2 => ?_)
    · replace hm := iteT hc2 hm
      refine AW.skip ?_
      refine nq ?_
      refine AW.seq ?_
      refine AW.block ?_
      refine AW.region ?_
      refine AL.s rfl (op_moveD (.e rfl)) ?_
      refine AL.s rfl (op_addw (.r rfl) (.r rfl)) ?_
      refine AL.s rfl (op_assignD (.e rfl)) ?_
      refine AL.nil ?_
      refine bq_n ?_
      refine nq ?_
      refine AW.region ?_
      refine AL.s rfl (op_moveD (.e rfl)) ?_
      obtain ⟨v6, hv6, hm⟩ := bindE hm
      refine AL.s rfl (op_quoM (.r rfl) (.r rfl) hv6) ?_
      refine AL.s rfl (op_assignD (.e rfl)) ?_
      refine AL.nil ?_
      obtain rfl := Option.some.inj hm
      exact nq ⟨_, hI1, ⟨[], rfl, rfl, rfl, ⟨(.d rfl), (.d rfl), trivial⟩, trivial, .nil⟩⟩
    · replace hm := iteF hc2 hm
      refine AW.exit ?_
      refine tq_exit ?_
      refine tq_exit ?_
      obtain rfl := Option.some.inj hm
      obtain rfl := Option.some.inj hI1
      replace hm := hk1
      try dsimp only at hm
      refine bq_hit ?_
      refine nq ?_
      refine AW.seqR ?_
      refine AL.s rfl (op_moveD (.e rfl)) ?_
      refine AL.s rfl (op_assignD (.e rfl)) ?_
      refine AL.nil ?_
      refine AW.ret ?_
      obtain rfl := Option.some.inj hm
      exact EndQ.d (.tmp (.e rfl) .nil) rfl rfl

set_option maxHeartbeats 20000000 in
theorem m_ref03_Shift_ok {n : Nat} {a1 : (List Int)} {a2 : Int} {r : ((List Int) × Int)} (hm : m_ref03_Shift n a1 a2 = some r) : Fn Tryz.prog 47 [(.sl (a1.map D.i)), (.int .i64 a2)] (.tup [(.sl (r.1.map D.i)), (.int .i64 r.2)]) := by
  unfold m_ref03_Shift at hm
  refine Fn.of_AW (fnn := Tryz.f47) Tryz.func47 rfl (Nat.le_of_ble_eq_true rfl) (fun g0 w0 hw0 => ?_)
  refine AW.seqR ?_
  refine AL.s rfl (op_assignN (.e rfl)) ?_
  refine AL.s rfl (op_assignD (.e rfl)) ?_
  refine AL.nil ?_
  refine AW.seq ?_
  refine AW.block ?_
  refine AW.seqR ?_
  refine AL.s rfl (op_moveD (.e rfl)) ?_
  obtain ⟨v3, hv3, hm⟩ := bindE hm
  refine AL.s rfl (op_fn Tryz.call79 (.e rfl) (.cons (.r rfl) .nil) (m_ref03_Valid_ok hv3)) ?_
  refine AL.s rfl (op_not (.r rfl)) ?_
  refine AL.s rfl (op_assignD (.e rfl)) ?_
  refine AL.nil ?_
  refine AW.cond (b := _) rfl (fun hc1 => ?_) (fun hc1 => ?_)
  · replace hm := iteT hc1 hm
    refine AW.seqR ?_
    refine AL.s rfl (op_assignN (.e rfl)) ?_
    refine AL.s rfl (op_assignD (.e rfl)) ?_
    refine AL.nil ?_
    refine AW.ret ?_
    refine bq_ret ?_
    refine tq_ret ?_
    obtain rfl := Option.some.inj hm
    exact EndQ.d (.tmp (.e rfl) (.tmp (.e rfl) .nil)) rfl rfl
  · replace hm := iteF hc1 hm
    refine AW.reset 0 [(0, .d (.sl (a1.map D.i))), (1, .d (.int .i64 a2))] [] (WOK.g0 hw0 (by simp)) ⟨[], rfl, rfl, rfl, ⟨(.d rfl), (.d rfl), trivial⟩, trivial, .nil⟩ ?_
    refine AW.seqR ?_
    refine AL.s rfl (op_moveD (.e rfl)) ?_
    refine AL.s rfl (op_lss (.r rfl) (.r rfl)) ?_
    refine AL.s rfl (op_moveD (.e rfl)) ?_
    refine AL.sF rfl rfl rfl rfl (fun g => op_moveD (.e rfl)) ?_
    refine AL.sF rfl rfl rfl rfl (fun g => op_gtr (.we (nt g) rfl rfl) (.r rfl)) ?_
    refine AL.s rfl (op_or (.r rfl) rfl (fun h => (.we (nt h) rfl rfl))) ?_
    refine AL.s rfl (op_assignD (.e rfl)) ?_
    refine AL.nil ?_
    refine AW.cond (b := _) rfl (fun hc2 => ?_) (fun hc2 => ?_)
    · replace hm := iteT hc2 hm
      refine AW.seqR ?_
      refine AL.s rfl (op_assignN (.e rfl)) ?_
      refine AL.s rfl (op_assignD (.e rfl)) ?_
      refine AL.nil ?_
      refine AW.ret ?_
      refine bq_ret ?_
      refine tq_ret ?_
      obtain rfl := Option.some.inj hm
      exact EndQ.d (.tmp (.e rfl) (.tmp (.e rfl) .nil)) rfl rfl
    · replace hm := iteF hc2 hm
      refine AW.skip ?_
      refine bq_n ?_
      refine nq ?_
      refine AW.free ?_
      refine AW.free ?_
      refine AW.seqD [([], []), ([], []), ([], [0]), ([], []), ([], []), ([], []), ([], []), ([], []), ([], []), ([0], [0, 1]), ([], [])] mo (by decide +kernel) ?_
      refine AD.s (ws := []) rfl rfl (fun H' _ hH => op_moveD (.e rfl)) ?_
      obtain ⟨v4, hv4, hm⟩ := bindE hm
      refine AD.s (ws := []) rfl rfl (fun H' _ hH => op_quoM (.r rfl) (.r rfl) hv4) ?_
      obtain ⟨v5, hv5, hm⟩ := bindE hm
      refine AD.s (ws := [(0, _)]) rfl rfl (fun H' _ hH => op_makeR (res := 0) (f := D.i) (.r rfl) sl52 zr3 rfl ((hH _ (by simp)).trans rfl) hv5) ?_
      refine AD.s (ws := []) rfl rfl (fun H' _ hH => op_moveD (.e rfl)) ?_
      refine AD.s (ws := []) rfl rfl (fun H' _ hH => op_moveD (.e rfl)) ?_
      obtain ⟨v6, hv6, hm⟩ := bindE hm
      refine AD.s (ws := []) rfl rfl (fun H' _ hH => op_remM (.r rfl) (.r rfl) hv6) ?_
      obtain ⟨v7, hv7, hm⟩ := bindE hm
      refine AD.s (ws := []) rfl rfl (fun H' _ hH => op_shlM (.r rfl) (.r rfl) hv7) ?_
      refine AD.s (ws := []) rfl rfl (fun H' _ hH => op_buildSlice (ds := ([v7] : List Int).map D.i) sl52 (.cons (.r rfl) rfl (En.i.one _) .nil) rfl (by decide)) ?_
      obtain ⟨v8, hv8, hm⟩ := bindE hm
      refine AD.s (ws := []) rfl rfl (fun H' _ hH => op_fn Tryz.call80 (.e rfl) (.cons (.r rfl) (.cons (.r rfl) .nil)) (m_ref03_times_ok hv8)) ?_
      obtain ⟨v9, hv9, hm⟩ := bindE hm
      refine AD.s (ws := [(0, _), (1, _)]) rfl rfl (fun H' _ hH => op_appendHRM (res := 1) (f := D.i) (l := v5) (l' := v8) sl52 (.e rfl) (.r rfl) ((hH _ (by simp)).trans rfl) rfl ((hH _ (by simp)).trans rfl) En.i hv9) ?_
      refine AD.s (ws := []) rfl rfl (fun H' _ hH => op_assignH (.e rfl)) ?_
      refine AD.nil ?_
      refine AW.freeze (f := D.i) (l := v9) 1 [6, 27] rfl rfl En.i ⟨rfl, rfl, trivial⟩ ?_
      refine AW.seqR ?_
      refine AL.s rfl (op_moveD (.e rfl)) ?_
      obtain ⟨v10, hv10, hm⟩ := bindE hm
      refine AL.s rfl (op_fn Tryz.call81 (.e rfl) (.cons (.r rfl) .nil) (m_ref03_limited_ok hv10)) ?_
      refine AL.s rfl (op_extractD (.e rfl) rfl) ?_
      refine AL.s rfl (op_extractD (.e rfl) rfl) ?_
      refine AL.s rfl (op_assignD (.e rfl)) ?_
      refine AL.s rfl (op_assignD (.e rfl)) ?_
      refine AL.nil ?_
      refine AW.ret ?_
      obtain rfl := Option.some.inj hm
      exact EndQ.d (.tmp (.e rfl) (.tmp (.e rfl) .nil)) rfl rfl

set_option maxHeartbeats 20000000 in
theorem m_ref03_Compare_ok {n : Nat} {a1 : (List Int)} {a2 : (List Int)} {r : Int} (hm : m_ref03_Compare n a1 a2 = some r) : Fn Tryz.prog 48 [(.sl (a1.map D.i)), (.sl (a2.map D.i))] (.int .i64 r) := by
  unfold m_ref03_Compare at hm
  refine Fn.of_AW (fnn := Tryz.f48) Tryz.func48 rfl (Nat.le_of_ble_eq_true rfl) (fun g0 w0 hw0 => ?_)
  refine AW.seqR ?_
  refine AL.s rfl (op_assignD (.e rfl)) ?_
  refine AL.nil ?_
  refine AW.seq ?_
  refine AW.seqR ?_
  refine AL.s rfl (op_moveD (.e rfl)) ?_
  obtain ⟨v3, hv3, hm⟩ := bindE hm
  refine AL.s rfl (op_fn Tryz.call79 (.e rfl) (.cons (.r rfl) .nil) (m_ref03_Valid_ok hv3)) ?_
  refine AL.s rfl (op_not (.r rfl)) ?_
  refine AL.s rfl (op_moveD (.e rfl)) ?_
  refine AL.sF rfl rfl rfl rfl (fun g => op_moveD (.e rfl)) ?_
  obtain ⟨v4, hv4, hm⟩ := bindE hm
  refine AL.sF rfl rfl rfl rfl (fun g => op_fn Tryz.call79 (.e rfl) (.cons (.we (nt g) rfl rfl) .nil) (m_ref03_Valid_ok (iteT (nt g) hv4))) ?_
  refine AL.sF rfl rfl rfl rfl (fun g => op_not (.we (nt g) rfl rfl)) ?_
  refine AL.s rfl (op_or (.r rfl) rfl (fun h => (.we (nt h) rfl rfl))) ?_
  refine AL.nil ?_
  refine AW.cond (b := _) rfl (fun hc1 => ?_) (fun hc1 => ?_)
  · replace hm := iteT hc1 hm
    refine AW.seqR ?_
    refine AL.s rfl (op_assignD (.e rfl)) ?_
    refine AL.nil ?_
    refine AW.ret ?_
    refine tq_ret ?_
    obtain rfl := Option.some.inj hm
    exact EndQ.d (.tmp (.e rfl) .nil) rfl rfl
  · replace hm := iteF hc1 hm
    refine AW.skip ?_
    refine nq ?_
    refine AW.seqR ?_
    refine AL.s rfl (op_moveD (.e rfl)) ?_
    refine AL.s rfl (op_moveD (.e rfl)) ?_
    obtain ⟨v5, hv5, hm⟩ := bindE hm
    refine AL.s rfl (op_fn Tryz.call82 (.e rfl) (.cons (.r rfl) (.cons (.r rfl) .nil)) (m_ref03_compare_ok hv5)) ?_
    refine AL.s rfl (op_assignD (.e rfl)) ?_
    refine AL.nil ?_
    refine AW.ret ?_
    obtain rfl := Option.some.inj hm
    exact EndQ.d (.tmp (.e rfl) .nil) rfl rfl

set_option maxHeartbeats 20000000 in
theorem m_ref28_Weight_ok {n : Nat} {a1 : (List SRatio)} {r : (Int × Int)} (hm : m_ref28_Weight n a1 = some r) : Fn Tryz.prog 21 [(.sl (a1.map SRatio.e))] (.tup [(.int .i64 r.1), (.int .i64 r.2)]) := by
  unfold m_ref28_Weight at hm
  refine Fn.of_AW (fnn := Tryz.f21) Tryz.func21 rfl (Nat.le_of_ble_eq_true rfl) (fun g0 w0 hw0 => ?_)
  refine AW.reset 0 [(0, .d (.sl (a1.map SRatio.e)))] [] (WOK.g0 hw0 (by simp)) ⟨[], rfl, rfl, rfl, ⟨(.d rfl), trivial⟩, trivial, .nil⟩ ?_
  refine AW.seqR ?_
  refine AL.s rfl (op_assignD (.e rfl)) ?_
  refine AL.s rfl (op_assignD (.e rfl)) ?_
  refine AL.nil ?_
  refine AW.seqR ?_
  refine AL.s rfl (op_moveD (.e rfl)) ?_
  obtain ⟨v2, hv2, hm⟩ := bindE hm
  refine AL.s rfl (op_fn Tryz.call44 (.e rfl) (.cons (.r rfl) .nil) (m_ref28_Product_ok hv2)) ?_
  refine AL.s rfl (op_moveD (.e rfl)) ?_
  refine AL.s rfl (op_extractD (.e rfl) rfl) ?_
  refine AL.s rfl (op_extractD (.e rfl) rfl) ?_
  refine AL.s rfl (op_extractD (.e rfl) rfl) ?_
  refine AL.s rfl (op_assignD (.e rfl)) ?_
  refine AL.s rfl (op_assignD (.e rfl)) ?_
  refine AL.s rfl (op_assignD (.e rfl)) ?_
  refine AL.nil ?_
  refine AW.seq ?_
  refine AW.seqR ?_
  refine AL.s rfl (op_moveD (.e rfl)) ?_
  refine AL.s rfl (op_neq (.r rfl) (.r rfl)) ?_
  refine AL.nil ?_
  refine AW.cond (b := _) rfl (fun hc1 => ?_) (fun hc1 => ?_)
  · replace hm := iteT hc1 hm
    refine AW.seqR ?_
    refine AL.s rfl (op_moveD (.e rfl)) ?_
    refine AL.s rfl (op_assignD (.e rfl)) ?_
    refine AL.s rfl (op_assignD (.e rfl)) ?_
    refine AL.nil ?_
    refine AW.ret ?_
    refine tq_ret ?_
    obtain rfl := Option.some.inj hm
    exact EndQ.d (.tmp (.e rfl) (.tmp (.e rfl) .nil)) rfl rfl
  · replace hm := iteF hc1 hm
    refine AW.skip ?_
    refine nq ?_
    refine AW.seqR ?_
    refine AL.s rfl (op_moveD (.e rfl)) ?_
    obtain ⟨v3, hv3, hm⟩ := bindE hm
    refine AL.s rfl (op_fn Tryz.call45 (.e rfl) (.cons (.r rfl) (.cons (.r rfl) .nil)) (m_ref03_Power_ok hv3)) ?_
    refine AL.s rfl (op_moveD (.e rfl)) ?_
    refine AL.s rfl (op_extractD (.e rfl) rfl) ?_
    refine AL.s rfl (op_extractD (.e rfl) rfl) ?_
    refine AL.s rfl (op_assignD (.e rfl)) ?_
    refine AL.s rfl (op_assignD (.e rfl)) ?_
    refine AL.nil ?_
    refine AW.seqR ?_
    refine AL.s rfl (op_moveD (.e rfl)) ?_
    obtain ⟨v4, hv4, hm⟩ := bindE hm
    refine AL.s rfl (op_fn Tryz.call45 (.e rfl) (.cons (.r rfl) (.cons (.r rfl) .nil)) (m_ref03_Power_ok hv4)) ?_
    refine AL.s rfl (op_moveD (.e rfl)) ?_
    refine AL.s rfl (op_extractD (.e rfl) rfl) ?_
    refine AL.s rfl (op_extractD (.e rfl) rfl) ?_
    refine AL.s rfl (op_assignD (.e rfl)) ?_
    refine AL.s rfl (op_assignD (.e rfl)) ?_
    refine AL.nil ?_
    refine AW.seqR ?_
    refine AL.s rfl (op_moveD (.e rfl)) ?_
    obtain ⟨v5, hv5, hm⟩ := bindE hm
    refine AL.s rfl (op_fn Tryz.call46 (.e rfl) (.cons (.r rfl) .nil) (m_ref03_Bits_ok hv5)) ?_
    refine AL.s rfl (op_moveD (.e rfl)) ?_
    obtain ⟨v6, hv6, hm⟩ := bindE hm
    refine AL.s rfl (op_fn Tryz.call46 (.e rfl) (.cons (.r rfl) .nil) (m_ref03_Bits_ok hv6)) ?_
    refine AL.s rfl (op_subw (.r rfl) (.r rfl)) ?_
    refine AL.s rfl (op_assignD (.e rfl)) ?_
    refine AL.nil ?_
    refine AW.seqR ?_
    refine AL.s rfl (op_moveD (.e rfl)) ?_
    refine AL.s rfl (op_moveD (.e rfl)) ?_
    refine AL.s rfl (op_assignD (.e rfl)) ?_
    refine AL.s rfl (op_assignD (.e rfl)) ?_
    refine AL.nil ?_
    obtain ⟨t_j1, hm, hkj1⟩ := bindE hm
    refine AW.cutS (α := ((List Int) × (List Int))) 0 (fun x => x = t_j1) (fun x => [(11, .d (.int .i64 (IntKind.i64.wrap (v5 - v6)))), (12, .d (.sl (x.1.map D.i))), (13, .d (.sl (x.2.map D.i)))]) (fun x => []) (WOK.g0 hw0 (by simp)) ?_ ?_
    · skip
      refine AW.reset 0 [(7, .d (.sl (v3.1.map D.i))), (9, .d (.sl (v4.1.map D.i))), (11, .d (.int .i64 (IntKind.i64.wrap (v5 - v6)))), (12, .d (.sl (v3.1.map D.i))), (13, .d (.sl (v4.1.map D.i)))] [] (WOK.g0 hw0 (by simp)) ⟨[], rfl, rfl, rfl, ⟨(.d rfl), (.d rfl), (.d rfl), (.d rfl), (.d rfl), trivial⟩, trivial, .nil⟩ ?_
      refine AW.seqR ?_
      refine AL.s rfl (op_moveD (.e rfl)) ?_
      refine AL.s rfl (op_gtr (.r rfl) (.r rfl)) ?_
      refine AL.nil ?_
      refine AW.cond (b := _) rfl (fun hc2 => ?_) (fun hc2 => ?_)
      · replace hm := iteT hc2 hm
        refine AW.region ?_
        refine AL.s rfl (op_moveD (.e rfl)) ?_
        refine AL.s rfl (op_moveD (.e rfl)) ?_
        obtain ⟨v7, hv7, hm⟩ := bindE hm
        refine AL.s rfl (op_fn Tryz.call47 (.e rfl) (.cons (.r rfl) (.cons (.r rfl) .nil)) (m_ref03_Shift_ok hv7)) ?_
        refine AL.s rfl (op_moveD (.e rfl)) ?_
        refine AL.s rfl (op_extractD (.e rfl) rfl) ?_
        refine AL.s rfl (op_extractD (.e rfl) rfl) ?_
        refine AL.s rfl (op_assignD (.e rfl)) ?_
        refine AL.nil ?_
        obtain rfl := Option.some.inj hm
        exact nq ⟨_, rfl, ⟨[], rfl, rfl, rfl, ⟨(.d rfl), (.d rfl), (.d rfl), trivial⟩, trivial, .nil⟩⟩
      · replace hm := iteF hc2 hm
        refine AW.region ?_
        refine AL.s rfl (op_moveD (.e rfl)) ?_
        refine AL.s rfl (op_moveD (.e rfl)) ?_
        refine AL.s rfl (op_negw (.r rfl)) ?_
        obtain ⟨v8, hv8, hm⟩ := bindE hm
        refine AL.s rfl (op_fn Tryz.call47 (.e rfl) (.cons (.r rfl) (.cons (.r rfl) .nil)) (m_ref03_Shift_ok hv8)) ?_
        refine AL.s rfl (op_moveD (.e rfl)) ?_
        refine AL.s rfl (op_extractD (.e rfl) rfl) ?_
        refine AL.s rfl (op_extractD (.e rfl) rfl) ?_
        refine AL.s rfl (op_assignD (.e rfl)) ?_
        refine AL.nil ?_
        obtain rfl := Option.some.inj hm
        exact nq ⟨_, rfl, ⟨[], rfl, rfl, rfl, ⟨(.d rfl), (.d rfl), (.d rfl), trivial⟩, trivial, .nil⟩⟩
    · rintro ⟨s9, s10⟩ rfl
      replace hm := hkj1
      try dsimp only at hm
      obtain ⟨t_j2, hm, hkj2⟩ := bindE hm
      refine AW.cutS (α := Int) 0 (fun x => x = t_j2) (fun x => [(11, .d (.int .i64 x))]) (fun x => []) (WOK.g0 hw0 (by simp)) ?_ ?_
      · skip
        refine AW.seqR ?_
        refine AL.s rfl (op_moveD (.e rfl)) ?_
        refine AL.s rfl (op_moveD (.e rfl)) ?_
        obtain ⟨v11, hv11, hm⟩ := bindE hm
        refine AL.s rfl (op_fn Tryz.call48 (.e rfl) (.cons (.r rfl) (.cons (.r rfl) .nil)) (m_ref03_Compare_ok hv11)) ?_
        refine AL.s rfl (op_lss (.r rfl) (.r rfl)) ?_
        refine AL.nil ?_
        refine AW.cond (b := _) rfl (fun hc3 => ?_) (fun hc3 => ?_)
        · replace hm := iteT hc3 hm
          refine AW.region ?_
          refine AL.s rfl (op_moveD (.e rfl)) ?_
          refine AL.s rfl (op_subw (.r rfl) (.r rfl)) ?_
          refine AL.s rfl (op_assignD (.e rfl)) ?_
          refine AL.nil ?_
          obtain rfl := Option.some.inj hm
          exact nq ⟨_, rfl, ⟨[], rfl, rfl, rfl, ⟨(.d rfl), trivial⟩, trivial, .nil⟩⟩
        · replace hm := iteF hc3 hm
          refine AW.skip ?_
          obtain rfl := Option.some.inj hm
          exact nq ⟨_, rfl, ⟨[], rfl, rfl, rfl, ⟨(.d rfl), trivial⟩, trivial, .nil⟩⟩
      · rintro s12 rfl
        replace hm := hkj2
        try dsimp only at hm
        refine AW.seqR ?_
        refine AL.s rfl (op_moveD (.e rfl)) ?_
        refine AL.s rfl (op_assignD (.e rfl)) ?_
        refine AL.s rfl (op_assignD (.e rfl)) ?_
        refine AL.nil ?_
        refine AW.ret ?_
        obtain rfl := Option.some.inj hm
        exact EndQ.d (.tmp (.e rfl) (.tmp (.e rfl) .nil)) rfl rfl

set_option maxHeartbeats 20000000 in
theorem m_ref31_Weight_ok {n : Nat} {a1 : A72} {a2 : A7} {r : (Int × Int)} (hm : m_ref31_Weight n a1 a2 = some r) : Fn Tryz.prog 9 [(A72.e a1), (A7.e a2)] (.tup [(.int .i64 r.1), (.int .i64 r.2)]) := by
  unfold m_ref31_Weight at hm
  refine Fn.of_AW (fnn := Tryz.f9) Tryz.func9 rfl (Nat.le_of_ble_eq_true rfl) (fun g0 w0 hw0 => ?_)
  refine AW.seqR ?_
  refine AL.s rfl (op_box (n := 0) (.e rfl) rfl rfl rfl) ?_
  refine AL.s rfl (op_box (n := 1) (.e rfl) rfl rfl rfl) ?_
  refine AL.s rfl (op_assignD (.e rfl)) ?_
  refine AL.s rfl (op_assignD (.e rfl)) ?_
  refine AL.nil ?_
  refine AW.seqR ?_
  refine AL.s rfl (op_load_ptrA (.e rfl) rfl rfl rfl ag26) ?_
  refine AL.s rfl (op_load_ptrA (.e rfl) rfl rfl rfl ag28) ?_
  obtain ⟨v3, hv3, hm⟩ := bindE hm
  refine AL.s rfl (op_fn Tryz.call7 (.e rfl) (.cons (.r rfl) (.cons (.r rfl) .nil)) (m_ref31_Factors_ok hv3)) ?_
  refine AL.s rfl (op_moveD (.e rfl)) ?_
  refine AL.s rfl (op_extractD (.e rfl) rfl) ?_
  refine AL.s rfl (op_extractD (.e rfl) rfl) ?_
  refine AL.s rfl (op_assignD (.e rfl)) ?_
  refine AL.s rfl (op_assignD (.e rfl)) ?_
  refine AL.nil ?_
  refine AW.seq ?_
  refine AW.seqR ?_
  refine AL.s rfl (op_moveD (.e rfl)) ?_
  refine AL.s rfl (op_neq (.r rfl) (.r rfl)) ?_
  refine AL.nil ?_
  refine AW.cond (b := _) rfl (fun hc1 => ?_) (fun hc1 => ?_)
  · replace hm := iteT hc1 hm
    refine AW.seqR ?_
    refine AL.s rfl (op_moveD (.e rfl)) ?_
    refine AL.s rfl (op_assignD (.e rfl)) ?_
    refine AL.s rfl (op_assignD (.e rfl)) ?_
    refine AL.nil ?_
    refine AW.ret ?_
    refine tq_ret ?_
    obtain rfl := Option.some.inj hm
    exact EndQ.d (.tmp (.e rfl) (.tmp (.e rfl) .nil)) rfl rfl
  · replace hm := iteF hc1 hm
    refine AW.skip ?_
    refine nq ?_
    refine AW.seqR ?_
    refine AL.s rfl (op_moveD (.e rfl)) ?_
    obtain ⟨v4, hv4, hm⟩ := bindE hm
    refine AL.s rfl (op_fn Tryz.call21 (.e rfl) (.cons (.r rfl) .nil) (m_ref28_Weight_ok hv4)) ?_
    refine AL.s rfl (op_extractD (.e rfl) rfl) ?_
    refine AL.s rfl (op_extractD (.e rfl) rfl) ?_
    refine AL.s rfl (op_assignD (.e rfl)) ?_
    refine AL.s rfl (op_assignD (.e rfl)) ?_
    refine AL.nil ?_
    refine AW.ret ?_
    obtain rfl := Option.some.inj hm
    exact EndQ.d (.tmp (.e rfl) (.tmp (.e rfl) .nil)) rfl rfl

set_option maxHeartbeats 20000000 in
theorem m_match_Explain_ok {n : Nat} {a1 : A72} {a2 : A7} {r : ((List (List UInt8)) × Int)} (hm : m_match_Explain n a1 a2 = some r) : Fn Tryz.prog 10 [(A72.e a1), (A7.e a2)] (.tup [(.sl (r.1.map D.str)), (.int .i64 r.2)]) := by
  unfold m_match_Explain at hm
  refine Fn.of_AW (fnn := Tryz.f10) Tryz.func10 rfl (Nat.le_of_ble_eq_true rfl) (fun g0 w0 hw0 => ?_)
  refine AW.reset 0 [(0, .d (A72.e a1)), (1, .d (A7.e a2))] [] (WOK.g0 hw0 (by simp)) ⟨[], rfl, rfl, rfl, ⟨(.d rfl), (.d rfl), trivial⟩, trivial, .nil⟩ ?_
  refine AW.seqR ?_
  refine AL.s rfl (op_box (n := 0) (.e rfl) rfl rfl rfl) ?_
  refine AL.s rfl (op_box (n := 1) (.e rfl) rfl rfl rfl) ?_
  refine AL.s rfl (op_assignN (.e rfl)) ?_
  refine AL.s rfl (op_assignD (.e rfl)) ?_
  refine AL.nil ?_
  refine AW.seq ?_
  refine AW.seqR ?_
  refine AL.s rfl (op_load_ptrA (.e rfl) rfl rfl rfl ag37) ?_
  refine AL.s rfl (op_load_ptrA (.e rfl) rfl rfl rfl ag39) ?_
  obtain ⟨v3, hv3, hm⟩ := bindE hm
  refine AL.s rfl (op_fn Tryz.call5 (.e rfl) (.cons (.r rfl) (.cons (.r rfl) .nil)) (m_match_Factors_ok hv3)) ?_
  refine AL.s rfl (op_moveD (.e rfl)) ?_
  refine AL.s rfl (op_extractD (.e rfl) rfl) ?_
  refine AL.s rfl (op_extractD (.e rfl) rfl) ?_
  refine AL.s rfl (op_assignD (.e rfl)) ?_
  refine AL.s rfl (op_assignD (.e rfl)) ?_
  refine AL.nil ?_
  refine AW.seqR ?_
  refine AL.s rfl (op_moveD (.e rfl)) ?_
  refine AL.s rfl (op_neq (.r rfl) (.r rfl)) ?_
  refine AL.nil ?_
  refine AW.cond (b := _) rfl (fun hc1 => ?_) (fun hc1 => ?_)
  · replace hm := iteT hc1 hm
    refine AW.seqR ?_
    refine AL.s rfl (op_moveD (.e rfl)) ?_
    refine AL.s rfl (op_assignN (.e rfl)) ?_
    refine AL.s rfl (op_assignD (.e rfl)) ?_
    refine AL.nil ?_
    refine AW.ret ?_
    refine tq_ret ?_
    obtain rfl := Option.some.inj hm
    exact EndQ.d (.tmp (.e rfl) (.tmp (.e rfl) .nil)) rfl rfl
  · replace hm := iteF hc1 hm
    refine AW.skip ?_
    refine nq ?_
    refine AW.seqR ?_
    refine AL.s rfl (op_buildArrF ba64 (.cons (.e rfl) rfl rfl rfl rfl (Nat.le_of_ble_eq_true rfl) (.cons (.e rfl) rfl rfl rfl rfl (Nat.le_of_ble_eq_true rfl) (.cons (.e rfl) rfl rfl rfl rfl (Nat.le_of_ble_eq_true rfl) (.cons (.e rfl) rfl rfl rfl rfl (Nat.le_of_ble_eq_true rfl) (.cons (.e rfl) rfl rfl rfl rfl (Nat.le_of_ble_eq_true rfl) (.cons (.e rfl) rfl rfl rfl rfl (Nat.le_of_ble_eq_true rfl) (.cons (.e rfl) rfl rfl rfl rfl (Nat.le_of_ble_eq_true rfl) .nil))))))) rfl rfl) ?_
    refine AL.s rfl (op_alloc (n := 2) zr64 rfl) ?_
    refine AL.s rfl (op_storeA (.e rfl) (.e rfl) rfl rfl ⟨_, rfl, rfl⟩ rfl (Nat.le_of_ble_eq_true rfl)) ?_
    refine AL.nil ?_
    refine AW.seqR ?_
    refine AL.s rfl (op_buildArrF ba65 (.cons (.e rfl) rfl rfl rfl rfl (Nat.le_of_ble_eq_true rfl) (.cons (.e rfl) rfl rfl rfl rfl (Nat.le_of_ble_eq_true rfl) (.cons (.e rfl) rfl rfl rfl rfl (Nat.le_of_ble_eq_true rfl) (.cons (.e rfl) rfl rfl rfl rfl (Nat.le_of_ble_eq_true rfl) .nil)))) rfl rfl) ?_
    refine AL.s rfl (op_alloc (n := 3) zr65 rfl) ?_
    refine AL.s rfl (op_storeA (.e rfl) (.e rfl) rfl rfl ⟨_, rfl, rfl⟩ rfl (Nat.le_of_ble_eq_true rfl)) ?_
    refine AL.nil ?_
    refine AW.seqR ?_
    refine AL.s rfl (op_assignN (.e rfl)) ?_
    refine AL.nil ?_
    refine AW.seq ?_
    refine AW.seqR ?_
    refine AL.s rfl (op_load_ptrA (.e rfl) rfl rfl rfl ag39) ?_
    refine AL.s rfl (op_moveD (.e rfl)) ?_
    refine AL.nil ?_
    refine AW.block ?_
    refine AW.tokenize (n := 4) 10 9 1 rfl rfl (by simp) ?_
    obtain ⟨t_1, hI1, hk1⟩ := bindE hm
    refine AW.loopS (σ := ((List (List UInt8)) × Int)) (τ := (List (List UInt8))) 0 (fun x => [(2, .ptr 0 0), (8, .ptr 2 0), (9, .ptr 3 0), (10, .tk 4 (x.1.map D.str)), (25, .d (A7.e (⟨a2.e0, a2.e1, a2.e2, a2.e3, a2.e4, a2.e5, a2.e6⟩ : A7))), (26, .d (.int .i64 x.2))]) (fun x => [.row [.d (.int .i64 a1.e0.e0.fNum), .d (.int .i64 a1.e0.e0.fDen), .d (.int .i64 a1.e0.e1.fNum), .d (.int .i64 a1.e0.e1.fDen), .d (.int .i64 a1.e0.e2.fNum), .d (.int .i64 a1.e0.e2.fDen), .d (.int .i64 a1.e1.e0.fNum), .d (.int .i64 a1.e1.e0.fDen), .d (.int .i64 a1.e1.e1.fNum), .d (.int .i64 a1.e1.e1.fDen), .d (.int .i64 a1.e1.e2.fNum), .d (.int .i64 a1.e1.e2.fDen), .d (.int .i64 a1.e2.e0.fNum), .d (.int .i64 a1.e2.e0.fDen), .d (.int .i64 a1.e2.e1.fNum), .d (.int .i64 a1.e2.e1.fDen), .d (.int .i64 a1.e2.e2.fNum), .d (.int .i64 a1.e2.e2.fDen), .d (.int .i64 a1.e3.e0.fNum), .d (.int .i64 a1.e3.e0.fDen), .d (.int .i64 a1.e3.e1.fNum), .d (.int .i64 a1.e3.e1.fDen), .d (.int .i64 a1.e3.e2.fNum), .d (.int .i64 a1.e3.e2.fDen), .d (.int .i64 a1.e4.e0.fNum), .d (.int .i64 a1.e4.e0.fDen), .d (.int .i64 a1.e4.e1.fNum), .d (.int .i64 a1.e4.e1.fDen), .d (.int .i64 a1.e4.e2.fNum), .d (.int .i64 a1.e4.e2.fDen), .d (.int .i64 a1.e5.e0.fNum), .d (.int .i64 a1.e5.e0.fDen), .d (.int .i64 a1.e5.e1.fNum), .d (.int .i64 a1.e5.e1.fDen), .d (.int .i64 a1.e5.e2.fNum), .d (.int .i64 a1.e5.e2.fDen), .d (.int .i64 a1.e6.e0.fNum), .d (.int .i64 a1.e6.e0.fDen), .d (.int .i64 a1.e6.e1.fNum), .d (.int .i64 a1.e6.e1.fDen), .d (.int .i64 a1.e6.e2.fNum), .d (.int .i64 a1.e6.e2.fDen)], .row [.d (.int .i64 a2.e0), .d (.int .i64 a2.e1), .d (.int .i64 a2.e2), .d (.int .i64 a2.e3), .d (.int .i64 a2.e4), .d (.int .i64 a2.e5), .d (.int .i64 a2.e6)], .row [.d (.str ([116, 105, 116, 108, 101] : List UInt8)), .d (.str ([97, 117, 116, 104, 111, 114] : List UInt8)), .d (.str ([121, 101, 97, 114] : List UInt8)), .d (.str ([105, 115, 98, 110] : List UInt8)), .d (.str ([108, 97, 110, 103, 117, 97, 103, 101] : List UInt8)), .d (.str ([112, 117, 98, 108, 105, 115, 104, 101, 114] : List UInt8)), .d (.str ([101, 100, 105, 116, 105, 111, 110] : List UInt8))], .row [.d (.str ([] : List UInt8)), .d (.str ([97, 103, 114, 101, 101, 115] : List UInt8)), .d (.str ([110, 101, 97, 114] : List UInt8)), .d (.str ([100, 105, 102, 102, 101, 114, 115] : List UInt8))], .tok x.1.length 9 1]) hI1 (WOK.g0 hw0 (by simp)) ⟨[0, 1, 2, 3, 4], rfl, rfl, rfl, ⟨(.ptr rfl), (.ptr rfl), (.ptr rfl), (.tk rfl), (.d rfl), (.d rfl), trivial⟩, trivial, (.row rfl (.cons (.d rfl) (.cons (.d rfl) (.cons (.d rfl) (.cons (.d rfl) (.cons (.d rfl) (.cons (.d rfl) (.cons (.d rfl) (.cons (.d rfl) (.cons (.d rfl) (.cons (.d rfl) (.cons (.d rfl) (.cons (.d rfl) (.cons (.d rfl) (.cons (.d rfl) (.cons (.d rfl) (.cons (.d rfl) (.cons (.d rfl) (.cons (.d rfl) (.cons (.d rfl) (.cons (.d rfl) (.cons (.d rfl) (.cons (.d rfl) (.cons (.d rfl) (.cons (.d rfl) (.cons (.d rfl) (.cons (.d rfl) (.cons (.d rfl) (.cons (.d rfl) (.cons (.d rfl) (.cons (.d rfl) (.cons (.d rfl) (.cons (.d rfl) (.cons (.d rfl) (.cons (.d rfl) (.cons (.d rfl) (.cons (.d rfl) (.cons (.d rfl) (.cons (.d rfl) (.cons (.d rfl) (.cons (.d rfl) (.cons (.d rfl) (.cons (.d rfl) .nil)))))))))))))))))))))))))))))))))))))))))) (.row rfl (.cons (.d rfl) (.cons (.d rfl) (.cons (.d rfl) (.cons (.d rfl) (.cons (.d rfl) (.cons (.d rfl) (.cons (.d rfl) .nil))))))) (.row rfl (.cons (.d rfl) (.cons (.d rfl) (.cons (.d rfl) (.cons (.d rfl) (.cons (.d rfl) (.cons (.d rfl) (.cons (.d rfl) .nil))))))) (.row rfl (.cons (.d rfl) (.cons (.d rfl) (.cons (.d rfl) (.cons (.d rfl) .nil)))) (.tok rfl .nil)))))⟩ ?_
    rintro n1 ⟨s4, s5⟩ hI1
    obtain ⟨y_1, hm, hI1⟩ := iterS hI1
    replace hm : m_match_Explain_L1 n _ _ s4 s5 = some y_1 := hm
    unfold m_match_Explain_L1 at hm
    try dsimp only at hm
    refine AW.seqR ?_
    refine AL.s rfl (op_lss (.r rfl) (.r rfl)) ?_
    refine AL.nil ?_
    refine AW.seq ?_
    refine AW.cond (b := _) rfl (fun hc2 => ?_) (fun hc2 => ?_)
    · replace hm := iteT hc2 hm
      refine AW.skip ?_
      refine nq ?_
      obtain ⟨t_j1, hm, hkj1⟩ := bindE hm
      refine AW.cutS (α := (List (List UInt8))) 0 (fun x => x = t_j1) (fun x => [(2, .ptr 0 0), (8, .ptr 2 0), (9, .ptr 3 0), (10, .tk 4 (x.map D.str)), (25, .d (A7.e (⟨a2.e0, a2.e1, a2.e2, a2.e3, a2.e4, a2.e5, a2.e6⟩ : A7))), (26, .d (.int .i64 s5))]) (fun x => [.row [.d (.int .i64 a1.e0.e0.fNum), .d (.int .i64 a1.e0.e0.fDen), .d (.int .i64 a1.e0.e1.fNum), .d (.int .i64 a1.e0.e1.fDen), .d (.int .i64 a1.e0.e2.fNum), .d (.int .i64 a1.e0.e2.fDen), .d (.int .i64 a1.e1.e0.fNum), .d (.int .i64 a1.e1.e0.fDen), .d (.int .i64 a1.e1.e1.fNum), .d (.int .i64 a1.e1.e1.fDen), .d (.int .i64 a1.e1.e2.fNum), .d (.int .i64 a1.e1.e2.fDen), .d (.int .i64 a1.e2.e0.fNum), .d (.int .i64 a1.e2.e0.fDen), .d (.int .i64 a1.e2.e1.fNum), .d (.int .i64 a1.e2.e1.fDen), .d (.int .i64 a1.e2.e2.fNum), .d (.int .i64 a1.e2.e2.fDen), .d (.int .i64 a1.e3.e0.fNum), .d (.int .i64 a1.e3.e0.fDen), .d (.int .i64 a1.e3.e1.fNum), .d (.int .i64 a1.e3.e1.fDen), .d (.int .i64 a1.e3.e2.fNum), .d (.int .i64 a1.e3.e2.fDen), .d (.int .i64 a1.e4.e0.fNum), .d (.int .i64 a1.e4.e0.fDen), .d (.int .i64 a1.e4.e1.fNum), .d (.int .i64 a1.e4.e1.fDen), .d (.int .i64 a1.e4.e2.fNum), .d (.int .i64 a1.e4.e2.fDen), .d (.int .i64 a1.e5.e0.fNum), .d (.int .i64 a1.e5.e0.fDen), .d (.int .i64 a1.e5.e1.fNum), .d (.int .i64 a1.e5.e1.fDen), .d (.int .i64 a1.e5.e2.fNum), .d (.int .i64 a1.e5.e2.fDen), .d (.int .i64 a1.e6.e0.fNum), .d (.int .i64 a1.e6.e0.fDen), .d (.int .i64 a1.e6.e1.fNum), .d (.int .i64 a1.e6.e1.fDen), .d (.int .i64 a1.e6.e2.fNum), .d (.int .i64 a1.e6.e2.fDen)], .row [.d (.int .i64 a2.e0), .d (.int .i64 a2.e1), .d (.int .i64 a2.e2), .d (.int .i64 a2.e3), .d (.int .i64 a2.e4), .d (.int .i64 a2.e5), .d (.int .i64 a2.e6)], .row [.d (.str ([116, 105, 116, 108, 101] : List UInt8)), .d (.str ([97, 117, 116, 104, 111, 114] : List UInt8)), .d (.str ([121, 101, 97, 114] : List UInt8)), .d (.str ([105, 115, 98, 110] : List UInt8)), .d (.str ([108, 97, 110, 103, 117, 97, 103, 101] : List UInt8)), .d (.str ([112, 117, 98, 108, 105, 115, 104, 101, 114] : List UInt8)), .d (.str ([101, 100, 105, 116, 105, 111, 110] : List UInt8))], .row [.d (.str ([] : List UInt8)), .d (.str ([97, 103, 114, 101, 101, 115] : List UInt8)), .d (.str ([110, 101, 97, 114] : List UInt8)), .d (.str ([100, 105, 102, 102, 101, 114, 115] : List UInt8))], .tok x.length 9 1]) (WOK.g0 hw0 (by simp)) ?_ ?_
      · skip
        refine AW.block ?_
        refine AW.seqR ?_
        refine AL.s rfl (op_moveD (.e rfl)) ?_
        obtain ⟨v6, hv6, hm⟩ := bindE hm
        refine AL.s rfl (op_indexAgg (f := D.i) (l := (⟨a2.e0, a2.e1, a2.e2, a2.e3, a2.e4, a2.e5, a2.e6⟩ : A7).l) (s := 1) (.r rfl) rfl En.i (.r rfl) hv6 rfl Tryz.underlying39 (.inl ⟨sc3, fun _ => rfl⟩) ⟨_, rfl, rfl⟩) ?_
        refine AL.s rfl (op_assignD (.e rfl)) ?_
        refine AL.s rfl (op_assignD (.e rfl)) ?_
        refine AL.nil ?_
        refine AW.reset 0 [(2, .ptr 0 0), (8, .ptr 2 0), (9, .ptr 3 0), (10, .tk 4 (s4.map D.str)), (11, .d (.int .i64 s5)), (12, .d (.int .i64 v6)), (25, .d (A7.e (⟨a2.e0, a2.e1, a2.e2, a2.e3, a2.e4, a2.e5, a2.e6⟩ : A7))), (26, .d (.int .i64 s5))] [.row [.d (.int .i64 a1.e0.e0.fNum), .d (.int .i64 a1.e0.e0.fDen), .d (.int .i64 a1.e0.e1.fNum), .d (.int .i64 a1.e0.e1.fDen), .d (.int .i64 a1.e0.e2.fNum), .d (.int .i64 a1.e0.e2.fDen), .d (.int .i64 a1.e1.e0.fNum), .d (.int .i64 a1.e1.e0.fDen), .d (.int .i64 a1.e1.e1.fNum), .d (.int .i64 a1.e1.e1.fDen), .d (.int .i64 a1.e1.e2.fNum), .d (.int .i64 a1.e1.e2.fDen), .d (.int .i64 a1.e2.e0.fNum), .d (.int .i64 a1.e2.e0.fDen), .d (.int .i64 a1.e2.e1.fNum), .d (.int .i64 a1.e2.e1.fDen), .d (.int .i64 a1.e2.e2.fNum), .d (.int .i64 a1.e2.e2.fDen), .d (.int .i64 a1.e3.e0.fNum), .d (.int .i64 a1.e3.e0.fDen), .d (.int .i64 a1.e3.e1.fNum), .d (.int .i64 a1.e3.e1.fDen), .d (.int .i64 a1.e3.e2.fNum), .d (.int .i64 a1.e3.e2.fDen), .d (.int .i64 a1.e4.e0.fNum), .d (.int .i64 a1.e4.e0.fDen), .d (.int .i64 a1.e4.e1.fNum), .d (.int .i64 a1.e4.e1.fDen), .d (.int .i64 a1.e4.e2.fNum), .d (.int .i64 a1.e4.e2.fDen), .d (.int .i64 a1.e5.e0.fNum), .d (.int .i64 a1.e5.e0.fDen), .d (.int .i64 a1.e5.e1.fNum), .d (.int .i64 a1.e5.e1.fDen), .d (.int .i64 a1.e5.e2.fNum), .d (.int .i64 a1.e5.e2.fDen), .d (.int .i64 a1.e6.e0.fNum), .d (.int .i64 a1.e6.e0.fDen), .d (.int .i64 a1.e6.e1.fNum), .d (.int .i64 a1.e6.e1.fDen), .d (.int .i64 a1.e6.e2.fNum), .d (.int .i64 a1.e6.e2.fDen)], .row [.d (.int .i64 a2.e0), .d (.int .i64 a2.e1), .d (.int .i64 a2.e2), .d (.int .i64 a2.e3), .d (.int .i64 a2.e4), .d (.int .i64 a2.e5), .d (.int .i64 a2.e6)], .row [.d (.str ([116, 105, 116, 108, 101] : List UInt8)), .d (.str ([97, 117, 116, 104, 111, 114] : List UInt8)), .d (.str ([121, 101, 97, 114] : List UInt8)), .d (.str ([105, 115, 98, 110] : List UInt8)), .d (.str ([108, 97, 110, 103, 117, 97, 103, 101] : List UInt8)), .d (.str ([112, 117, 98, 108, 105, 115, 104, 101, 114] : List UInt8)), .d (.str ([101, 100, 105, 116, 105, 111, 110] : List UInt8))], .row [.d (.str ([] : List UInt8)), .d (.str ([97, 103, 114, 101, 101, 115] : List UInt8)), .d (.str ([110, 101, 97, 114] : List UInt8)), .d (.str ([100, 105, 102, 102, 101, 114, 115] : List UInt8))], .tok s4.length 9 1] (WOK.g0 hw0 (by simp)) ⟨[0, 1, 2, 3, 4], rfl, rfl, rfl, ⟨(.ptr rfl), (.ptr rfl), (.ptr rfl), (.tk rfl), (.d rfl), (.d rfl), (.d rfl), (.d rfl), trivial⟩, trivial, (.row rfl (.cons (.d rfl) (.cons (.d rfl) (.cons (.d rfl) (.cons (.d rfl) (.cons (.d rfl) (.cons (.d rfl) (.cons (.d rfl) (.cons (.d rfl) (.cons (.d rfl) (.cons (.d rfl) (.cons (.d rfl) (.cons (.d rfl) (.cons (.d rfl) (.cons (.d rfl) (.cons (.d rfl) (.cons (.d rfl) (.cons (.d rfl) (.cons (.d rfl) (.cons (.d rfl) (.cons (.d rfl) (.cons (.d rfl) (.cons (.d rfl) (.cons (.d rfl) (.cons (.d rfl) (.cons (.d rfl) (.cons (.d rfl) (.cons (.d rfl) (.cons (.d rfl) (.cons (.d rfl) (.cons (.d rfl) (.cons (.d rfl) (.cons (.d rfl) (.cons (.d rfl) (.cons (.d rfl) (.cons (.d rfl) (.cons (.d rfl) (.cons (.d rfl) (.cons (.d rfl) (.cons (.d rfl) (.cons (.d rfl) (.cons (.d rfl) (.cons (.d rfl) .nil)))))))))))))))))))))))))))))))))))))))))) (.row rfl (.cons (.d rfl) (.cons (.d rfl) (.cons (.d rfl) (.cons (.d rfl) (.cons (.d rfl) (.cons (.d rfl) (.cons (.d rfl) .nil))))))) (.row rfl (.cons (.d rfl) (.cons (.d rfl) (.cons (.d rfl) (.cons (.d rfl) (.cons (.d rfl) (.cons (.d rfl) (.cons (.d rfl) .nil))))))) (.row rfl (.cons (.d rfl) (.cons (.d rfl) (.cons (.d rfl) (.cons (.d rfl) .nil)))) (.tok rfl .nil)))))⟩ ?_
        refine AW.seqR ?_
        refine AL.s rfl (op_moveD (.e rfl)) ?_
        refine AL.s rfl (op_neq (.r rfl) (.r rfl)) ?_
        refine AL.nil ?_
        refine AW.cond (b := _) rfl (fun hc3 => ?_) (fun hc3 => ?_)
        · replace hm := iteT hc3 hm
          refine AW.seqR ?_
          refine AL.s rfl (op_moveD (.e rfl)) ?_
          refine AL.s rfl (op_moveD (.e rfl)) ?_
          refine AL.s rfl (op_subw (.r rfl) (.r rfl)) ?_
          obtain ⟨v7, hv7, hm⟩ := bindE hm
          refine AL.s rfl (op_indexA (l := a1.l) (s := 6) (.e rfl) (.r rfl) hv7 rfl Tryz.underlying37 ⟨_, rfl, rfl⟩) ?_
          obtain ⟨v8, hv8, hm⟩ := bindE hm
          refine AL.s rfl (op_indexA (l := v7.l) (s := 2) (.e rfl) (.r rfl) hv8 rfl Tryz.underlying35 ⟨_, rfl, rfl⟩) ?_
          refine AL.s rfl (op_loadAtA (X := (A72.e a1).cells) (.e rfl) rfl (AtD.ix (f := SRatio.e) (l := v7.l) enSRatio (AtD.ix (f := A3.e) (l := a1.l) enA3 (AtD.root : AtD (A72.e a1).cells 0 _ _) hv7) hv8) ag34) ?_
          refine AL.s rfl (op_alloc (n := 5) zr34 rfl) ?_
          refine AL.s rfl (op_store (.e rfl) (.e rfl) rfl rfl rfl ⟨_, rfl, rfl⟩ rfl (Nat.le_of_ble_eq_true rfl)) ?_
          refine AL.nil ?_
          refine AW.free ?_
          refine AW.drawn [([], []), ([], []), ([], []), ([2], []), ([], []), ([], []), ([], []), ([3], []), ([], []), ([], []), ([], []), ([5], []), ([], []), ([], []), ([], []), ([], []), ([5], []), ([], []), ([], []), ([], []), ([4], [4]), ([], [])] mo (by decide +kernel) ?_
          refine AD.s (ws := []) rfl rfl (fun H' _ hH => op_moveT (.e rfl)) ?_
          refine AD.s (ws := []) rfl rfl (fun H' _ hH => op_moveD (.e rfl)) ?_
          obtain ⟨v9, hv9, hm⟩ := bindE hm
          refine AD.s (ws := []) rfl rfl (fun H' _ hH => op_indexA (l := (⟨([116, 105, 116, 108, 101] : List UInt8), ([97, 117, 116, 104, 111, 114] : List UInt8), ([121, 101, 97, 114] : List UInt8), ([105, 115, 98, 110] : List UInt8), ([108, 97, 110, 103, 117, 97, 103, 101] : List UInt8), ([112, 117, 98, 108, 105, 115, 104, 101, 114] : List UInt8), ([101, 100, 105, 116, 105, 111, 110] : List UInt8)⟩ : A74).l) (s := 1) (.e rfl) (.r rfl) hv9 rfl Tryz.underlying64 ⟨_, rfl, rfl⟩) ?_
          refine AD.s (ws := []) rfl rfl (fun H' _ hH => op_loadAt1 (X := (A74.e (⟨([116, 105, 116, 108, 101] : List UInt8), ([97, 117, 116, 104, 111, 114] : List UInt8), ([121, 101, 97, 114] : List UInt8), ([105, 115, 98, 110] : List UInt8), ([108, 97, 110, 103, 117, 97, 103, 101] : List UInt8), ([112, 117, 98, 108, 105, 115, 104, 101, 114] : List UInt8), ([101, 100, 105, 116, 105, 111, 110] : List UInt8)⟩ : A74)).cells) (.e rfl) ((hH _ (by simp)).trans rfl) (AtD.ix (f := D.str) (l := (⟨([116, 105, 116, 108, 101] : List UInt8), ([97, 117, 116, 104, 111, 114] : List UInt8), ([121, 101, 97, 114] : List UInt8), ([105, 115, 98, 110] : List UInt8), ([108, 97, 110, 103, 117, 97, 103, 101] : List UInt8), ([112, 117, 98, 108, 105, 115, 104, 101, 114] : List UInt8), ([101, 100, 105, 116, 105, 111, 110] : List UInt8)⟩ : A74).l) En.str (AtD.root : AtD (A74.e (⟨([116, 105, 116, 108, 101] : List UInt8), ([97, 117, 116, 104, 111, 114] : List UInt8), ([121, 101, 97, 114] : List UInt8), ([105, 115, 98, 110] : List UInt8), ([108, 97, 110, 103, 117, 97, 103, 101] : List UInt8), ([112, 117, 98, 108, 105, 115, 104, 101, 114] : List UInt8), ([101, 100, 105, 116, 105, 111, 110] : List UInt8)⟩ : A74)).cells 0 _ _) hv9) sc9) ?_
          obtain ⟨v10, hv10, hm⟩ := bindE hm
          refine AD.s (ws := []) rfl rfl (fun H' _ hH => op_addSM (.r rfl) (.r rfl) hv10) ?_
          refine AD.s (ws := []) rfl rfl (fun H' _ hH => op_moveD (.e rfl)) ?_
          obtain ⟨v11, hv11, hm⟩ := bindE hm
          refine AD.s (ws := []) rfl rfl (fun H' _ hH => op_indexA (l := (⟨([] : List UInt8), ([97, 103, 114, 101, 101, 115] : List UInt8), ([110, 101, 97, 114] : List UInt8), ([100, 105, 102, 102, 101, 114, 115] : List UInt8)⟩ : A4).l) (s := 1) (.e rfl) (.r rfl) hv11 rfl Tryz.underlying65 ⟨_, rfl, rfl⟩) ?_
          refine AD.s (ws := []) rfl rfl (fun H' _ hH => op_loadAt1 (X := (A4.e (⟨([] : List UInt8), ([97, 103, 114, 101, 101, 115] : List UInt8), ([110, 101, 97, 114] : List UInt8), ([100, 105, 102, 102, 101, 114, 115] : List UInt8)⟩ : A4)).cells) (.e rfl) ((hH _ (by simp)).trans rfl) (AtD.ix (f := D.str) (l := (⟨([] : List UInt8), ([97, 103, 114, 101, 101, 115] : List UInt8), ([110, 101, 97, 114] : List UInt8), ([100, 105, 102, 102, 101, 114, 115] : List UInt8)⟩ : A4).l) En.str (AtD.root : AtD (A4.e (⟨([] : List UInt8), ([97, 103, 114, 101, 101, 115] : List UInt8), ([110, 101, 97, 114] : List UInt8), ([100, 105, 102, 102, 101, 114, 115] : List UInt8)⟩ : A4)).cells 0 _ _) hv11) sc9) ?_
          obtain ⟨v12, hv12, hm⟩ := bindE hm
          refine AD.s (ws := []) rfl rfl (fun H' _ hH => op_addSM (.r rfl) (.r rfl) hv12) ?_
          obtain ⟨v13, hv13, hm⟩ := bindE hm
          refine AD.s (ws := []) rfl rfl (fun H' _ hH => op_addSM (.r rfl) (.r rfl) hv13) ?_
          refine AD.s (ws := []) rfl rfl (fun H' _ hH => op_field_ptr (.e rfl) fd34_0) ?_
          refine AD.s (ws := []) rfl rfl (fun H' _ hH => op_load_ptr1 (.e rfl) ((hH _ (by simp)).trans rfl) rfl sc3) ?_
          obtain ⟨v14, hv14, hm⟩ := bindE hm
          refine AD.s (ws := []) rfl rfl (fun H' _ hH => op_fn Tryz.call22 (.e rfl) (.cons (.r rfl) .nil) (itoaM_fn hv14)) ?_
          obtain ⟨v15, hv15, hm⟩ := bindE hm
          refine AD.s (ws := []) rfl rfl (fun H' _ hH => op_addSM (.r rfl) (.r rfl) hv15) ?_
          obtain ⟨v16, hv16, hm⟩ := bindE hm
          refine AD.s (ws := []) rfl rfl (fun H' _ hH => op_addSM (.r rfl) (.r rfl) hv16) ?_
          refine AD.s (ws := []) rfl rfl (fun H' _ hH => op_field_ptr (.e rfl) fd34_1) ?_
          refine AD.s (ws := []) rfl rfl (fun H' _ hH => op_load_ptr1 (.e rfl) ((hH _ (by simp)).trans rfl) rfl sc3) ?_
          obtain ⟨v17, hv17, hm⟩ := bindE hm
          refine AD.s (ws := []) rfl rfl (fun H' _ hH => op_fn Tryz.call22 (.e rfl) (.cons (.r rfl) .nil) (itoaM_fn hv17)) ?_
          obtain ⟨v18, hv18, hm⟩ := bindE hm
          refine AD.s (ws := []) rfl rfl (fun H' _ hH => op_addSM (.r rfl) (.r rfl) hv18) ?_
          refine AD.s (ws := []) rfl rfl (fun H' _ hH => op_buildSlice (ds := ([v18] : List (List UInt8)).map D.str) sl46 (.cons (.r rfl) rfl (En.str.one _) .nil) rfl (by decide)) ?_
          obtain ⟨v19, hv19, hm⟩ := bindE hm
          refine AD.s (ws := [(4, _)]) rfl rfl (fun H' _ hH => op_appendM (f := D.str) (l' := ([v18] : List (List UInt8))) sl46 (.e rfl) (.r rfl) ((hH _ (by simp)).trans rfl) rfl En.str hv19) ?_
          refine AD.s (ws := []) rfl rfl (fun H' _ hH => op_assignT (.e rfl)) ?_
          refine AD.nil ?_
          refine bq_n ?_
          obtain rfl := Option.some.inj hm
          exact nq ⟨_, rfl, ⟨[0, 1, 2, 3, 4], rfl, rfl, rfl, ⟨(.ptr rfl), (.ptr rfl), (.ptr rfl), (.tk rfl), (.d rfl), (.d rfl), trivial⟩, trivial, (.row rfl (.cons (.d rfl) (.cons (.d rfl) (.cons (.d rfl) (.cons (.d rfl) (.cons (.d rfl) (.cons (.d rfl) (.cons (.d rfl) (.cons (.d rfl) (.cons (.d rfl) (.cons (.d rfl) (.cons (.d rfl) (.cons (.d rfl) (.cons (.d rfl) (.cons (.d rfl) (.cons (.d rfl) (.cons (.d rfl) (.cons (.d rfl) (.cons (.d rfl) (.cons (.d rfl) (.cons (.d rfl) (.cons (.d rfl) (.cons (.d rfl) (.cons (.d rfl) (.cons (.d rfl) (.cons (.d rfl) (.cons (.d rfl) (.cons (.d rfl) (.cons (.d rfl) (.cons (.d rfl) (.cons (.d rfl) (.cons (.d rfl) (.cons (.d rfl) (.cons (.d rfl) (.cons (.d rfl) (.cons (.d rfl) (.cons (.d rfl) (.cons (.d rfl) (.cons (.d rfl) (.cons (.d rfl) (.cons (.d rfl) (.cons (.d rfl) (.cons (.d rfl) .nil)))))))))))))))))))))))))))))))))))))))))) (.row rfl (.cons (.d rfl) (.cons (.d rfl) (.cons (.d rfl) (.cons (.d rfl) (.cons (.d rfl) (.cons (.d rfl) (.cons (.d rfl) .nil))))))) (.row rfl (.cons (.d rfl) (.cons (.d rfl) (.cons (.d rfl) (.cons (.d rfl) (.cons (.d rfl) (.cons (.d rfl) (.cons (.d rfl) .nil))))))) (.row rfl (.cons (.d rfl) (.cons (.d rfl) (.cons (.d rfl) (.cons (.d rfl) .nil)))) (.tok rfl .nil)))))⟩⟩
        · replace hm := iteF hc3 hm
          refine AW.skip ?_
          refine bq_n ?_
          obtain rfl := Option.some.inj hm
          exact nq ⟨_, rfl, ⟨[0, 1, 2, 3, 4], rfl, rfl, rfl, ⟨(.ptr rfl), (.ptr rfl), (.ptr rfl), (.tk rfl), (.d rfl), (.d rfl), trivial⟩, trivial, (.row rfl (.cons (.d rfl) (.cons (.d rfl) (.cons (.d rfl) (.cons (.d rfl) (.cons (.d rfl) (.cons (.d rfl) (.cons (.d rfl) (.cons (.d rfl) (.cons (.d rfl) (.cons (.d rfl) (.cons (.d rfl) (.cons (.d rfl) (.cons (.d rfl) (.cons (.d rfl) (.cons (.d rfl) (.cons (.d rfl) (.cons (.d rfl) (.cons (.d rfl) (.cons (.d rfl) (.cons (.d rfl) (.cons (.d rfl) (.cons (.d rfl) (.cons (.d rfl) (.cons (.d rfl) (.cons (.d rfl) (.cons (.d rfl) (.cons (.d rfl) (.cons (.d rfl) (.cons (.d rfl) (.cons (.d rfl) (.cons (.d rfl) (.cons (.d rfl) (.cons (.d rfl) (.cons (.d rfl) (.cons (.d rfl) (.cons (.d rfl) (.cons (.d rfl) (.cons (.d rfl) (.cons (.d rfl) (.cons (.d rfl) (.cons (.d rfl) (.cons (.d rfl) .nil)))))))))))))))))))))))))))))))))))))))))) (.row rfl (.cons (.d rfl) (.cons (.d rfl) (.cons (.d rfl) (.cons (.d rfl) (.cons (.d rfl) (.cons (.d rfl) (.cons (.d rfl) .nil))))))) (.row rfl (.cons (.d rfl) (.cons (.d rfl) (.cons (.d rfl) (.cons (.d rfl) (.cons (.d rfl) (.cons (.d rfl) (.cons (.d rfl) .nil))))))) (.row rfl (.cons (.d rfl) (.cons (.d rfl) (.cons (.d rfl) (.cons (.d rfl) .nil)))) (.tok rfl .nil)))))⟩⟩
      · rintro s20 rfl
        replace hm := hkj1
        try dsimp only at hm
        refine AW.region ?_
        refine AL.s rfl (op_addw (.r rfl) (.r rfl)) ?_
        refine AL.s rfl (op_moveD (.e rfl)) ?_
        refine AL.nil ?_
        obtain rfl := Option.some.inj hm
        exact nq ⟨_, hI1, ⟨[0, 1, 2, 3, 4], rfl, rfl, rfl, ⟨(.ptr rfl), (.ptr rfl), (.ptr rfl), (.tk rfl), (.d rfl), (.d rfl), trivial⟩, trivial, (.row rfl (.cons (.d rfl) (.cons (.d rfl) (.cons (.d rfl) (.cons (.d rfl) (.cons (.d rfl) (.cons (.d rfl) (.cons (.d rfl) (.cons (.d rfl) (.cons (.d rfl) (.cons (.d rfl) (.cons (.d rfl) (.cons (.d rfl) (.cons (.d rfl) (.cons (.d rfl) (.cons (.d rfl) (.cons (.d rfl) (.cons (.d rfl) (.cons (.d rfl) (.cons (.d rfl) (.cons (.d rfl) (.cons (.d rfl) (.cons (.d rfl) (.cons (.d rfl) (.cons (.d rfl) (.cons (.d rfl) (.cons (.d rfl) (.cons (.d rfl) (.cons (.d rfl) (.cons (.d rfl) (.cons (.d rfl) (.cons (.d rfl) (.cons (.d rfl) (.cons (.d rfl) (.cons (.d rfl) (.cons (.d rfl) (.cons (.d rfl) (.cons (.d rfl) (.cons (.d rfl) (.cons (.d rfl) (.cons (.d rfl) (.cons (.d rfl) (.cons (.d rfl) .nil)))))))))))))))))))))))))))))))))))))))))) (.row rfl (.cons (.d rfl) (.cons (.d rfl) (.cons (.d rfl) (.cons (.d rfl) (.cons (.d rfl) (.cons (.d rfl) (.cons (.d rfl) .nil))))))) (.row rfl (.cons (.d rfl) (.cons (.d rfl) (.cons (.d rfl) (.cons (.d rfl) (.cons (.d rfl) (.cons (.d rfl) (.cons (.d rfl) .nil))))))) (.row rfl (.cons (.d rfl) (.cons (.d rfl) (.cons (.d rfl) (.cons (.d rfl) .nil)))) (.tok rfl .nil)))))⟩⟩
    · replace hm := iteF hc2 hm
      refine AW.exit ?_
      refine tq_exit ?_
      refine tq_exit ?_
      obtain rfl := Option.some.inj hm
      obtain rfl := Option.some.inj hI1
      replace hm := hk1
      try dsimp only at hm
      refine bq_hit ?_
      refine nq ?_
      refine AW.seqR ?_
      refine AL.s rfl (op_moveT (.e rfl)) ?_
      refine AL.s rfl (op_assignT (.e rfl)) ?_
      refine AL.s rfl (op_assignD (.e rfl)) ?_
      refine AL.nil ?_
      refine AW.ret ?_
      obtain rfl := Option.some.inj hm
      exact EndQ.d (.tmp (.e rfl) (.tmp (.e rfl) .nil)) rfl rfl

set_option maxHeartbeats 20000000 in
theorem m_ref31_name_ok {n : Nat} {a1 : Int} {r : (List UInt8)} (hm : m_ref31_name n a1 = some r) : Fn Tryz.prog 23 [(.int .i64 a1)] (.str r) := by
  unfold m_ref31_name at hm
  refine Fn.of_AW (fnn := Tryz.f23) Tryz.func23 rfl (Nat.le_of_ble_eq_true rfl) (fun g0 w0 hw0 => ?_)
  refine AW.seqR ?_
  refine AL.s rfl (op_assignD (.e rfl)) ?_
  refine AL.nil ?_
  refine AW.seqR ?_
  refine AL.s rfl (op_buildSlice (ds := ([([116, 105, 116, 108, 101] : List UInt8), ([97, 117, 116, 104, 111, 114] : List UInt8), ([121, 101, 97, 114] : List UInt8), ([105, 115, 98, 110] : List UInt8), ([108, 97, 110, 103, 117, 97, 103, 101] : List UInt8), ([112, 117, 98, 108, 105, 115, 104, 101, 114] : List UInt8), ([101, 100, 105, 116, 105, 111, 110] : List UInt8)] : List (List UInt8)).map D.str) sl46 (.cons (.r rfl) rfl (En.str.one _) (.cons (.r rfl) rfl (En.str.one _) (.cons (.r rfl) rfl (En.str.one _) (.cons (.r rfl) rfl (En.str.one _) (.cons (.r rfl) rfl (En.str.one _) (.cons (.r rfl) rfl (En.str.one _) (.cons (.r rfl) rfl (En.str.one _) .nil))))))) rfl (by decide)) ?_
  refine AL.s rfl (op_assignE (.e rfl)) ?_
  refine AL.nil ?_
  refine AW.seqR ?_
  refine AL.s rfl (op_moveE (.e rfl)) ?_
  refine AL.s rfl (op_moveD (.e rfl)) ?_
  obtain ⟨v2, hv2, hm⟩ := bindE hm
  refine AL.s rfl (op_indexAddrM (f := D.str) (.r rfl) (.r rfl) hv2 En.str sl46) ?_
  refine AL.s rfl (op_load_vp1 (.e rfl) rfl sc9) ?_
  refine AL.s rfl (op_assignD (.e rfl)) ?_
  refine AL.nil ?_
  refine AW.ret ?_
  obtain rfl := Option.some.inj hm
  exact EndQ.d (.tmp (.e rfl) .nil) rfl rfl

set_option maxHeartbeats 20000000 in
theorem m_ref31_verb_ok {n : Nat} {a1 : Int} {r : (List UInt8)} (hm : m_ref31_verb n a1 = some r) : Fn Tryz.prog 24 [(.int .i64 a1)] (.str r) := by
  unfold m_ref31_verb at hm
  refine Fn.of_AW (fnn := Tryz.f24) Tryz.func24 rfl (Nat.le_of_ble_eq_true rfl) (fun g0 w0 hw0 => ?_)
  refine AW.seqR ?_
  refine AL.s rfl (op_assignD (.e rfl)) ?_
  refine AL.nil ?_
  refine AW.seqR ?_
  refine AL.s rfl (op_buildSlice (ds := ([([] : List UInt8), ([32, 97, 103, 114, 101, 101, 115, 32] : List UInt8), ([32, 110, 101, 97, 114, 32] : List UInt8), ([32, 100, 105, 102, 102, 101, 114, 115, 32] : List UInt8)] : List (List UInt8)).map D.str) sl46 (.cons (.r rfl) rfl (En.str.one _) (.cons (.r rfl) rfl (En.str.one _) (.cons (.r rfl) rfl (En.str.one _) (.cons (.r rfl) rfl (En.str.one _) .nil)))) rfl (by decide)) ?_
  refine AL.s rfl (op_assignE (.e rfl)) ?_
  refine AL.nil ?_
  refine AW.seqR ?_
  refine AL.s rfl (op_moveE (.e rfl)) ?_
  refine AL.s rfl (op_moveD (.e rfl)) ?_
  obtain ⟨v2, hv2, hm⟩ := bindE hm
  refine AL.s rfl (op_indexAddrM (f := D.str) (.r rfl) (.r rfl) hv2 En.str sl46) ?_
  refine AL.s rfl (op_load_vp1 (.e rfl) rfl sc9) ?_
  refine AL.s rfl (op_assignD (.e rfl)) ?_
  refine AL.nil ?_
  refine AW.ret ?_
  obtain rfl := Option.some.inj hm
  exact EndQ.d (.tmp (.e rfl) .nil) rfl rfl

end Go.Proofs.YtgcmhhcopeiomaaGreatDoor.Ab
