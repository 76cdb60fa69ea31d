/- The functions do what they are in plain Lean. Conditions: none. -/
import Derived.Test.YtgcmhhcopeiomaaGreatDoorTy
import Derived.Test.YtgcmhhcopeiomaaGreatDoorMi
import Derived.Test.YtgcmhhcopeiomaaGreatDoorFe
set_option maxRecDepth 100000
namespace Go.Proofs.YtgcmhhcopeiomaaGreatDoor.Ab
open Go
attribute [local irreducible] AL AD AW

set_option maxHeartbeats 20000000 in
theorem m_ref31_decimal_ok {n : Nat} {a1 : Int} {r : (List UInt8)} (hm : m_ref31_decimal n a1 = some r) : Fn Tryz.prog 25 [(.int .i64 a1)] (.str r) := by
  unfold m_ref31_decimal at hm
  refine Fn.of_AW (fnn := Tryz.f25) Tryz.func25 rfl (Nat.le_of_ble_eq_true rfl) (fun g0 w0 hw0 => ?_)
  refine AW.reset 0 [(0, .d (.int .i64 a1))] [] (WOK.g0 hw0 (by simp)) ⟨[], rfl, rfl, rfl, ⟨(.d rfl), trivial⟩, trivial, .nil⟩ ?_
  refine AW.seqR ?_
  refine AL.s rfl (op_assignD (.e rfl)) ?_
  refine AL.nil ?_
  refine AW.seqR ?_
  refine AL.s rfl (op_moveD (.e rfl)) ?_
  obtain ⟨v2, hv2, hm⟩ := bindE hm
  refine AL.s rfl (op_remM (.r rfl) (.r rfl) hv2) ?_
  refine AL.s rfl (op_addw (.r rfl) (.r rfl)) ?_
  refine AL.s rfl (op_conv_int (.r rfl) ⟨_, Tryz.underlying3⟩ Tryz.underlying5) ?_
  refine AL.s rfl (op_buildSlice (ds := ([(IntKind.u8.wrap (IntKind.i64.wrap ((48 : Int) + v2)))] : List Int).map (D.int .u8)) sl92 (.cons (.r rfl) rfl (En.int.one _) .nil) rfl (by decide)) ?_
  refine AL.s rfl (op_textM (.r rfl) Tryz.underlying92 Tryz.underlying9 Tryz.underlying5) ?_
  refine AL.s rfl (op_assignD (.e rfl)) ?_
  refine AL.nil ?_
  refine AW.seq ?_
  refine AW.seqR ?_
  refine AL.s rfl (op_moveD (.e rfl)) ?_
  obtain ⟨v3, hv3, hm⟩ := bindE hm
  refine AL.s rfl (op_quoM (.r rfl) (.r rfl) hv3) ?_
  refine AL.s rfl (op_assignD (.e rfl)) ?_
  refine AL.nil ?_
  refine AW.block ?_
  obtain ⟨t_1, hI1, hk1⟩ := bindE hm
  refine AW.loopS (σ := (Int × (List UInt8))) (τ := (List UInt8)) 0 (fun x => [(0, .d (.int .i64 x.1)), (3, .d (.str x.2))]) (fun x => []) hI1 (WOK.g0 hw0 (by simp)) ⟨[], rfl, rfl, rfl, ⟨(.d rfl), (.d rfl), trivial⟩, trivial, .nil⟩ ?_
  rintro n1 ⟨s4, s5⟩ hI1
  obtain ⟨y_1, hm, hI1⟩ := iterS hI1
  replace hm : m_ref31_decimal_L1 n s4 s5 = some y_1 := hm
  unfold m_ref31_decimal_L1 at hm
  try dsimp only at hm
  refine AW.seq ?_
  refine AW.seqR ?_
  refine AL.s rfl (op_moveD (.e rfl)) ?_
  refine AL.s rfl (op_gtr (.r rfl) (.r rfl)) ?_
  refine AL.nil ?_
  refine AW.cond (b := _) rfl (fun hc1 => ?_) (fun hc1 => ?_)
  · replace hm := iteT hc1 hm
    refine AW.skip ?_
    refine nq ?_
    refine AW.seq ?_
    refine AW.block ?_
    refine AW.region ?_
    refine AL.s rfl (op_moveD (.e rfl)) ?_
    obtain ⟨v6, hv6, hm⟩ := bindE hm
    refine AL.s rfl (op_remM (.r rfl) (.r rfl) hv6) ?_
    refine AL.s rfl (op_addw (.r rfl) (.r rfl)) ?_
    refine AL.s rfl (op_conv_int (.r rfl) ⟨_, Tryz.underlying3⟩ Tryz.underlying5) ?_
    refine AL.s rfl (op_buildSlice (ds := ([(IntKind.u8.wrap (IntKind.i64.wrap ((48 : Int) + v6)))] : List Int).map (D.int .u8)) sl92 (.cons (.r rfl) rfl (En.int.one _) .nil) rfl (by decide)) ?_
    refine AL.s rfl (op_textM (.r rfl) Tryz.underlying92 Tryz.underlying9 Tryz.underlying5) ?_
    refine AL.s rfl (op_moveD (.e rfl)) ?_
    obtain ⟨v7, hv7, hm⟩ := bindE hm
    refine AL.s rfl (op_addSM (.r rfl) (.r rfl) hv7) ?_
    refine AL.s rfl (op_assignD (.e rfl)) ?_
    refine AL.nil ?_
    refine bq_n ?_
    refine nq ?_
    refine AW.region ?_
    refine AL.s rfl (op_moveD (.e rfl)) ?_
    obtain ⟨v8, hv8, hm⟩ := bindE hm
    refine AL.s rfl (op_quoM (.r rfl) (.r rfl) hv8) ?_
    refine AL.s rfl (op_assignD (.e rfl)) ?_
    refine AL.nil ?_
    obtain rfl := Option.some.inj hm
    exact nq ⟨_, hI1, ⟨[], rfl, rfl, rfl, ⟨(.d rfl), (.d rfl), trivial⟩, trivial, .nil⟩⟩
  · replace hm := iteF hc1 hm
    refine AW.exit ?_
    refine tq_exit ?_
    refine tq_exit ?_
    obtain rfl := Option.some.inj hm
    obtain rfl := Option.some.inj hI1
    replace hm := hk1
    try dsimp only at hm
    refine bq_hit ?_
    refine nq ?_
    refine AW.seqR ?_
    refine AL.s rfl (op_moveD (.e rfl)) ?_
    refine AL.s rfl (op_assignD (.e rfl)) ?_
    refine AL.nil ?_
    refine AW.ret ?_
    obtain rfl := Option.some.inj hm
    exact EndQ.d (.tmp (.e rfl) .nil) rfl rfl

set_option maxHeartbeats 20000000 in
theorem m_ref31_Explain_ok {n : Nat} {a1 : A72} {a2 : A7} {r : ((List (List UInt8)) × Int)} (hm : m_ref31_Explain n a1 a2 = some r) : Fn Tryz.prog 11 [(A72.e a1), (A7.e a2)] (.tup [(.sl (r.1.map D.str)), (.int .i64 r.2)]) := by
  unfold m_ref31_Explain at hm
  refine Fn.of_AW (fnn := Tryz.f11) Tryz.func11 rfl (Nat.le_of_ble_eq_true rfl) (fun g0 w0 hw0 => ?_)
  refine AW.reset 0 [(0, .d (A72.e a1)), (1, .d (A7.e a2))] [] (WOK.g0 hw0 (by simp)) ⟨[], rfl, rfl, rfl, ⟨(.d rfl), (.d rfl), trivial⟩, trivial, .nil⟩ ?_
  refine AW.seqR ?_
  refine AL.s rfl (op_box (n := 0) (.e rfl) rfl rfl rfl) ?_
  refine AL.s rfl (op_box (n := 1) (.e rfl) rfl rfl rfl) ?_
  refine AL.s rfl (op_assignN (.e rfl)) ?_
  refine AL.s rfl (op_assignD (.e rfl)) ?_
  refine AL.nil ?_
  refine AW.seq ?_
  refine AW.seqR ?_
  refine AL.s rfl (op_load_ptrA (.e rfl) rfl rfl rfl ag26) ?_
  refine AL.s rfl (op_load_ptrA (.e rfl) rfl rfl rfl ag28) ?_
  obtain ⟨v3, hv3, hm⟩ := bindE hm
  refine AL.s rfl (op_fn Tryz.call7 (.e rfl) (.cons (.r rfl) (.cons (.r rfl) .nil)) (m_ref31_Factors_ok hv3)) ?_
  refine AL.s rfl (op_moveD (.e rfl)) ?_
  refine AL.s rfl (op_extractD (.e rfl) rfl) ?_
  refine AL.s rfl (op_extractD (.e rfl) rfl) ?_
  refine AL.s rfl (op_assignD (.e rfl)) ?_
  refine AL.s rfl (op_assignD (.e rfl)) ?_
  refine AL.nil ?_
  refine AW.seqR ?_
  refine AL.s rfl (op_moveD (.e rfl)) ?_
  refine AL.s rfl (op_neq (.r rfl) (.r rfl)) ?_
  refine AL.nil ?_
  refine AW.cond (b := _) rfl (fun hc1 => ?_) (fun hc1 => ?_)
  · replace hm := iteT hc1 hm
    refine AW.seqR ?_
    refine AL.s rfl (op_moveD (.e rfl)) ?_
    refine AL.s rfl (op_assignN (.e rfl)) ?_
    refine AL.s rfl (op_assignD (.e rfl)) ?_
    refine AL.nil ?_
    refine AW.ret ?_
    refine tq_ret ?_
    obtain rfl := Option.some.inj hm
    exact EndQ.d (.tmp (.e rfl) (.tmp (.e rfl) .nil)) rfl rfl
  · replace hm := iteF hc1 hm
    refine AW.skip ?_
    refine nq ?_
    refine AW.seqR ?_
    refine AL.s rfl (op_assignN (.e rfl)) ?_
    refine AL.nil ?_
    refine AW.seq ?_
    refine AW.seqR ?_
    refine AL.s rfl (op_assignD (.e rfl)) ?_
    refine AL.nil ?_
    refine AW.block ?_
    refine AW.tokenize (n := 2) 8 9 1 rfl rfl (by simp) ?_
    obtain ⟨t_1, hI1, hk1⟩ := bindE hm
    refine AW.loopS (σ := ((List (List UInt8)) × Int)) (τ := (List (List UInt8))) 0 (fun x => [(2, .ptr 0 0), (3, .ptr 1 0), (8, .tk 2 (x.1.map D.str)), (9, .d (.int .i64 x.2))]) (fun x => [.row [.d (.int .i64 a1.e0.e0.fNum), .d (.int .i64 a1.e0.e0.fDen), .d (.int .i64 a1.e0.e1.fNum), .d (.int .i64 a1.e0.e1.fDen), .d (.int .i64 a1.e0.e2.fNum), .d (.int .i64 a1.e0.e2.fDen), .d (.int .i64 a1.e1.e0.fNum), .d (.int .i64 a1.e1.e0.fDen), .d (.int .i64 a1.e1.e1.fNum), .d (.int .i64 a1.e1.e1.fDen), .d (.int .i64 a1.e1.e2.fNum), .d (.int .i64 a1.e1.e2.fDen), .d (.int .i64 a1.e2.e0.fNum), .d (.int .i64 a1.e2.e0.fDen), .d (.int .i64 a1.e2.e1.fNum), .d (.int .i64 a1.e2.e1.fDen), .d (.int .i64 a1.e2.e2.fNum), .d (.int .i64 a1.e2.e2.fDen), .d (.int .i64 a1.e3.e0.fNum), .d (.int .i64 a1.e3.e0.fDen), .d (.int .i64 a1.e3.e1.fNum), .d (.int .i64 a1.e3.e1.fDen), .d (.int .i64 a1.e3.e2.fNum), .d (.int .i64 a1.e3.e2.fDen), .d (.int .i64 a1.e4.e0.fNum), .d (.int .i64 a1.e4.e0.fDen), .d (.int .i64 a1.e4.e1.fNum), .d (.int .i64 a1.e4.e1.fDen), .d (.int .i64 a1.e4.e2.fNum), .d (.int .i64 a1.e4.e2.fDen), .d (.int .i64 a1.e5.e0.fNum), .d (.int .i64 a1.e5.e0.fDen), .d (.int .i64 a1.e5.e1.fNum), .d (.int .i64 a1.e5.e1.fDen), .d (.int .i64 a1.e5.e2.fNum), .d (.int .i64 a1.e5.e2.fDen), .d (.int .i64 a1.e6.e0.fNum), .d (.int .i64 a1.e6.e0.fDen), .d (.int .i64 a1.e6.e1.fNum), .d (.int .i64 a1.e6.e1.fDen), .d (.int .i64 a1.e6.e2.fNum), .d (.int .i64 a1.e6.e2.fDen)], .row [.d (.int .i64 a2.e0), .d (.int .i64 a2.e1), .d (.int .i64 a2.e2), .d (.int .i64 a2.e3), .d (.int .i64 a2.e4), .d (.int .i64 a2.e5), .d (.int .i64 a2.e6)], .tok x.1.length 9 1]) hI1 (WOK.g0 hw0 (by simp)) ⟨[0, 1, 2], rfl, rfl, rfl, ⟨(.ptr rfl), (.ptr rfl), (.tk rfl), (.d rfl), trivial⟩, trivial, (.row rfl (.cons (.d rfl) (.cons (.d rfl) (.cons (.d rfl) (.cons (.d rfl) (.cons (.d rfl) (.cons (.d rfl) (.cons (.d rfl) (.cons (.d rfl) (.cons (.d rfl) (.cons (.d rfl) (.cons (.d rfl) (.cons (.d rfl) (.cons (.d rfl) (.cons (.d rfl) (.cons (.d rfl) (.cons (.d rfl) (.cons (.d rfl) (.cons (.d rfl) (.cons (.d rfl) (.cons (.d rfl) (.cons (.d rfl) (.cons (.d rfl) (.cons (.d rfl) (.cons (.d rfl) (.cons (.d rfl) (.cons (.d rfl) (.cons (.d rfl) (.cons (.d rfl) (.cons (.d rfl) (.cons (.d rfl) (.cons (.d rfl) (.cons (.d rfl) (.cons (.d rfl) (.cons (.d rfl) (.cons (.d rfl) (.cons (.d rfl) (.cons (.d rfl) (.cons (.d rfl) (.cons (.d rfl) (.cons (.d rfl) (.cons (.d rfl) (.cons (.d rfl) .nil)))))))))))))))))))))))))))))))))))))))))) (.row rfl (.cons (.d rfl) (.cons (.d rfl) (.cons (.d rfl) (.cons (.d rfl) (.cons (.d rfl) (.cons (.d rfl) (.cons (.d rfl) .nil))))))) (.tok rfl .nil)))⟩ ?_
    rintro n1 ⟨s4, s5⟩ hI1
    obtain ⟨y_1, hm, hI1⟩ := iterS hI1
    replace hm : m_ref31_Explain_L1 n _ _ s4 s5 = some y_1 := hm
    unfold m_ref31_Explain_L1 at hm
    try dsimp only at hm
    refine AW.seq ?_
    refine AW.seqR ?_
    refine AL.s rfl (op_moveD (.e rfl)) ?_
    refine AL.s rfl (op_lss (.r rfl) (.r rfl)) ?_
    refine AL.nil ?_
    refine AW.cond (b := _) rfl (fun hc2 => ?_) (fun hc2 => ?_)
    · replace hm := iteT hc2 hm
      refine AW.skip ?_
      refine nq ?_
      obtain ⟨t_j1, hm, hkj1⟩ := bindE hm
      refine AW.cutS (α := (List (List UInt8))) 0 (fun x => x = t_j1) (fun x => [(2, .ptr 0 0), (3, .ptr 1 0), (8, .tk 2 (x.map D.str)), (9, .d (.int .i64 s5))]) (fun x => [.row [.d (.int .i64 a1.e0.e0.fNum), .d (.int .i64 a1.e0.e0.fDen), .d (.int .i64 a1.e0.e1.fNum), .d (.int .i64 a1.e0.e1.fDen), .d (.int .i64 a1.e0.e2.fNum), .d (.int .i64 a1.e0.e2.fDen), .d (.int .i64 a1.e1.e0.fNum), .d (.int .i64 a1.e1.e0.fDen), .d (.int .i64 a1.e1.e1.fNum), .d (.int .i64 a1.e1.e1.fDen), .d (.int .i64 a1.e1.e2.fNum), .d (.int .i64 a1.e1.e2.fDen), .d (.int .i64 a1.e2.e0.fNum), .d (.int .i64 a1.e2.e0.fDen), .d (.int .i64 a1.e2.e1.fNum), .d (.int .i64 a1.e2.e1.fDen), .d (.int .i64 a1.e2.e2.fNum), .d (.int .i64 a1.e2.e2.fDen), .d (.int .i64 a1.e3.e0.fNum), .d (.int .i64 a1.e3.e0.fDen), .d (.int .i64 a1.e3.e1.fNum), .d (.int .i64 a1.e3.e1.fDen), .d (.int .i64 a1.e3.e2.fNum), .d (.int .i64 a1.e3.e2.fDen), .d (.int .i64 a1.e4.e0.fNum), .d (.int .i64 a1.e4.e0.fDen), .d (.int .i64 a1.e4.e1.fNum), .d (.int .i64 a1.e4.e1.fDen), .d (.int .i64 a1.e4.e2.fNum), .d (.int .i64 a1.e4.e2.fDen), .d (.int .i64 a1.e5.e0.fNum), .d (.int .i64 a1.e5.e0.fDen), .d (.int .i64 a1.e5.e1.fNum), .d (.int .i64 a1.e5.e1.fDen), .d (.int .i64 a1.e5.e2.fNum), .d (.int .i64 a1.e5.e2.fDen), .d (.int .i64 a1.e6.e0.fNum), .d (.int .i64 a1.e6.e0.fDen), .d (.int .i64 a1.e6.e1.fNum), .d (.int .i64 a1.e6.e1.fDen), .d (.int .i64 a1.e6.e2.fNum), .d (.int .i64 a1.e6.e2.fDen)], .row [.d (.int .i64 a2.e0), .d (.int .i64 a2.e1), .d (.int .i64 a2.e2), .d (.int .i64 a2.e3), .d (.int .i64 a2.e4), .d (.int .i64 a2.e5), .d (.int .i64 a2.e6)], .tok x.length 9 1]) (WOK.g0 hw0 (by simp)) ?_ ?_
      · skip
        refine AW.block ?_
        refine AW.seqR ?_
        refine AL.s rfl (op_moveD (.e rfl)) ?_
        obtain ⟨v6, hv6, hm⟩ := bindE hm
        refine AL.s rfl (op_indexA (l := a2.l) (s := 1) (.e rfl) (.r rfl) hv6 rfl Tryz.underlying28 ⟨_, rfl, rfl⟩) ?_
        refine AL.s rfl (op_loadAt1 (X := (A7.e a2).cells) (.e rfl) rfl (AtD.ix (f := D.i) (l := a2.l) En.i (AtD.root : AtD (A7.e a2).cells 0 _ _) hv6) sc3) ?_
        refine AL.s rfl (op_neq (.r rfl) (.r rfl)) ?_
        refine AL.nil ?_
        refine AW.cond (b := _) rfl (fun hc3 => ?_) (fun hc3 => ?_)
        · replace hm := iteT hc3 hm
          refine AW.free ?_
          refine AW.seqD [([], []), ([], []), ([], []), ([1], []), ([], []), ([], []), ([], []), ([0], []), ([], [3]), ([3], [3])] mo (by decide +kernel) ?_
          refine AD.s (ws := []) rfl rfl (fun H' _ hH => op_moveD (.e rfl)) ?_
          refine AD.s (ws := []) rfl rfl (fun H' _ hH => op_moveD (.e rfl)) ?_
          obtain ⟨v7, hv7, hm⟩ := bindE hm
          refine AD.s (ws := []) rfl rfl (fun H' _ hH => op_indexA (l := a2.l) (s := 1) (.e rfl) (.r rfl) hv7 rfl Tryz.underlying28 ⟨_, rfl, rfl⟩) ?_
          refine AD.s (ws := []) rfl rfl (fun H' _ hH => op_loadAt1 (X := (A7.e a2).cells) (.e rfl) ((hH _ (by simp)).trans rfl) (AtD.ix (f := D.i) (l := a2.l) En.i (AtD.root : AtD (A7.e a2).cells 0 _ _) hv7) sc3) ?_
          refine AD.s (ws := []) rfl rfl (fun H' _ hH => op_subw (.r rfl) (.r rfl)) ?_
          obtain ⟨v8, hv8, hm⟩ := bindE hm
          refine AD.s (ws := []) rfl rfl (fun H' _ hH => op_indexA (l := a1.l) (s := 6) (.e rfl) (.r rfl) hv8 rfl Tryz.underlying26 ⟨_, rfl, rfl⟩) ?_
          obtain ⟨v9, hv9, hm⟩ := bindE hm
          refine AD.s (ws := []) rfl rfl (fun H' _ hH => op_indexA (l := v8.l) (s := 2) (.e rfl) (.r rfl) hv9 rfl Tryz.underlying24 ⟨_, rfl, rfl⟩) ?_
          refine AD.s (ws := []) rfl rfl (fun H' _ hH => op_loadAtA (X := (A72.e a1).cells) (.e rfl) ((hH _ (by simp)).trans rfl) (AtD.ix (f := SRatio.e) (l := v8.l) enSRatio (AtD.ix (f := A3.e) (l := a1.l) enA3 (AtD.root : AtD (A72.e a1).cells 0 _ _) hv8) hv9) ag23) ?_
          refine AD.s (ws := [(3, _)]) rfl rfl (fun H' _ hH => op_allocR zr23 ((hH _ (by simp)).trans rfl)) ?_
          refine AD.s (ws := [(3, _)]) rfl rfl (fun H' _ hH => op_store (.e rfl) (.e rfl) ((hH _ (by simp)).trans rfl) rfl rfl ⟨_, rfl, rfl⟩ rfl (Nat.le_of_ble_eq_true rfl)) ?_
          refine AD.nil ?_
          refine AW.reset 0 [(2, .ptr 0 0), (3, .ptr 1 0), (8, .tk 2 (s4.map D.str)), (9, .d (.int .i64 s5)), (10, .ptr 3 0)] [.row [.d (.int .i64 a1.e0.e0.fNum), .d (.int .i64 a1.e0.e0.fDen), .d (.int .i64 a1.e0.e1.fNum), .d (.int .i64 a1.e0.e1.fDen), .d (.int .i64 a1.e0.e2.fNum), .d (.int .i64 a1.e0.e2.fDen), .d (.int .i64 a1.e1.e0.fNum), .d (.int .i64 a1.e1.e0.fDen), .d (.int .i64 a1.e1.e1.fNum), .d (.int .i64 a1.e1.e1.fDen), .d (.int .i64 a1.e1.e2.fNum), .d (.int .i64 a1.e1.e2.fDen), .d (.int .i64 a1.e2.e0.fNum), .d (.int .i64 a1.e2.e0.fDen), .d (.int .i64 a1.e2.e1.fNum), .d (.int .i64 a1.e2.e1.fDen), .d (.int .i64 a1.e2.e2.fNum), .d (.int .i64 a1.e2.e2.fDen), .d (.int .i64 a1.e3.e0.fNum), .d (.int .i64 a1.e3.e0.fDen), .d (.int .i64 a1.e3.e1.fNum), .d (.int .i64 a1.e3.e1.fDen), .d (.int .i64 a1.e3.e2.fNum), .d (.int .i64 a1.e3.e2.fDen), .d (.int .i64 a1.e4.e0.fNum), .d (.int .i64 a1.e4.e0.fDen), .d (.int .i64 a1.e4.e1.fNum), .d (.int .i64 a1.e4.e1.fDen), .d (.int .i64 a1.e4.e2.fNum), .d (.int .i64 a1.e4.e2.fDen), .d (.int .i64 a1.e5.e0.fNum), .d (.int .i64 a1.e5.e0.fDen), .d (.int .i64 a1.e5.e1.fNum), .d (.int .i64 a1.e5.e1.fDen), .d (.int .i64 a1.e5.e2.fNum), .d (.int .i64 a1.e5.e2.fDen), .d (.int .i64 a1.e6.e0.fNum), .d (.int .i64 a1.e6.e0.fDen), .d (.int .i64 a1.e6.e1.fNum), .d (.int .i64 a1.e6.e1.fDen), .d (.int .i64 a1.e6.e2.fNum), .d (.int .i64 a1.e6.e2.fDen)], .row [.d (.int .i64 a2.e0), .d (.int .i64 a2.e1), .d (.int .i64 a2.e2), .d (.int .i64 a2.e3), .d (.int .i64 a2.e4), .d (.int .i64 a2.e5), .d (.int .i64 a2.e6)], .tok s4.length 9 1, .row [.d (.int .i64 v9.fNum), .d (.int .i64 v9.fDen)]] (WOK.g0 hw0 (by simp)) ⟨[0, 1, 2, 3], rfl, rfl, rfl, ⟨(.ptr rfl), (.ptr rfl), (.tk rfl), (.d rfl), (.ptr rfl), trivial⟩, trivial, (.row rfl (.cons (.d rfl) (.cons (.d rfl) (.cons (.d rfl) (.cons (.d rfl) (.cons (.d rfl) (.cons (.d rfl) (.cons (.d rfl) (.cons (.d rfl) (.cons (.d rfl) (.cons (.d rfl) (.cons (.d rfl) (.cons (.d rfl) (.cons (.d rfl) (.cons (.d rfl) (.cons (.d rfl) (.cons (.d rfl) (.cons (.d rfl) (.cons (.d rfl) (.cons (.d rfl) (.cons (.d rfl) (.cons (.d rfl) (.cons (.d rfl) (.cons (.d rfl) (.cons (.d rfl) (.cons (.d rfl) (.cons (.d rfl) (.cons (.d rfl) (.cons (.d rfl) (.cons (.d rfl) (.cons (.d rfl) (.cons (.d rfl) (.cons (.d rfl) (.cons (.d rfl) (.cons (.d rfl) (.cons (.d rfl) (.cons (.d rfl) (.cons (.d rfl) (.cons (.d rfl) (.cons (.d rfl) (.cons (.d rfl) (.cons (.d rfl) (.cons (.d rfl) .nil)))))))))))))))))))))))))))))))))))))))))) (.row rfl (.cons (.d rfl) (.cons (.d rfl) (.cons (.d rfl) (.cons (.d rfl) (.cons (.d rfl) (.cons (.d rfl) (.cons (.d rfl) .nil))))))) (.tok rfl (.row rfl (.cons (.d rfl) (.cons (.d rfl) .nil)) .nil))))⟩ ?_
          refine AW.free ?_
          refine AW.drawn [([], []), ([], []), ([], []), ([], []), ([], []), ([1], []), ([], []), ([], []), ([], []), ([3], []), ([], []), ([], []), ([], []), ([], []), ([3], []), ([], []), ([], []), ([], []), ([2], [2]), ([], [])] mo (by decide +kernel) ?_
          refine AD.s (ws := []) rfl rfl (fun H' _ hH => op_moveT (.e rfl)) ?_
          refine AD.s (ws := []) rfl rfl (fun H' _ hH => op_moveD (.e rfl)) ?_
          obtain ⟨v10, hv10, hm⟩ := bindE hm
          refine AD.s (ws := []) rfl rfl (fun H' _ hH => op_fn Tryz.call23 (.e rfl) (.cons (.r rfl) .nil) (m_ref31_name_ok hv10)) ?_
          refine AD.s (ws := []) rfl rfl (fun H' _ hH => op_moveD (.e rfl)) ?_
          obtain ⟨v11, hv11, hm⟩ := bindE hm
          refine AD.s (ws := []) rfl rfl (fun H' _ hH => op_indexA (l := a2.l) (s := 1) (.e rfl) (.r rfl) hv11 rfl Tryz.underlying28 ⟨_, rfl, rfl⟩) ?_
          refine AD.s (ws := []) rfl rfl (fun H' _ hH => op_loadAt1 (X := (A7.e a2).cells) (.e rfl) ((hH _ (by simp)).trans rfl) (AtD.ix (f := D.i) (l := a2.l) En.i (AtD.root : AtD (A7.e a2).cells 0 _ _) hv11) sc3) ?_
          obtain ⟨v12, hv12, hm⟩ := bindE hm
          refine AD.s (ws := []) rfl rfl (fun H' _ hH => op_fn Tryz.call24 (.e rfl) (.cons (.r rfl) .nil) (m_ref31_verb_ok hv12)) ?_
          obtain ⟨v13, hv13, hm⟩ := bindE hm
          refine AD.s (ws := []) rfl rfl (fun H' _ hH => op_addSM (.r rfl) (.r rfl) hv13) ?_
          refine AD.s (ws := []) rfl rfl (fun H' _ hH => op_field_ptr (.e rfl) fd23_0) ?_
          refine AD.s (ws := []) rfl rfl (fun H' _ hH => op_load_ptr1 (.e rfl) ((hH _ (by simp)).trans rfl) rfl sc3) ?_
          obtain ⟨v14, hv14, hm⟩ := bindE hm
          refine AD.s (ws := []) rfl rfl (fun H' _ hH => op_fn Tryz.call25 (.e rfl) (.cons (.r rfl) .nil) (m_ref31_decimal_ok hv14)) ?_
          obtain ⟨v15, hv15, hm⟩ := bindE hm
          refine AD.s (ws := []) rfl rfl (fun H' _ hH => op_addSM (.r rfl) (.r rfl) hv15) ?_
          obtain ⟨v16, hv16, hm⟩ := bindE hm
          refine AD.s (ws := []) rfl rfl (fun H' _ hH => op_addSM (.r rfl) (.r rfl) hv16) ?_
          refine AD.s (ws := []) rfl rfl (fun H' _ hH => op_field_ptr (.e rfl) fd23_1) ?_
          refine AD.s (ws := []) rfl rfl (fun H' _ hH => op_load_ptr1 (.e rfl) ((hH _ (by simp)).trans rfl) rfl sc3) ?_
          obtain ⟨v17, hv17, hm⟩ := bindE hm
          refine AD.s (ws := []) rfl rfl (fun H' _ hH => op_fn Tryz.call25 (.e rfl) (.cons (.r rfl) .nil) (m_ref31_decimal_ok hv17)) ?_
          obtain ⟨v18, hv18, hm⟩ := bindE hm
          refine AD.s (ws := []) rfl rfl (fun H' _ hH => op_addSM (.r rfl) (.r rfl) hv18) ?_
          refine AD.s (ws := []) rfl rfl (fun H' _ hH => op_buildSlice (ds := ([v18] : List (List UInt8)).map D.str) sl46 (.cons (.r rfl) rfl (En.str.one _) .nil) rfl (by decide)) ?_
          obtain ⟨v19, hv19, hm⟩ := bindE hm
          refine AD.s (ws := [(2, _)]) rfl rfl (fun H' _ hH => op_appendM (f := D.str) (l' := ([v18] : List (List UInt8))) sl46 (.e rfl) (.r rfl) ((hH _ (by simp)).trans rfl) rfl En.str hv19) ?_
          refine AD.s (ws := []) rfl rfl (fun H' _ hH => op_assignT (.e rfl)) ?_
          refine AD.nil ?_
          refine bq_n ?_
          obtain rfl := Option.some.inj hm
          exact nq ⟨_, rfl, ⟨[0, 1, 2], rfl, rfl, rfl, ⟨(.ptr rfl), (.ptr rfl), (.tk rfl), (.d rfl), trivial⟩, trivial, (.row rfl (.cons (.d rfl) (.cons (.d rfl) (.cons (.d rfl) (.cons (.d rfl) (.cons (.d rfl) (.cons (.d rfl) (.cons (.d rfl) (.cons (.d rfl) (.cons (.d rfl) (.cons (.d rfl) (.cons (.d rfl) (.cons (.d rfl) (.cons (.d rfl) (.cons (.d rfl) (.cons (.d rfl) (.cons (.d rfl) (.cons (.d rfl) (.cons (.d rfl) (.cons (.d rfl) (.cons (.d rfl) (.cons (.d rfl) (.cons (.d rfl) (.cons (.d rfl) (.cons (.d rfl) (.cons (.d rfl) (.cons (.d rfl) (.cons (.d rfl) (.cons (.d rfl) (.cons (.d rfl) (.cons (.d rfl) (.cons (.d rfl) (.cons (.d rfl) (.cons (.d rfl) (.cons (.d rfl) (.cons (.d rfl) (.cons (.d rfl) (.cons (.d rfl) (.cons (.d rfl) (.cons (.d rfl) (.cons (.d rfl) (.cons (.d rfl) (.cons (.d rfl) .nil)))))))))))))))))))))))))))))))))))))))))) (.row rfl (.cons (.d rfl) (.cons (.d rfl) (.cons (.d rfl) (.cons (.d rfl) (.cons (.d rfl) (.cons (.d rfl) (.cons (.d rfl) .nil))))))) (.tok rfl .nil)))⟩⟩
        · replace hm := iteF hc3 hm
          refine AW.skip ?_
          refine bq_n ?_
          obtain rfl := Option.some.inj hm
          exact nq ⟨_, rfl, ⟨[0, 1, 2], rfl, rfl, rfl, ⟨(.ptr rfl), (.ptr rfl), (.tk rfl), (.d rfl), trivial⟩, trivial, (.row rfl (.cons (.d rfl) (.cons (.d rfl) (.cons (.d rfl) (.cons (.d rfl) (.cons (.d rfl) (.cons (.d rfl) (.cons (.d rfl) (.cons (.d rfl) (.cons (.d rfl) (.cons (.d rfl) (.cons (.d rfl) (.cons (.d rfl) (.cons (.d rfl) (.cons (.d rfl) (.cons (.d rfl) (.cons (.d rfl) (.cons (.d rfl) (.cons (.d rfl) (.cons (.d rfl) (.cons (.d rfl) (.cons (.d rfl) (.cons (.d rfl) (.cons (.d rfl) (.cons (.d rfl) (.cons (.d rfl) (.cons (.d rfl) (.cons (.d rfl) (.cons (.d rfl) (.cons (.d rfl) (.cons (.d rfl) (.cons (.d rfl) (.cons (.d rfl) (.cons (.d rfl) (.cons (.d rfl) (.cons (.d rfl) (.cons (.d rfl) (.cons (.d rfl) (.cons (.d rfl) (.cons (.d rfl) (.cons (.d rfl) (.cons (.d rfl) (.cons (.d rfl) .nil)))))))))))))))))))))))))))))))))))))))))) (.row rfl (.cons (.d rfl) (.cons (.d rfl) (.cons (.d rfl) (.cons (.d rfl) (.cons (.d rfl) (.cons (.d rfl) (.cons (.d rfl) .nil))))))) (.tok rfl .nil)))⟩⟩
      · rintro s20 rfl
        replace hm := hkj1
        try dsimp only at hm
        refine AW.region ?_
        refine AL.s rfl (op_moveD (.e rfl)) ?_
        refine AL.s rfl (op_addw (.r rfl) (.r rfl)) ?_
        refine AL.s rfl (op_assignD (.e rfl)) ?_
        refine AL.nil ?_
        obtain rfl := Option.some.inj hm
        exact nq ⟨_, hI1, ⟨[0, 1, 2], rfl, rfl, rfl, ⟨(.ptr rfl), (.ptr rfl), (.tk rfl), (.d rfl), trivial⟩, trivial, (.row rfl (.cons (.d rfl) (.cons (.d rfl) (.cons (.d rfl) (.cons (.d rfl) (.cons (.d rfl) (.cons (.d rfl) (.cons (.d rfl) (.cons (.d rfl) (.cons (.d rfl) (.cons (.d rfl) (.cons (.d rfl) (.cons (.d rfl) (.cons (.d rfl) (.cons (.d rfl) (.cons (.d rfl) (.cons (.d rfl) (.cons (.d rfl) (.cons (.d rfl) (.cons (.d rfl) (.cons (.d rfl) (.cons (.d rfl) (.cons (.d rfl) (.cons (.d rfl) (.cons (.d rfl) (.cons (.d rfl) (.cons (.d rfl) (.cons (.d rfl) (.cons (.d rfl) (.cons (.d rfl) (.cons (.d rfl) (.cons (.d rfl) (.cons (.d rfl) (.cons (.d rfl) (.cons (.d rfl) (.cons (.d rfl) (.cons (.d rfl) (.cons (.d rfl) (.cons (.d rfl) (.cons (.d rfl) (.cons (.d rfl) (.cons (.d rfl) (.cons (.d rfl) .nil)))))))))))))))))))))))))))))))))))))))))) (.row rfl (.cons (.d rfl) (.cons (.d rfl) (.cons (.d rfl) (.cons (.d rfl) (.cons (.d rfl) (.cons (.d rfl) (.cons (.d rfl) .nil))))))) (.tok rfl .nil)))⟩⟩
    · replace hm := iteF hc2 hm
      refine AW.exit ?_
      refine tq_exit ?_
      refine tq_exit ?_
      obtain rfl := Option.some.inj hm
      obtain rfl := Option.some.inj hI1
      replace hm := hk1
      try dsimp only at hm
      refine bq_hit ?_
      refine nq ?_
      refine AW.seqR ?_
      refine AL.s rfl (op_moveT (.e rfl)) ?_
      refine AL.s rfl (op_assignT (.e rfl)) ?_
      refine AL.s rfl (op_assignD (.e rfl)) ?_
      refine AL.nil ?_
      refine AW.ret ?_
      obtain rfl := Option.some.inj hm
      exact EndQ.d (.tmp (.e rfl) (.tmp (.e rfl) .nil)) rfl rfl

set_option maxHeartbeats 20000000 in
theorem m_ref29_SameTexts_ok {n : Nat} {a1 : (List (List UInt8))} {a2 : (List (List UInt8))} {r : Bool} (hm : m_ref29_SameTexts n a1 a2 = some r) : Fn Tryz.prog 12 [(.sl (a1.map D.str)), (.sl (a2.map D.str))] (.bool r) := by
  unfold m_ref29_SameTexts at hm
  refine Fn.of_AW (fnn := Tryz.f12) Tryz.func12 rfl (Nat.le_of_ble_eq_true rfl) (fun g0 w0 hw0 => ?_)
  refine AW.reset 0 [(0, .d (.sl (a1.map D.str))), (1, .d (.sl (a2.map D.str)))] [] (WOK.g0 hw0 (by simp)) ⟨[], rfl, rfl, rfl, ⟨(.d rfl), (.d rfl), trivial⟩, trivial, .nil⟩ ?_
  refine AW.seqR ?_
  refine AL.s rfl (op_assignD (.e rfl)) ?_
  refine AL.nil ?_
  refine AW.seq ?_
  refine AW.seqR ?_
  refine AL.s rfl (op_moveD (.e rfl)) ?_
  refine AL.s rfl (op_lenM (f := D.str) (.r rfl) sl46) ?_
  refine AL.s rfl (op_moveD (.e rfl)) ?_
  refine AL.s rfl (op_lenM (f := D.str) (.r rfl) sl46) ?_
  refine AL.s rfl (op_neq (.r rfl) (.r rfl)) ?_
  refine AL.nil ?_
  refine AW.cond (b := _) rfl (fun hc1 => ?_) (fun hc1 => ?_)
  · replace hm := iteT hc1 hm
    refine AW.seqR ?_
    refine AL.s rfl (op_assignD (.e rfl)) ?_
    refine AL.nil ?_
    refine AW.ret ?_
    refine tq_ret ?_
    obtain rfl := Option.some.inj hm
    exact EndQ.d (.tmp (.e rfl) .nil) rfl rfl
  · replace hm := iteF hc1 hm
    refine AW.skip ?_
    refine nq ?_
    refine AW.seq ?_
    refine AW.seqR ?_
    refine AL.s rfl (op_assignD (.e rfl)) ?_
    refine AL.nil ?_
    refine AW.block ?_
    obtain ⟨t_1, hI1, hk1⟩ := bindE hm
    refine AW.loopS (σ := Int) (τ := (Bool ⊕ Unit)) 0 (fun x => [(0, .d (.sl (a1.map D.str))), (1, .d (.sl (a2.map D.str))), (5, .d (.int .i64 x))]) (fun x => []) hI1 (WOK.g0 hw0 (by simp)) ⟨[], rfl, rfl, rfl, ⟨(.d rfl), (.d rfl), (.d rfl), trivial⟩, trivial, .nil⟩ ?_
    rintro n1 s3 hI1
    obtain ⟨y_1, hm, hI1⟩ := iterS hI1
    replace hm : m_ref29_SameTexts_L1 n _ _ s3 = some y_1 := hm
    unfold m_ref29_SameTexts_L1 at hm
    try dsimp only at hm
    refine AW.seq ?_
    refine AW.seqR ?_
    refine AL.s rfl (op_moveD (.e rfl)) ?_
    refine AL.s rfl (op_moveD (.e rfl)) ?_
    refine AL.s rfl (op_lenM (f := D.str) (.r rfl) sl46) ?_
    refine AL.s rfl (op_lss (.r rfl) (.r rfl)) ?_
    refine AL.nil ?_
    refine AW.cond (b := _) rfl (fun hc2 => ?_) (fun hc2 => ?_)
    · replace hm := iteT hc2 hm
      refine AW.skip ?_
      refine nq ?_
      refine AW.seq ?_
      refine AW.block ?_
      refine AW.seqD [([], []), ([], []), ([], []), ([], []), ([], []), ([], []), ([], []), ([], []), ([], [])] mo (by decide +kernel) ?_
      refine AD.s (ws := []) rfl rfl (fun H' _ hH => op_moveD (.e rfl)) ?_
      refine AD.s (ws := []) rfl rfl (fun H' _ hH => op_moveD (.e rfl)) ?_
      obtain ⟨v4, hv4, hm⟩ := bindE hm
      refine AD.s (ws := []) rfl rfl (fun H' _ hH => op_indexAddrM (f := D.str) (.r rfl) (.r rfl) hv4 En.str sl46) ?_
      refine AD.s (ws := []) rfl rfl (fun H' _ hH => op_load_vp1 (.e rfl) rfl sc9) ?_
      refine AD.s (ws := []) rfl rfl (fun H' _ hH => op_moveD (.e rfl)) ?_
      refine AD.s (ws := []) rfl rfl (fun H' _ hH => op_moveD (.e rfl)) ?_
      obtain ⟨v5, hv5, hm⟩ := bindE hm
      refine AD.s (ws := []) rfl rfl (fun H' _ hH => op_indexAddrM (f := D.str) (.r rfl) (.r rfl) hv5 En.str sl46) ?_
      refine AD.s (ws := []) rfl rfl (fun H' _ hH => op_load_vp1 (.e rfl) rfl sc9) ?_
      refine AD.s (ws := []) rfl rfl (fun H' _ hH => op_neqS (.r rfl) (.r rfl)) ?_
      refine AD.nil ?_
      refine AW.cond (b := _) rfl (fun hc3 => ?_) (fun hc3 => ?_)
      · replace hm := iteT hc3 hm
        refine AW.seqR ?_
        refine AL.s rfl (op_assignD (.e rfl)) ?_
        refine AL.nil ?_
        refine AW.ret ?_
        refine bq_ret ?_
        refine tq_ret ?_
        refine tq_ret ?_
        obtain rfl := Option.some.inj hm
        obtain rfl := Option.some.inj hI1
        replace hm := hk1
        try dsimp only at hm
        refine bq_ret ?_
        refine tq_ret ?_
        obtain rfl := Option.some.inj hm
        exact EndQ.d (.tmp (.e rfl) .nil) rfl rfl
      · replace hm := iteF hc3 hm
        refine AW.skip ?_
        refine bq_n ?_
        refine nq ?_
        refine AW.region ?_
        refine AL.s rfl (op_moveD (.e rfl)) ?_
        refine AL.s rfl (op_addw (.r rfl) (.r rfl)) ?_
        refine AL.s rfl (op_assignD (.e rfl)) ?_
        refine AL.nil ?_
        obtain rfl := Option.some.inj hm
        exact nq ⟨_, hI1, ⟨[], rfl, rfl, rfl, ⟨(.d rfl), (.d rfl), (.d rfl), trivial⟩, trivial, .nil⟩⟩
    · replace hm := iteF hc2 hm
      refine AW.exit ?_
      refine tq_exit ?_
      refine tq_exit ?_
      obtain rfl := Option.some.inj hm
      obtain rfl := Option.some.inj hI1
      replace hm := hk1
      try dsimp only at hm
      refine bq_hit ?_
      refine nq ?_
      refine AW.seqR ?_
      refine AL.s rfl (op_assignD (.e rfl)) ?_
      refine AL.nil ?_
      refine AW.ret ?_
      obtain rfl := Option.some.inj hm
      exact EndQ.d (.tmp (.e rfl) .nil) rfl rfl

end Go.Proofs.YtgcmhhcopeiomaaGreatDoor.Ab
