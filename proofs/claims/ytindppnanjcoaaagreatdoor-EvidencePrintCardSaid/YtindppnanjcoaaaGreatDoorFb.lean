/- The functions do what they are in plain Lean. Conditions: none. -/
import Derived.Test.YtindppnanjcoaaaGreatDoorOk
import Derived.Test.YtindppnanjcoaaaGreatDoorMi
import Derived.Test.YtindppnanjcoaaaGreatDoorFa
set_option maxRecDepth 100000
namespace Go.Proofs.YtindppnanjcoaaaGreatDoor.Ab
open Go
attribute [local irreducible] AL AD AW nlO nlV nlD

set_option maxHeartbeats 20000000 in
theorem m_ref31_Factors_ok {n : Nat} {a1 : A7} {a2 : A73} {r : ((List SRatio) × Int)} (hm : m_ref31_Factors n a1 a2 = some r) : Fn Tryz.prog 37 [(A7.e a1), (A73.e a2)] (.tup [(.sl (r.1.map SRatio.e)), (.int .i64 r.2)]) := by
  unfold m_ref31_Factors at hm
  refine Fn.of_AW (fnn := Tryz.f37) Tryz.func37 rfl (Nat.le_of_ble_eq_true rfl) (fun g0 w0 hw0 => ?_)
  refine AW.reset 0 [(0, .d (A7.e a1)), (1, .d (A73.e a2))] [] (WOK.g0 hw0 (by simp)) ⟨[], rfl, rfl, rfl, ⟨(.d rfl), (.d rfl), trivial⟩, trivial, .nil⟩ ?_
  refine AW.seqR ?_
  refine AL.s rfl (op_box (n := 0) (.e rfl) rfl rfl rfl) ?_
  refine AL.s rfl (op_box (n := 1) (.e rfl) rfl rfl rfl) ?_
  refine AL.s rfl (op_assignN (.e rfl)) ?_
  refine AL.s rfl (op_assignD (.e rfl)) ?_
  refine AL.nil ?_
  refine AW.seq ?_
  refine AW.seqR ?_
  refine AL.s rfl (op_load_ptrA (.e rfl) rfl rfl rfl ag60) ?_
  obtain ⟨v3, hv3, hm⟩ := bindE hm
  refine AL.s rfl (op_fn Tryz.call70 (.e rfl) (.cons (.r rfl) .nil) (m_ref31_Valid_ok hv3)) ?_
  refine AL.s rfl (op_not (.r rfl)) ?_
  refine AL.nil ?_
  refine AW.cond (b := _) rfl (fun hc1 => ?_) (fun hc1 => ?_)
  · replace hm := iteT hc1 hm
    refine AW.seqR ?_
    refine AL.s rfl (op_assignN (.e rfl)) ?_
    refine AL.s rfl (op_assignD (.e rfl)) ?_
    refine AL.nil ?_
    refine AW.ret ?_
    refine tq_ret ?_
    obtain rfl := Option.some.inj hm
    exact EndQ.d (.tmp (.e rfl) (.tmp (.e rfl) .nil)) rfl rfl
  · replace hm := iteF hc1 hm
    refine AW.skip ?_
    refine nq ?_
    refine AW.seqR ?_
    refine AL.s rfl (op_assignN (.e rfl)) ?_
    refine AL.nil ?_
    refine AW.seq ?_
    refine AW.seqR ?_
    refine AL.s rfl (op_assignD (.e rfl)) ?_
    refine AL.nil ?_
    refine AW.block ?_
    refine AW.tokenize (n := 2) 6 57 2 rfl rfl (by simp) ?_
    obtain ⟨t_1, hI1, hk1⟩ := bindE hm
    refine AW.loopS (σ := ((List SRatio) × Int)) (τ := (((List SRatio) × Int) ⊕ (List SRatio))) 0 (fun x => [(2, .ptr 0 0), (3, .ptr 1 0), (6, .tk 2 (x.1.map SRatio.e)), (7, .d (.int .i64 x.2))]) (fun x => [.row ((A7.e a1).cells.map .d), .row [.d (.int .i64 a2.e0), .d (.int .i64 a2.e1), .d (.int .i64 a2.e2), .d (.int .i64 a2.e3), .d (.int .i64 a2.e4), .d (.int .i64 a2.e5), .d (.int .i64 a2.e6)], .tok x.1.length 57 2]) hI1 (WOK.g0 hw0 (by simp)) ⟨[0, 1, 2], rfl, rfl, rfl, ⟨(.ptr rfl), (.ptr rfl), (.tk rfl), (.d rfl), trivial⟩, trivial, (.row rfl (cd (A7.e a1).cells) (.row rfl (.cons (.d rfl) (.cons (.d rfl) (.cons (.d rfl) (.cons (.d rfl) (.cons (.d rfl) (.cons (.d rfl) (.cons (.d rfl) .nil))))))) (.tok rfl .nil)))⟩ ?_
    rintro n1 ⟨s4, s5⟩ hI1
    obtain ⟨y_1, hm, hI1⟩ := iterS hI1
    replace hm : m_ref31_Factors_L1 n _ _ s4 s5 = some y_1 := hm
    unfold m_ref31_Factors_L1 at hm
    try dsimp only at hm
    refine AW.seq ?_
    refine AW.seqR ?_
    refine AL.s rfl (op_moveD (.e rfl)) ?_
    refine AL.s rfl (op_lss (.r rfl) (.r rfl)) ?_
    refine AL.nil ?_
    refine AW.cond (b := _) rfl (fun hc2 => ?_) (fun hc2 => ?_)
    · replace hm := iteT hc2 hm
      refine AW.skip ?_
      refine nq ?_
      obtain ⟨t_j1, hm, hkj1⟩ := bindE hm
      refine AW.cutS (α := (List SRatio)) 0 (fun x => (.inr x) = t_j1) (fun x => [(2, .ptr 0 0), (3, .ptr 1 0), (6, .tk 2 (x.map SRatio.e)), (7, .d (.int .i64 s5))]) (fun x => [.row ((A7.e a1).cells.map .d), .row [.d (.int .i64 a2.e0), .d (.int .i64 a2.e1), .d (.int .i64 a2.e2), .d (.int .i64 a2.e3), .d (.int .i64 a2.e4), .d (.int .i64 a2.e5), .d (.int .i64 a2.e6)], .tok x.length 57 2]) (WOK.g0 hw0 (by simp)) ?_ ?_
      · skip
        refine AW.block ?_
        refine AW.seq ?_
        refine AW.seqR ?_
        refine AL.s rfl (op_moveD (.e rfl)) ?_
        obtain ⟨v6, hv6, hm⟩ := bindE hm
        refine AL.s rfl (op_indexA (l := a2.l) (s := 1) (.e rfl) (.r rfl) hv6 rfl Tryz.underlying53 ⟨_, rfl, rfl⟩) ?_
        refine AL.s rfl (op_loadAt1 (X := (A73.e a2).cells) (.e rfl) rfl (AtD.ix (f := D.i) (l := a2.l) En.i (AtD.root : AtD (A73.e a2).cells 0 _ _) hv6) sc3) ?_
        refine AL.s rfl (op_lss (.r rfl) (.r rfl)) ?_
        refine AL.s rfl (op_moveD (.e rfl)) ?_
        refine AL.sF rfl rfl rfl rfl (fun g => op_moveD (.e rfl)) ?_
        obtain ⟨v7, hv7, hm⟩ := bindE hm
        refine AL.sF rfl rfl rfl rfl (fun g => op_indexA (l := a2.l) (s := 1) (.e rfl) (.we (nt g) rfl rfl) (iteT (nt g) hv7) rfl Tryz.underlying53 ⟨_, rfl, rfl⟩) ?_
        refine AL.sF rfl rfl rfl rfl (fun g => op_loadAt1 (X := (A73.e a2).cells) (.we (nt g) rfl) rfl (AtD.ix (f := D.i) (l := a2.l) En.i (AtD.root : AtD (A73.e a2).cells 0 _ _) (iteT (nt g) hv7)) sc3) ?_
        refine AL.sF rfl rfl rfl rfl (fun g => op_gtr (.we (nt g) rfl rfl) (.r rfl)) ?_
        refine AL.s rfl (op_or (.r rfl) rfl (fun h => (.we (nt h) rfl rfl))) ?_
        refine AL.nil ?_
        refine AW.cond (b := _) rfl (fun hc3 => ?_) (fun hc3 => ?_)
        · replace hm := iteT hc3 hm
          refine AW.seqR ?_
          refine AL.s rfl (op_assignN (.e rfl)) ?_
          refine AL.s rfl (op_assignD (.e rfl)) ?_
          refine AL.nil ?_
          refine AW.ret ?_
          refine tq_ret ?_
          refine bq_ret ?_
          refine tq_ret ?_
          obtain rfl := Option.some.inj hm
          replace hm := hkj1
          try dsimp only at hm
          refine tq_ret ?_
          obtain rfl := Option.some.inj hm
          obtain rfl := Option.some.inj hI1
          replace hm := hk1
          try dsimp only at hm
          refine bq_ret ?_
          refine tq_ret ?_
          obtain rfl := Option.some.inj hm
          exact EndQ.d (.tmp (.e rfl) (.tmp (.e rfl) .nil)) rfl rfl
        · replace hm := iteF hc3 hm
          refine AW.skip ?_
          refine nq ?_
          refine AW.reset 0 [(2, .ptr 0 0), (3, .ptr 1 0), (6, .tk 2 (s4.map SRatio.e)), (7, .d (.int .i64 s5))] [.row ((A7.e a1).cells.map .d), .row [.d (.int .i64 a2.e0), .d (.int .i64 a2.e1), .d (.int .i64 a2.e2), .d (.int .i64 a2.e3), .d (.int .i64 a2.e4), .d (.int .i64 a2.e5), .d (.int .i64 a2.e6)], .tok s4.length 57 2] (WOK.g0 hw0 (by simp)) ⟨[0, 1, 2], rfl, rfl, rfl, ⟨(.ptr rfl), (.ptr rfl), (.tk rfl), (.d rfl), trivial⟩, trivial, (.row rfl (cd (A7.e a1).cells) (.row rfl (.cons (.d rfl) (.cons (.d rfl) (.cons (.d rfl) (.cons (.d rfl) (.cons (.d rfl) (.cons (.d rfl) (.cons (.d rfl) .nil))))))) (.tok rfl .nil)))⟩ ?_
          refine AW.seqR ?_
          refine AL.s rfl (op_moveD (.e rfl)) ?_
          obtain ⟨v8, hv8, hm⟩ := bindE hm
          refine AL.s rfl (op_indexA (l := a2.l) (s := 1) (.e rfl) (.r rfl) hv8 rfl Tryz.underlying53 ⟨_, rfl, rfl⟩) ?_
          refine AL.s rfl (op_loadAt1 (X := (A73.e a2).cells) (.e rfl) rfl (AtD.ix (f := D.i) (l := a2.l) En.i (AtD.root : AtD (A73.e a2).cells 0 _ _) hv8) sc3) ?_
          refine AL.s rfl (op_neq (.r rfl) (.r rfl)) ?_
          refine AL.nil ?_
          refine AW.cond (b := _) rfl (fun hc4 => ?_) (fun hc4 => ?_)
          · replace hm := iteT hc4 hm
            refine AW.free ?_
            refine AW.drawn [([], []), ([], []), ([], []), ([], []), ([1], []), ([], []), ([], []), ([], []), ([0], []), ([], []), ([2], [2]), ([], [])] mo (by decide +kernel) ?_
            refine AD.s (ws := []) rfl rfl (fun H' _ hH => op_moveT (.e rfl)) ?_
            refine AD.s (ws := []) rfl rfl (fun H' _ hH => op_moveD (.e rfl)) ?_
            refine AD.s (ws := []) rfl rfl (fun H' _ hH => op_moveD (.e rfl)) ?_
            obtain ⟨v9, hv9, hm⟩ := bindE hm
            refine AD.s (ws := []) rfl rfl (fun H' _ hH => op_indexA (l := a2.l) (s := 1) (.e rfl) (.r rfl) hv9 rfl Tryz.underlying53 ⟨_, rfl, rfl⟩) ?_
            refine AD.s (ws := []) rfl rfl (fun H' _ hH => op_loadAt1 (X := (A73.e a2).cells) (.e rfl) ((hH _ (by simp)).trans rfl) (AtD.ix (f := D.i) (l := a2.l) En.i (AtD.root : AtD (A73.e a2).cells 0 _ _) hv9) sc3) ?_
            refine AD.s (ws := []) rfl rfl (fun H' _ hH => op_subw (.r rfl) (.r rfl)) ?_
            obtain ⟨v10, hv10, hm⟩ := bindE hm
            refine AD.s (ws := []) rfl rfl (fun H' _ hH => op_indexA (l := a1.l) (s := 6) (.e rfl) (.r rfl) hv10 rfl Tryz.underlying60 ⟨_, rfl, rfl⟩) ?_
            obtain ⟨v11, hv11, hm⟩ := bindE hm
            refine AD.s (ws := []) rfl rfl (fun H' _ hH => op_indexA (l := v10.l) (s := 2) (.e rfl) (.r rfl) hv11 rfl Tryz.underlying58 ⟨_, rfl, rfl⟩) ?_
            refine AD.s (ws := []) rfl rfl (fun H' _ hH => op_loadAtA (X := (A7.e a1).cells) (.e rfl) ((hH _ (by simp)).trans rfl) (AtD.ix (f := SRatio.e) (l := v10.l) enSRatio (AtD.ix (f := A3.e) (l := a1.l) enA3 (AtD.root : AtD (A7.e a1).cells 0 _ _) hv10) hv11) ag57) ?_
            refine AD.s (ws := []) rfl rfl (fun H' _ hH => op_buildSlice (ds := ([v11] : List SRatio).map SRatio.e) sl106 (.cons (.r rfl) rfl (enSRatio.one _) .nil) rfl (by decide)) ?_
            obtain ⟨v12, hv12, hm⟩ := bindE hm
            refine AD.s (ws := [(2, _)]) rfl rfl (fun H' _ hH => op_appendM (f := SRatio.e) (l' := ([v11] : List SRatio)) sl106 (.e rfl) (.r rfl) ((hH _ (by simp)).trans rfl) rfl enSRatio hv12) ?_
            refine AD.s (ws := []) rfl rfl (fun H' _ hH => op_assignT (.e rfl)) ?_
            refine AD.nil ?_
            refine bq_n ?_
            obtain rfl := Option.some.inj hm
            exact nq ⟨_, rfl, ⟨[0, 1, 2], rfl, rfl, rfl, ⟨(.ptr rfl), (.ptr rfl), (.tk rfl), (.d rfl), trivial⟩, trivial, (.row rfl (cd (A7.e a1).cells) (.row rfl (.cons (.d rfl) (.cons (.d rfl) (.cons (.d rfl) (.cons (.d rfl) (.cons (.d rfl) (.cons (.d rfl) (.cons (.d rfl) .nil))))))) (.tok rfl .nil)))⟩⟩
          · replace hm := iteF hc4 hm
            refine AW.skip ?_
            refine bq_n ?_
            obtain rfl := Option.some.inj hm
            exact nq ⟨_, rfl, ⟨[0, 1, 2], rfl, rfl, rfl, ⟨(.ptr rfl), (.ptr rfl), (.tk rfl), (.d rfl), trivial⟩, trivial, (.row rfl (cd (A7.e a1).cells) (.row rfl (.cons (.d rfl) (.cons (.d rfl) (.cons (.d rfl) (.cons (.d rfl) (.cons (.d rfl) (.cons (.d rfl) (.cons (.d rfl) .nil))))))) (.tok rfl .nil)))⟩⟩
      · rintro s13 rfl
        replace hm := hkj1
        try dsimp only at hm
        refine AW.region ?_
        refine AL.s rfl (op_moveD (.e rfl)) ?_
        refine AL.s rfl (op_addw (.r rfl) (.r rfl)) ?_
        refine AL.s rfl (op_assignD (.e rfl)) ?_
        refine AL.nil ?_
        obtain rfl := Option.some.inj hm
        exact nq ⟨_, hI1, ⟨[0, 1, 2], rfl, rfl, rfl, ⟨(.ptr rfl), (.ptr rfl), (.tk rfl), (.d rfl), trivial⟩, trivial, (.row rfl (cd (A7.e a1).cells) (.row rfl (.cons (.d rfl) (.cons (.d rfl) (.cons (.d rfl) (.cons (.d rfl) (.cons (.d rfl) (.cons (.d rfl) (.cons (.d rfl) .nil))))))) (.tok rfl .nil)))⟩⟩
    · replace hm := iteF hc2 hm
      refine AW.exit ?_
      refine tq_exit ?_
      refine tq_exit ?_
      obtain rfl := Option.some.inj hm
      obtain rfl := Option.some.inj hI1
      replace hm := hk1
      try dsimp only at hm
      refine bq_hit ?_
      refine nq ?_
      refine AW.seqR ?_
      refine AL.s rfl (op_moveT (.e rfl)) ?_
      refine AL.s rfl (op_assignT (.e rfl)) ?_
      refine AL.s rfl (op_assignD (.e rfl)) ?_
      refine AL.nil ?_
      refine AW.ret ?_
      obtain rfl := Option.some.inj hm
      exact EndQ.d (.tmp (.e rfl) (.tmp (.e rfl) .nil)) rfl rfl

set_option maxHeartbeats 20000000 in
theorem m_ref31_name_ok {n : Nat} {a1 : Int} {r : (List UInt8)} (hm : m_ref31_name n a1 = some r) : Fn Tryz.prog 38 [(.int .i64 a1)] (.str r) := by
  unfold m_ref31_name at hm
  refine Fn.of_AW (fnn := Tryz.f38) Tryz.func38 rfl (Nat.le_of_ble_eq_true rfl) (fun g0 w0 hw0 => ?_)
  refine AW.seqR ?_
  refine AL.s rfl (op_assignD (.e rfl)) ?_
  refine AL.nil ?_
  refine AW.seqR ?_
  refine AL.s rfl (op_buildSlice (ds := ([([116, 105, 116, 108, 101] : List UInt8), ([97, 117, 116, 104, 111, 114] : List UInt8), ([121, 101, 97, 114] : List UInt8), ([105, 115, 98, 110] : List UInt8), ([108, 97, 110, 103, 117, 97, 103, 101] : List UInt8), ([112, 117, 98, 108, 105, 115, 104, 101, 114] : List UInt8), ([101, 100, 105, 116, 105, 111, 110] : List UInt8)] : List (List UInt8)).map D.str) sl24 (.cons (.r rfl) rfl (En.str.one _) (.cons (.r rfl) rfl (En.str.one _) (.cons (.r rfl) rfl (En.str.one _) (.cons (.r rfl) rfl (En.str.one _) (.cons (.r rfl) rfl (En.str.one _) (.cons (.r rfl) rfl (En.str.one _) (.cons (.r rfl) rfl (En.str.one _) .nil))))))) rfl (by decide)) ?_
  refine AL.s rfl (op_assignE (.e rfl)) ?_
  refine AL.nil ?_
  refine AW.seqR ?_
  refine AL.s rfl (op_moveE (.e rfl)) ?_
  refine AL.s rfl (op_moveD (.e rfl)) ?_
  obtain ⟨v2, hv2, hm⟩ := bindE hm
  refine AL.s rfl (op_indexAddrM (f := D.str) (.r rfl) (.r rfl) hv2 En.str sl24) ?_
  refine AL.s rfl (op_load_vp1 (.e rfl) rfl sc9) ?_
  refine AL.s rfl (op_assignD (.e rfl)) ?_
  refine AL.nil ?_
  refine AW.ret ?_
  obtain rfl := Option.some.inj hm
  exact EndQ.d (.tmp (.e rfl) .nil) rfl rfl

set_option maxHeartbeats 20000000 in
theorem m_ref31_verb_ok {n : Nat} {a1 : Int} {r : (List UInt8)} (hm : m_ref31_verb n a1 = some r) : Fn Tryz.prog 39 [(.int .i64 a1)] (.str r) := by
  unfold m_ref31_verb at hm
  refine Fn.of_AW (fnn := Tryz.f39) Tryz.func39 rfl (Nat.le_of_ble_eq_true rfl) (fun g0 w0 hw0 => ?_)
  refine AW.seqR ?_
  refine AL.s rfl (op_assignD (.e rfl)) ?_
  refine AL.nil ?_
  refine AW.seqR ?_
  refine AL.s rfl (op_buildSlice (ds := ([([] : List UInt8), ([32, 97, 103, 114, 101, 101, 115, 32] : List UInt8), ([32, 110, 101, 97, 114, 32] : List UInt8), ([32, 100, 105, 102, 102, 101, 114, 115, 32] : List UInt8)] : List (List UInt8)).map D.str) sl24 (.cons (.r rfl) rfl (En.str.one _) (.cons (.r rfl) rfl (En.str.one _) (.cons (.r rfl) rfl (En.str.one _) (.cons (.r rfl) rfl (En.str.one _) .nil)))) rfl (by decide)) ?_
  refine AL.s rfl (op_assignE (.e rfl)) ?_
  refine AL.nil ?_
  refine AW.seqR ?_
  refine AL.s rfl (op_moveE (.e rfl)) ?_
  refine AL.s rfl (op_moveD (.e rfl)) ?_
  obtain ⟨v2, hv2, hm⟩ := bindE hm
  refine AL.s rfl (op_indexAddrM (f := D.str) (.r rfl) (.r rfl) hv2 En.str sl24) ?_
  refine AL.s rfl (op_load_vp1 (.e rfl) rfl sc9) ?_
  refine AL.s rfl (op_assignD (.e rfl)) ?_
  refine AL.nil ?_
  refine AW.ret ?_
  obtain rfl := Option.some.inj hm
  exact EndQ.d (.tmp (.e rfl) .nil) rfl rfl

set_option maxHeartbeats 20000000 in
theorem m_ref31_decimal_ok {n : Nat} {a1 : Int} {r : (List UInt8)} (hm : m_ref31_decimal n a1 = some r) : Fn Tryz.prog 40 [(.int .i64 a1)] (.str r) := by
  unfold m_ref31_decimal at hm
  refine Fn.of_AW (fnn := Tryz.f40) Tryz.func40 rfl (Nat.le_of_ble_eq_true rfl) (fun g0 w0 hw0 => ?_)
  refine AW.reset 0 [(0, .d (.int .i64 a1))] [] (WOK.g0 hw0 (by simp)) ⟨[], rfl, rfl, rfl, ⟨(.d rfl), trivial⟩, trivial, .nil⟩ ?_
  refine AW.seqR ?_
  refine AL.s rfl (op_assignD (.e rfl)) ?_
  refine AL.nil ?_
  refine AW.seqR ?_
  refine AL.s rfl (op_moveD (.e rfl)) ?_
  obtain ⟨v2, hv2, hm⟩ := bindE hm
  refine AL.s rfl (op_remM (.r rfl) (.r rfl) hv2) ?_
  refine AL.s rfl (op_addw (.r rfl) (.r rfl)) ?_
  refine AL.s rfl (op_conv_int (.r rfl) ⟨_, Tryz.underlying3⟩ Tryz.underlying5) ?_
  refine AL.s rfl (op_buildSlice (ds := ([(IntKind.u8.wrap (IntKind.i64.wrap ((48 : Int) + v2)))] : List Int).map (D.int .u8)) sl97 (.cons (.r rfl) rfl (En.int.one _) .nil) rfl (by decide)) ?_
  refine AL.s rfl (op_textM (.r rfl) Tryz.underlying97 Tryz.underlying9 Tryz.underlying5) ?_
  refine AL.s rfl (op_assignD (.e rfl)) ?_
  refine AL.nil ?_
  refine AW.seq ?_
  refine AW.seqR ?_
  refine AL.s rfl (op_moveD (.e rfl)) ?_
  obtain ⟨v3, hv3, hm⟩ := bindE hm
  refine AL.s rfl (op_quoM (.r rfl) (.r rfl) hv3) ?_
  refine AL.s rfl (op_assignD (.e rfl)) ?_
  refine AL.nil ?_
  refine AW.block ?_
  obtain ⟨t_1, hI1, hk1⟩ := bindE hm
  refine AW.loopS (σ := (Int × (List UInt8))) (τ := (List UInt8)) 0 (fun x => [(0, .d (.int .i64 x.1)), (3, .d (.str x.2))]) (fun x => []) hI1 (WOK.g0 hw0 (by simp)) ⟨[], rfl, rfl, rfl, ⟨(.d rfl), (.d rfl), trivial⟩, trivial, .nil⟩ ?_
  rintro n1 ⟨s4, s5⟩ hI1
  obtain ⟨y_1, hm, hI1⟩ := iterS hI1
  replace hm : m_ref31_decimal_L1 n s4 s5 = some y_1 := hm
  unfold m_ref31_decimal_L1 at hm
  try dsimp only at hm
  refine AW.seq ?_
  refine AW.seqR ?_
  refine AL.s rfl (op_moveD (.e rfl)) ?_
  refine AL.s rfl (op_gtr (.r rfl) (.r rfl)) ?_
  refine AL.nil ?_
  refine AW.cond (b := _) rfl (fun hc1 => ?_) (fun hc1 => ?_)
  · replace hm := iteT hc1 hm
    refine AW.skip ?_
    refine nq ?_
    refine AW.seq ?_
    refine AW.block ?_
    refine AW.region ?_
    refine AL.s rfl (op_moveD (.e rfl)) ?_
    obtain ⟨v6, hv6, hm⟩ := bindE hm
    refine AL.s rfl (op_remM (.r rfl) (.r rfl) hv6) ?_
    refine AL.s rfl (op_addw (.r rfl) (.r rfl)) ?_
    refine AL.s rfl (op_conv_int (.r rfl) ⟨_, Tryz.underlying3⟩ Tryz.underlying5) ?_
    refine AL.s rfl (op_buildSlice (ds := ([(IntKind.u8.wrap (IntKind.i64.wrap ((48 : Int) + v6)))] : List Int).map (D.int .u8)) sl97 (.cons (.r rfl) rfl (En.int.one _) .nil) rfl (by decide)) ?_
    refine AL.s rfl (op_textM (.r rfl) Tryz.underlying97 Tryz.underlying9 Tryz.underlying5) ?_
    refine AL.s rfl (op_moveD (.e rfl)) ?_
    obtain ⟨v7, hv7, hm⟩ := bindE hm
    refine AL.s rfl (op_addSM (.r rfl) (.r rfl) hv7) ?_
    refine AL.s rfl (op_assignD (.e rfl)) ?_
    refine AL.nil ?_
    refine bq_n ?_
    refine nq ?_
    refine AW.region ?_
    refine AL.s rfl (op_moveD (.e rfl)) ?_
    obtain ⟨v8, hv8, hm⟩ := bindE hm
    refine AL.s rfl (op_quoM (.r rfl) (.r rfl) hv8) ?_
    refine AL.s rfl (op_assignD (.e rfl)) ?_
    refine AL.nil ?_
    obtain rfl := Option.some.inj hm
    exact nq ⟨_, hI1, ⟨[], rfl, rfl, rfl, ⟨(.d rfl), (.d rfl), trivial⟩, trivial, .nil⟩⟩
  · replace hm := iteF hc1 hm
    refine AW.exit ?_
    refine tq_exit ?_
    refine tq_exit ?_
    obtain rfl := Option.some.inj hm
    obtain rfl := Option.some.inj hI1
    replace hm := hk1
    try dsimp only at hm
    refine bq_hit ?_
    refine nq ?_
    refine AW.seqR ?_
    refine AL.s rfl (op_moveD (.e rfl)) ?_
    refine AL.s rfl (op_assignD (.e rfl)) ?_
    refine AL.nil ?_
    refine AW.ret ?_
    obtain rfl := Option.some.inj hm
    exact EndQ.d (.tmp (.e rfl) .nil) rfl rfl

set_option maxHeartbeats 20000000 in
theorem m_ref31_Explain_ok {n : Nat} {a1 : A7} {a2 : A73} {r : ((List (List UInt8)) × Int)} (hm : m_ref31_Explain n a1 a2 = some r) : Fn Tryz.prog 15 [(A7.e a1), (A73.e a2)] (.tup [(.sl (r.1.map D.str)), (.int .i64 r.2)]) := by
  unfold m_ref31_Explain at hm
  refine Fn.of_AW (fnn := Tryz.f15) Tryz.func15 rfl (Nat.le_of_ble_eq_true rfl) (fun g0 w0 hw0 => ?_)
  refine AW.reset 0 [(0, .d (A7.e a1)), (1, .d (A73.e a2))] [] (WOK.g0 hw0 (by simp)) ⟨[], rfl, rfl, rfl, ⟨(.d rfl), (.d rfl), trivial⟩, trivial, .nil⟩ ?_
  refine AW.seqR ?_
  refine AL.s rfl (op_box (n := 0) (.e rfl) rfl rfl rfl) ?_
  refine AL.s rfl (op_box (n := 1) (.e rfl) rfl rfl rfl) ?_
  refine AL.s rfl (op_assignN (.e rfl)) ?_
  refine AL.s rfl (op_assignD (.e rfl)) ?_
  refine AL.nil ?_
  refine AW.seq ?_
  refine AW.seqR ?_
  refine AL.s rfl (op_load_ptrA (.e rfl) rfl rfl rfl ag60) ?_
  refine AL.s rfl (op_load_ptrA (.e rfl) rfl rfl rfl ag53) ?_
  obtain ⟨v3, hv3, hm⟩ := bindE hm
  refine AL.s rfl (op_fn Tryz.call37 (.e rfl) (.cons (.r rfl) (.cons (.r rfl) .nil)) (m_ref31_Factors_ok hv3)) ?_
  refine AL.s rfl (op_moveD (.e rfl)) ?_
  refine AL.s rfl (op_extractD (.e rfl) rfl) ?_
  refine AL.s rfl (op_extractD (.e rfl) rfl) ?_
  refine AL.s rfl (op_assignD (.e rfl)) ?_
  refine AL.s rfl (op_assignD (.e rfl)) ?_
  refine AL.nil ?_
  refine AW.seqR ?_
  refine AL.s rfl (op_moveD (.e rfl)) ?_
  refine AL.s rfl (op_neq (.r rfl) (.r rfl)) ?_
  refine AL.nil ?_
  refine AW.cond (b := _) rfl (fun hc1 => ?_) (fun hc1 => ?_)
  · replace hm := iteT hc1 hm
    refine AW.seqR ?_
    refine AL.s rfl (op_moveD (.e rfl)) ?_
    refine AL.s rfl (op_assignN (.e rfl)) ?_
    refine AL.s rfl (op_assignD (.e rfl)) ?_
    refine AL.nil ?_
    refine AW.ret ?_
    refine tq_ret ?_
    obtain rfl := Option.some.inj hm
    exact EndQ.d (.tmp (.e rfl) (.tmp (.e rfl) .nil)) rfl rfl
  · replace hm := iteF hc1 hm
    refine AW.skip ?_
    refine nq ?_
    refine AW.seqR ?_
    refine AL.s rfl (op_assignN (.e rfl)) ?_
    refine AL.nil ?_
    refine AW.seq ?_
    refine AW.seqR ?_
    refine AL.s rfl (op_assignD (.e rfl)) ?_
    refine AL.nil ?_
    refine AW.block ?_
    refine AW.tokenize (n := 2) 8 9 1 rfl rfl (by simp) ?_
    obtain ⟨t_1, hI1, hk1⟩ := bindE hm
    refine AW.loopS (σ := ((List (List UInt8)) × Int)) (τ := (List (List UInt8))) 0 (fun x => [(2, .ptr 0 0), (3, .ptr 1 0), (8, .tk 2 (x.1.map D.str)), (9, .d (.int .i64 x.2))]) (fun x => [.row ((A7.e a1).cells.map .d), .row [.d (.int .i64 a2.e0), .d (.int .i64 a2.e1), .d (.int .i64 a2.e2), .d (.int .i64 a2.e3), .d (.int .i64 a2.e4), .d (.int .i64 a2.e5), .d (.int .i64 a2.e6)], .tok x.1.length 9 1]) hI1 (WOK.g0 hw0 (by simp)) ⟨[0, 1, 2], rfl, rfl, rfl, ⟨(.ptr rfl), (.ptr rfl), (.tk rfl), (.d rfl), trivial⟩, trivial, (.row rfl (cd (A7.e a1).cells) (.row rfl (.cons (.d rfl) (.cons (.d rfl) (.cons (.d rfl) (.cons (.d rfl) (.cons (.d rfl) (.cons (.d rfl) (.cons (.d rfl) .nil))))))) (.tok rfl .nil)))⟩ ?_
    rintro n1 ⟨s4, s5⟩ hI1
    obtain ⟨y_1, hm, hI1⟩ := iterS hI1
    replace hm : m_ref31_Explain_L1 n _ _ s4 s5 = some y_1 := hm
    unfold m_ref31_Explain_L1 at hm
    try dsimp only at hm
    refine AW.seq ?_
    refine AW.seqR ?_
    refine AL.s rfl (op_moveD (.e rfl)) ?_
    refine AL.s rfl (op_lss (.r rfl) (.r rfl)) ?_
    refine AL.nil ?_
    refine AW.cond (b := _) rfl (fun hc2 => ?_) (fun hc2 => ?_)
    · replace hm := iteT hc2 hm
      refine AW.skip ?_
      refine nq ?_
      obtain ⟨t_j1, hm, hkj1⟩ := bindE hm
      refine AW.cutS (α := (List (List UInt8))) 0 (fun x => x = t_j1) (fun x => [(2, .ptr 0 0), (3, .ptr 1 0), (8, .tk 2 (x.map D.str)), (9, .d (.int .i64 s5))]) (fun x => [.row ((A7.e a1).cells.map .d), .row [.d (.int .i64 a2.e0), .d (.int .i64 a2.e1), .d (.int .i64 a2.e2), .d (.int .i64 a2.e3), .d (.int .i64 a2.e4), .d (.int .i64 a2.e5), .d (.int .i64 a2.e6)], .tok x.length 9 1]) (WOK.g0 hw0 (by simp)) ?_ ?_
      · skip
        refine AW.block ?_
        refine AW.seqR ?_
        refine AL.s rfl (op_moveD (.e rfl)) ?_
        obtain ⟨v6, hv6, hm⟩ := bindE hm
        refine AL.s rfl (op_indexA (l := a2.l) (s := 1) (.e rfl) (.r rfl) hv6 rfl Tryz.underlying53 ⟨_, rfl, rfl⟩) ?_
        refine AL.s rfl (op_loadAt1 (X := (A73.e a2).cells) (.e rfl) rfl (AtD.ix (f := D.i) (l := a2.l) En.i (AtD.root : AtD (A73.e a2).cells 0 _ _) hv6) sc3) ?_
        refine AL.s rfl (op_neq (.r rfl) (.r rfl)) ?_
        refine AL.nil ?_
        refine AW.cond (b := _) rfl (fun hc3 => ?_) (fun hc3 => ?_)
        · replace hm := iteT hc3 hm
          refine AW.free ?_
          refine AW.seqD [([], []), ([], []), ([], []), ([1], []), ([], []), ([], []), ([], []), ([0], []), ([], [3]), ([3], [3])] mo (by decide +kernel) ?_
          refine AD.s (ws := []) rfl rfl (fun H' _ hH => op_moveD (.e rfl)) ?_
          refine AD.s (ws := []) rfl rfl (fun H' _ hH => op_moveD (.e rfl)) ?_
          obtain ⟨v7, hv7, hm⟩ := bindE hm
          refine AD.s (ws := []) rfl rfl (fun H' _ hH => op_indexA (l := a2.l) (s := 1) (.e rfl) (.r rfl) hv7 rfl Tryz.underlying53 ⟨_, rfl, rfl⟩) ?_
          refine AD.s (ws := []) rfl rfl (fun H' _ hH => op_loadAt1 (X := (A73.e a2).cells) (.e rfl) ((hH _ (by simp)).trans rfl) (AtD.ix (f := D.i) (l := a2.l) En.i (AtD.root : AtD (A73.e a2).cells 0 _ _) hv7) sc3) ?_
          refine AD.s (ws := []) rfl rfl (fun H' _ hH => op_subw (.r rfl) (.r rfl)) ?_
          obtain ⟨v8, hv8, hm⟩ := bindE hm
          refine AD.s (ws := []) rfl rfl (fun H' _ hH => op_indexA (l := a1.l) (s := 6) (.e rfl) (.r rfl) hv8 rfl Tryz.underlying60 ⟨_, rfl, rfl⟩) ?_
          obtain ⟨v9, hv9, hm⟩ := bindE hm
          refine AD.s (ws := []) rfl rfl (fun H' _ hH => op_indexA (l := v8.l) (s := 2) (.e rfl) (.r rfl) hv9 rfl Tryz.underlying58 ⟨_, rfl, rfl⟩) ?_
          refine AD.s (ws := []) rfl rfl (fun H' _ hH => op_loadAtA (X := (A7.e a1).cells) (.e rfl) ((hH _ (by simp)).trans rfl) (AtD.ix (f := SRatio.e) (l := v8.l) enSRatio (AtD.ix (f := A3.e) (l := a1.l) enA3 (AtD.root : AtD (A7.e a1).cells 0 _ _) hv8) hv9) ag57) ?_
          refine AD.s (ws := [(3, _)]) rfl rfl (fun H' _ hH => op_allocR zr57 ((hH _ (by simp)).trans rfl)) ?_
          refine AD.s (ws := [(3, _)]) rfl rfl (fun H' _ hH => op_store (.e rfl) (.e rfl) ((hH _ (by simp)).trans rfl) rfl rfl ⟨_, rfl, rfl⟩ rfl (Nat.le_of_ble_eq_true rfl)) ?_
          refine AD.nil ?_
          refine AW.reset 0 [(2, .ptr 0 0), (3, .ptr 1 0), (8, .tk 2 (s4.map D.str)), (9, .d (.int .i64 s5)), (10, .ptr 3 0)] [.row ((A7.e a1).cells.map .d), .row [.d (.int .i64 a2.e0), .d (.int .i64 a2.e1), .d (.int .i64 a2.e2), .d (.int .i64 a2.e3), .d (.int .i64 a2.e4), .d (.int .i64 a2.e5), .d (.int .i64 a2.e6)], .tok s4.length 9 1, .row [.d (.int .i64 v9.fNum), .d (.int .i64 v9.fDen)]] (WOK.g0 hw0 (by simp)) ⟨[0, 1, 2, 3], rfl, rfl, rfl, ⟨(.ptr rfl), (.ptr rfl), (.tk rfl), (.d rfl), (.ptr rfl), trivial⟩, trivial, (.row rfl (cd (A7.e a1).cells) (.row rfl (.cons (.d rfl) (.cons (.d rfl) (.cons (.d rfl) (.cons (.d rfl) (.cons (.d rfl) (.cons (.d rfl) (.cons (.d rfl) .nil))))))) (.tok rfl (.row rfl (.cons (.d rfl) (.cons (.d rfl) .nil)) .nil))))⟩ ?_
          refine AW.free ?_
          refine AW.drawn [([], []), ([], []), ([], []), ([], []), ([], []), ([1], []), ([], []), ([], []), ([], []), ([3], []), ([], []), ([], []), ([], []), ([], []), ([3], []), ([], []), ([], []), ([], []), ([2], [2]), ([], [])] mo (by decide +kernel) ?_
          refine AD.s (ws := []) rfl rfl (fun H' _ hH => op_moveT (.e rfl)) ?_
          refine AD.s (ws := []) rfl rfl (fun H' _ hH => op_moveD (.e rfl)) ?_
          obtain ⟨v10, hv10, hm⟩ := bindE hm
          refine AD.s (ws := []) rfl rfl (fun H' _ hH => op_fn Tryz.call38 (.e rfl) (.cons (.r rfl) .nil) (m_ref31_name_ok hv10)) ?_
          refine AD.s (ws := []) rfl rfl (fun H' _ hH => op_moveD (.e rfl)) ?_
          obtain ⟨v11, hv11, hm⟩ := bindE hm
          refine AD.s (ws := []) rfl rfl (fun H' _ hH => op_indexA (l := a2.l) (s := 1) (.e rfl) (.r rfl) hv11 rfl Tryz.underlying53 ⟨_, rfl, rfl⟩) ?_
          refine AD.s (ws := []) rfl rfl (fun H' _ hH => op_loadAt1 (X := (A73.e a2).cells) (.e rfl) ((hH _ (by simp)).trans rfl) (AtD.ix (f := D.i) (l := a2.l) En.i (AtD.root : AtD (A73.e a2).cells 0 _ _) hv11) sc3) ?_
          obtain ⟨v12, hv12, hm⟩ := bindE hm
          refine AD.s (ws := []) rfl rfl (fun H' _ hH => op_fn Tryz.call39 (.e rfl) (.cons (.r rfl) .nil) (m_ref31_verb_ok hv12)) ?_
          obtain ⟨v13, hv13, hm⟩ := bindE hm
          refine AD.s (ws := []) rfl rfl (fun H' _ hH => op_addSM (.r rfl) (.r rfl) hv13) ?_
          refine AD.s (ws := []) rfl rfl (fun H' _ hH => op_field_ptr (.e rfl) fd57_0) ?_
          refine AD.s (ws := []) rfl rfl (fun H' _ hH => op_load_ptr1 (.e rfl) ((hH _ (by simp)).trans rfl) rfl sc3) ?_
          obtain ⟨v14, hv14, hm⟩ := bindE hm
          refine AD.s (ws := []) rfl rfl (fun H' _ hH => op_fn Tryz.call40 (.e rfl) (.cons (.r rfl) .nil) (m_ref31_decimal_ok hv14)) ?_
          obtain ⟨v15, hv15, hm⟩ := bindE hm
          refine AD.s (ws := []) rfl rfl (fun H' _ hH => op_addSM (.r rfl) (.r rfl) hv15) ?_
          obtain ⟨v16, hv16, hm⟩ := bindE hm
          refine AD.s (ws := []) rfl rfl (fun H' _ hH => op_addSM (.r rfl) (.r rfl) hv16) ?_
          refine AD.s (ws := []) rfl rfl (fun H' _ hH => op_field_ptr (.e rfl) fd57_1) ?_
          refine AD.s (ws := []) rfl rfl (fun H' _ hH => op_load_ptr1 (.e rfl) ((hH _ (by simp)).trans rfl) rfl sc3) ?_
          obtain ⟨v17, hv17, hm⟩ := bindE hm
          refine AD.s (ws := []) rfl rfl (fun H' _ hH => op_fn Tryz.call40 (.e rfl) (.cons (.r rfl) .nil) (m_ref31_decimal_ok hv17)) ?_
          obtain ⟨v18, hv18, hm⟩ := bindE hm
          refine AD.s (ws := []) rfl rfl (fun H' _ hH => op_addSM (.r rfl) (.r rfl) hv18) ?_
          refine AD.s (ws := []) rfl rfl (fun H' _ hH => op_buildSlice (ds := ([v18] : List (List UInt8)).map D.str) sl24 (.cons (.r rfl) rfl (En.str.one _) .nil) rfl (by decide)) ?_
          obtain ⟨v19, hv19, hm⟩ := bindE hm
          refine AD.s (ws := [(2, _)]) rfl rfl (fun H' _ hH => op_appendM (f := D.str) (l' := ([v18] : List (List UInt8))) sl24 (.e rfl) (.r rfl) ((hH _ (by simp)).trans rfl) rfl En.str hv19) ?_
          refine AD.s (ws := []) rfl rfl (fun H' _ hH => op_assignT (.e rfl)) ?_
          refine AD.nil ?_
          refine bq_n ?_
          obtain rfl := Option.some.inj hm
          exact nq ⟨_, rfl, ⟨[0, 1, 2], rfl, rfl, rfl, ⟨(.ptr rfl), (.ptr rfl), (.tk rfl), (.d rfl), trivial⟩, trivial, (.row rfl (cd (A7.e a1).cells) (.row rfl (.cons (.d rfl) (.cons (.d rfl) (.cons (.d rfl) (.cons (.d rfl) (.cons (.d rfl) (.cons (.d rfl) (.cons (.d rfl) .nil))))))) (.tok rfl .nil)))⟩⟩
        · replace hm := iteF hc3 hm
          refine AW.skip ?_
          refine bq_n ?_
          obtain rfl := Option.some.inj hm
          exact nq ⟨_, rfl, ⟨[0, 1, 2], rfl, rfl, rfl, ⟨(.ptr rfl), (.ptr rfl), (.tk rfl), (.d rfl), trivial⟩, trivial, (.row rfl (cd (A7.e a1).cells) (.row rfl (.cons (.d rfl) (.cons (.d rfl) (.cons (.d rfl) (.cons (.d rfl) (.cons (.d rfl) (.cons (.d rfl) (.cons (.d rfl) .nil))))))) (.tok rfl .nil)))⟩⟩
      · rintro s20 rfl
        replace hm := hkj1
        try dsimp only at hm
        refine AW.region ?_
        refine AL.s rfl (op_moveD (.e rfl)) ?_
        refine AL.s rfl (op_addw (.r rfl) (.r rfl)) ?_
        refine AL.s rfl (op_assignD (.e rfl)) ?_
        refine AL.nil ?_
        obtain rfl := Option.some.inj hm
        exact nq ⟨_, hI1, ⟨[0, 1, 2], rfl, rfl, rfl, ⟨(.ptr rfl), (.ptr rfl), (.tk rfl), (.d rfl), trivial⟩, trivial, (.row rfl (cd (A7.e a1).cells) (.row rfl (.cons (.d rfl) (.cons (.d rfl) (.cons (.d rfl) (.cons (.d rfl) (.cons (.d rfl) (.cons (.d rfl) (.cons (.d rfl) .nil))))))) (.tok rfl .nil)))⟩⟩
    · replace hm := iteF hc2 hm
      refine AW.exit ?_
      refine tq_exit ?_
      refine tq_exit ?_
      obtain rfl := Option.some.inj hm
      obtain rfl := Option.some.inj hI1
      replace hm := hk1
      try dsimp only at hm
      refine bq_hit ?_
      refine nq ?_
      refine AW.seqR ?_
      refine AL.s rfl (op_moveT (.e rfl)) ?_
      refine AL.s rfl (op_assignT (.e rfl)) ?_
      refine AL.s rfl (op_assignD (.e rfl)) ?_
      refine AL.nil ?_
      refine AW.ret ?_
      obtain rfl := Option.some.inj hm
      exact EndQ.d (.tmp (.e rfl) (.tmp (.e rfl) .nil)) rfl rfl

set_option maxHeartbeats 20000000 in
theorem m_ref36_decimal_B_ok {n : Nat} {rc : Int → Option (List UInt8)} {a1 : Int} {r : (List UInt8)} (hrc : ∀ (a1 : Int) (r : (List UInt8)), rc a1 = some r → Fn Tryz.prog 17 [(.int .i64 a1)] (.str r)) (hm : m_ref36_decimal_B n rc a1 = some r) : Fn Tryz.prog 17 [(.int .i64 a1)] (.str r) := by
  unfold m_ref36_decimal_B at hm
  refine Fn.of_AW (fnn := Tryz.f17) Tryz.func17 rfl (Nat.le_of_ble_eq_true rfl) (fun g0 w0 hw0 => ?_)
  refine AW.seqR ?_
  refine AL.s rfl (op_assignD (.e rfl)) ?_
  refine AL.nil ?_
  refine AW.seq ?_
  refine AW.seqR ?_
  refine AL.s rfl (op_moveD (.e rfl)) ?_
  refine AL.s rfl (op_lss (.r rfl) (.r rfl)) ?_
  refine AL.nil ?_
  refine AW.cond (b := _) rfl (fun hc1 => ?_) (fun hc1 => ?_)
  · replace hm := iteT hc1 hm
    refine AW.seq ?_
    refine AW.seqR ?_
    refine AL.s rfl (op_moveD (.e rfl)) ?_
    refine AL.s rfl (op_lss (.r rfl) (.r rfl)) ?_
    refine AL.nil ?_
    refine AW.cond (b := _) rfl (fun hc2 => ?_) (fun hc2 => ?_)
    · replace hm := iteT hc2 hm
      refine AW.reset 0 [(0, .d (.int .i64 a1))] [] (WOK.g0 hw0 (by simp)) ⟨[], rfl, rfl, rfl, ⟨(.d rfl), trivial⟩, trivial, .nil⟩ ?_
      refine AW.seqR ?_
      refine AL.s rfl (op_moveD (.e rfl)) ?_
      obtain ⟨v2, hv2, hm⟩ := bindE hm
      refine AL.s rfl (op_quoM (.r rfl) (.r rfl) hv2) ?_
      refine AL.s rfl (op_negw (.r rfl)) ?_
      obtain ⟨v3, hv3, hm⟩ := bindE hm
      refine AL.s rfl (op_fn Tryz.call17 (.e rfl) (.cons (.r rfl) .nil) (hrc _ _ hv3)) ?_
      obtain ⟨v4, hv4, hm⟩ := bindE hm
      refine AL.s rfl (op_addSM (.r rfl) (.r rfl) hv4) ?_
      refine AL.s rfl (op_moveD (.e rfl)) ?_
      obtain ⟨v5, hv5, hm⟩ := bindE hm
      refine AL.s rfl (op_remM (.r rfl) (.r rfl) hv5) ?_
      refine AL.s rfl (op_negw (.r rfl)) ?_
      obtain ⟨v6, hv6, hm⟩ := bindE hm
      refine AL.s rfl (op_fn Tryz.call17 (.e rfl) (.cons (.r rfl) .nil) (hrc _ _ hv6)) ?_
      obtain ⟨v7, hv7, hm⟩ := bindE hm
      refine AL.s rfl (op_addSM (.r rfl) (.r rfl) hv7) ?_
      refine AL.s rfl (op_assignD (.e rfl)) ?_
      refine AL.nil ?_
      refine AW.ret ?_
      refine tq_ret ?_
      refine tq_ret ?_
      obtain rfl := Option.some.inj hm
      exact EndQ.d (.tmp (.e rfl) .nil) rfl rfl
    · replace hm := iteF hc2 hm
      refine AW.skip ?_
      refine nq ?_
      refine AW.seqR ?_
      refine AL.s rfl (op_moveD (.e rfl)) ?_
      refine AL.s rfl (op_negw (.r rfl)) ?_
      obtain ⟨v8, hv8, hm⟩ := bindE hm
      refine AL.s rfl (op_fn Tryz.call17 (.e rfl) (.cons (.r rfl) .nil) (hrc _ _ hv8)) ?_
      obtain ⟨v9, hv9, hm⟩ := bindE hm
      refine AL.s rfl (op_addSM (.r rfl) (.r rfl) hv9) ?_
      refine AL.s rfl (op_assignD (.e rfl)) ?_
      refine AL.nil ?_
      refine AW.ret ?_
      refine tq_ret ?_
      obtain rfl := Option.some.inj hm
      exact EndQ.d (.tmp (.e rfl) .nil) rfl rfl
  · replace hm := iteF hc1 hm
    refine AW.skip ?_
    refine nq ?_
    refine AW.seq ?_
    refine AW.seqR ?_
    refine AL.s rfl (op_moveD (.e rfl)) ?_
    refine AL.s rfl (op_lss (.r rfl) (.r rfl)) ?_
    refine AL.nil ?_
    refine AW.cond (b := _) rfl (fun hc3 => ?_) (fun hc3 => ?_)
    · replace hm := iteT hc3 hm
      refine AW.seqR ?_
      refine AL.s rfl (op_moveD (.e rfl)) ?_
      refine AL.s rfl (op_addw (.r rfl) (.r rfl)) ?_
      refine AL.s rfl (op_conv_int (.r rfl) ⟨_, Tryz.underlying3⟩ Tryz.underlying5) ?_
      refine AL.s rfl (op_buildSlice (ds := ([(IntKind.u8.wrap (IntKind.i64.wrap ((48 : Int) + a1)))] : List Int).map (D.int .u8)) sl97 (.cons (.r rfl) rfl (En.int.one _) .nil) rfl (by decide)) ?_
      refine AL.s rfl (op_textM (.r rfl) Tryz.underlying97 Tryz.underlying9 Tryz.underlying5) ?_
      refine AL.s rfl (op_assignD (.e rfl)) ?_
      refine AL.nil ?_
      refine AW.ret ?_
      refine tq_ret ?_
      obtain rfl := Option.some.inj hm
      exact EndQ.d (.tmp (.e rfl) .nil) rfl rfl
    · replace hm := iteF hc3 hm
      refine AW.skip ?_
      refine nq ?_
      refine AW.seqR ?_
      refine AL.s rfl (op_moveD (.e rfl)) ?_
      obtain ⟨v10, hv10, hm⟩ := bindE hm
      refine AL.s rfl (op_quoM (.r rfl) (.r rfl) hv10) ?_
      obtain ⟨v11, hv11, hm⟩ := bindE hm
      refine AL.s rfl (op_fn Tryz.call17 (.e rfl) (.cons (.r rfl) .nil) (hrc _ _ hv11)) ?_
      refine AL.s rfl (op_moveD (.e rfl)) ?_
      obtain ⟨v12, hv12, hm⟩ := bindE hm
      refine AL.s rfl (op_remM (.r rfl) (.r rfl) hv12) ?_
      obtain ⟨v13, hv13, hm⟩ := bindE hm
      refine AL.s rfl (op_fn Tryz.call17 (.e rfl) (.cons (.r rfl) .nil) (hrc _ _ hv13)) ?_
      obtain ⟨v14, hv14, hm⟩ := bindE hm
      refine AL.s rfl (op_addSM (.r rfl) (.r rfl) hv14) ?_
      refine AL.s rfl (op_assignD (.e rfl)) ?_
      refine AL.nil ?_
      refine AW.ret ?_
      obtain rfl := Option.some.inj hm
      exact EndQ.d (.tmp (.e rfl) .nil) rfl rfl
theorem m_ref36_decimal_R_ok {n : Nat} : ∀ (k : Nat) (a1 : Int) (r : (List UInt8)), m_ref36_decimal_R n k a1 = some r → Fn Tryz.prog 17 [(.int .i64 a1)] (.str r)
  | 0, _, _, h => by simp [m_ref36_decimal_R] at h
  | k + 1, _, _, h => m_ref36_decimal_B_ok (n := n) (m_ref36_decimal_R_ok (n := n) k) h
theorem m_ref36_decimal_ok {n : Nat} {a1 : Int} {r : (List UInt8)} (hm : m_ref36_decimal n a1 = some r) : Fn Tryz.prog 17 [(.int .i64 a1)] (.str r) := m_ref36_decimal_R_ok n _ _ hm

set_option maxHeartbeats 20000000 in
theorem m_ref36_Print_ok {n : Nat} {a1 : (List SLink)} {r : ((List (List UInt8)) × Int)} (hm : m_ref36_Print n a1 = some r) : Fn Tryz.prog 7 [(.sl (a1.map SLink.e))] (.tup [(.sl (r.1.map D.str)), (.int .i64 r.2)]) := by
  unfold m_ref36_Print at hm
  refine Fn.of_AW (fnn := Tryz.f7) Tryz.func7 rfl (Nat.le_of_ble_eq_true rfl) (fun g0 w0 hw0 => ?_)
  refine AW.reset 0 [(0, .d (.sl (a1.map SLink.e)))] [] (WOK.g0 hw0 (by simp)) ⟨[], rfl, rfl, rfl, ⟨(.d rfl), trivial⟩, trivial, .nil⟩ ?_
  refine AW.seqR ?_
  refine AL.s rfl (op_assignN (.e rfl)) ?_
  refine AL.s rfl (op_assignD (.e rfl)) ?_
  refine AL.nil ?_
  refine AW.seqR ?_
  refine AL.s rfl (op_assignN (.e rfl)) ?_
  refine AL.nil ?_
  refine AW.seq ?_
  refine AW.seqR ?_
  refine AL.s rfl (op_assignD (.e rfl)) ?_
  refine AL.nil ?_
  refine AW.block ?_
  refine AW.tokenize (n := 0) 4 9 1 rfl rfl (by simp) ?_
  obtain ⟨t_1, hI1, hk1⟩ := bindE hm
  refine AW.loopS (σ := ((List (List UInt8)) × Int)) (τ := (((List (List UInt8)) × Int) ⊕ (List (List UInt8)))) 0 (fun x => [(0, .d (.sl (a1.map SLink.e))), (4, .tk 0 (x.1.map D.str)), (5, .d (.int .i64 x.2))]) (fun x => [.tok x.1.length 9 1]) hI1 (WOK.g0 hw0 (by simp)) ⟨[0], rfl, rfl, rfl, ⟨(.d rfl), (.tk rfl), (.d rfl), trivial⟩, trivial, (.tok rfl .nil)⟩ ?_
  rintro n1 ⟨s2, s3⟩ hI1
  obtain ⟨y_1, hm, hI1⟩ := iterS hI1
  replace hm : m_ref36_Print_L1 n _ s2 s3 = some y_1 := hm
  unfold m_ref36_Print_L1 at hm
  try dsimp only at hm
  refine AW.seq ?_
  refine AW.seqR ?_
  refine AL.s rfl (op_moveD (.e rfl)) ?_
  refine AL.s rfl (op_moveD (.e rfl)) ?_
  refine AL.s rfl (op_lenM (f := SLink.e) (.r rfl) sl22) ?_
  refine AL.s rfl (op_lss (.r rfl) (.r rfl)) ?_
  refine AL.nil ?_
  refine AW.cond (b := _) rfl (fun hc1 => ?_) (fun hc1 => ?_)
  · replace hm := iteT hc1 hm
    refine AW.skip ?_
    refine nq ?_
    obtain ⟨t_j1, hm, hkj1⟩ := bindE hm
    refine AW.cutS (α := (List (List UInt8))) 0 (fun x => (.inr x) = t_j1) (fun x => [(0, .d (.sl (a1.map SLink.e))), (4, .tk 0 (x.map D.str)), (5, .d (.int .i64 s3))]) (fun x => [.tok x.length 9 1]) (WOK.g0 hw0 (by simp)) ?_ ?_
    · skip
      refine AW.block ?_
      refine AW.reset 0 [(0, .d (.sl (a1.map SLink.e))), (4, .tk 0 (s2.map D.str)), (5, .d (.int .i64 s3))] [.tok s2.length 9 1] (WOK.g0 hw0 (by simp)) ⟨[0], rfl, rfl, rfl, ⟨(.d rfl), (.tk rfl), (.d rfl), trivial⟩, trivial, (.tok rfl .nil)⟩ ?_
      refine AW.seqR ?_
      refine AL.s rfl (op_moveD (.e rfl)) ?_
      refine AL.s rfl (op_moveD (.e rfl)) ?_
      obtain ⟨v4, hv4, hm⟩ := bindE hm
      refine AL.s rfl (op_indexAddrM (f := SLink.e) (.r rfl) (.r rfl) hv4 enSLink sl22) ?_
      refine AL.s rfl (op_loadA (.e rfl) rfl ag55) ?_
      refine AL.s rfl (op_alloc (n := 1) zr55 rfl) ?_
      refine AL.s rfl (op_store (.e rfl) (.e rfl) rfl rfl rfl ⟨_, rfl, rfl⟩ rfl (Nat.le_of_ble_eq_true rfl)) ?_
      refine AL.nil ?_
      refine AW.seqD [([], []), ([], []), ([1], []), ([], []), ([], []), ([], []), ([], []), ([], []), ([], [])] mo (by decide +kernel) ?_
      obtain ⟨v5, hv5, hm⟩ := bindE hm
      refine AD.s (ws := []) rfl rfl (fun H' _ hH => op_fn Tryz.call16 (.e rfl) .nil (m_ref31_Works_ok hv5)) ?_
      refine AD.s (ws := []) rfl rfl (fun H' _ hH => op_field_ptr (.e rfl) fd55_3) ?_
      refine AD.s (ws := []) rfl rfl (fun H' _ hH => op_load_ptrA (.e rfl) ((hH _ (by simp)).trans rfl) rfl rfl ag53) ?_
      obtain ⟨v6, hv6, hm⟩ := bindE hm
      refine AD.s (ws := []) rfl rfl (fun H' _ hH => op_fn Tryz.call15 (.e rfl) (.cons (.r rfl) (.cons (.r rfl) .nil)) (m_ref31_Explain_ok hv6)) ?_
      refine AD.s (ws := []) rfl rfl (fun H' _ hH => op_moveD (.e rfl)) ?_
      refine AD.s (ws := []) rfl rfl (fun H' _ hH => op_extractD (.e rfl) rfl) ?_
      refine AD.s (ws := []) rfl rfl (fun H' _ hH => op_extractD (.e rfl) rfl) ?_
      refine AD.s (ws := []) rfl rfl (fun H' _ hH => op_assignD (.e rfl)) ?_
      refine AD.s (ws := []) rfl rfl (fun H' _ hH => op_assignD (.e rfl)) ?_
      refine AD.nil ?_
      refine AW.seq ?_
      refine AW.seqR ?_
      refine AL.s rfl (op_moveD (.e rfl)) ?_
      refine AL.s rfl (op_neq (.r rfl) (.r rfl)) ?_
      refine AL.nil ?_
      refine AW.cond (b := _) rfl (fun hc2 => ?_) (fun hc2 => ?_)
      · replace hm := iteT hc2 hm
        refine AW.seqR ?_
        refine AL.s rfl (op_assignN (.e rfl)) ?_
        refine AL.s rfl (op_assignD (.e rfl)) ?_
        refine AL.nil ?_
        refine AW.ret ?_
        refine tq_ret ?_
        refine bq_ret ?_
        refine tq_ret ?_
        obtain rfl := Option.some.inj hm
        replace hm := hkj1
        try dsimp only at hm
        refine tq_ret ?_
        obtain rfl := Option.some.inj hm
        obtain rfl := Option.some.inj hI1
        replace hm := hk1
        try dsimp only at hm
        refine bq_ret ?_
        refine tq_ret ?_
        obtain rfl := Option.some.inj hm
        exact EndQ.d (.tmp (.e rfl) (.tmp (.e rfl) .nil)) rfl rfl
      · replace hm := iteF hc2 hm
        refine AW.skip ?_
        refine nq ?_
        refine AW.seqD [([], []), ([1], []), ([], []), ([], []), ([], []), ([1], []), ([], []), ([], []), ([], [])] mo (by decide +kernel) ?_
        refine AD.s (ws := []) rfl rfl (fun H' _ hH => op_field_ptr (.e rfl) fd55_0) ?_
        refine AD.s (ws := []) rfl rfl (fun H' _ hH => op_load_ptr1 (.e rfl) ((hH _ (by simp)).trans rfl) rfl sc3) ?_
        obtain ⟨v7, hv7, hm⟩ := bindE hm
        refine AD.s (ws := []) rfl rfl (fun H' _ hH => op_fn Tryz.call17 (.e rfl) (.cons (.r rfl) .nil) (m_ref36_decimal_ok hv7)) ?_
        obtain ⟨v8, hv8, hm⟩ := bindE hm
        refine AD.s (ws := []) rfl rfl (fun H' _ hH => op_addSM (.r rfl) (.r rfl) hv8) ?_
        refine AD.s (ws := []) rfl rfl (fun H' _ hH => op_field_ptr (.e rfl) fd55_1) ?_
        refine AD.s (ws := []) rfl rfl (fun H' _ hH => op_load_ptr1 (.e rfl) ((hH _ (by simp)).trans rfl) rfl sc3) ?_
        obtain ⟨v9, hv9, hm⟩ := bindE hm
        refine AD.s (ws := []) rfl rfl (fun H' _ hH => op_fn Tryz.call17 (.e rfl) (.cons (.r rfl) .nil) (m_ref36_decimal_ok hv9)) ?_
        obtain ⟨v10, hv10, hm⟩ := bindE hm
        refine AD.s (ws := []) rfl rfl (fun H' _ hH => op_addSM (.r rfl) (.r rfl) hv10) ?_
        refine AD.s (ws := []) rfl rfl (fun H' _ hH => op_assignD (.e rfl)) ?_
        refine AD.nil ?_
        refine AW.seq ?_
        refine AW.seqR ?_
        refine AL.s rfl (op_field_ptr (.e rfl) fd55_2) ?_
        refine AL.s rfl (op_load_ptr1 (.e rfl) rfl rfl sc4) ?_
        refine AL.nil ?_
        refine AW.cond (b := _) rfl (fun hc3 => ?_) (fun hc3 => ?_)
        · replace hm := iteT hc3 hm
          refine AW.seqR ?_
          refine AL.s rfl (op_moveT (.e rfl)) ?_
          refine AL.s rfl (op_moveD (.e rfl)) ?_
          obtain ⟨v11, hv11, hm⟩ := bindE hm
          refine AL.s rfl (op_addSM (.r rfl) (.r rfl) hv11) ?_
          refine AL.s rfl (op_buildSlice (ds := ([v11] : List (List UInt8)).map D.str) sl24 (.cons (.r rfl) rfl (En.str.one _) .nil) rfl (by decide)) ?_
          obtain ⟨v12, hv12, hm⟩ := bindE hm
          refine AL.s rfl (op_appendM (f := D.str) (l' := ([v11] : List (List UInt8))) sl24 (.e rfl) (.r rfl) rfl rfl En.str hv12) ?_
          refine AL.s rfl (op_assignT (.e rfl)) ?_
          refine AL.nil ?_
          refine AW.exit ?_
          refine tq_exit ?_
          refine bq_hit ?_
          obtain rfl := Option.some.inj hm
          exact nq ⟨_, rfl, ⟨[0], rfl, rfl, rfl, ⟨(.d rfl), (.tk rfl), (.d rfl), trivial⟩, trivial, (.tok rfl .nil)⟩⟩
        · replace hm := iteF hc3 hm
          refine AW.skip ?_
          refine nq ?_
          refine AW.seqR ?_
          refine AL.s rfl (op_moveD (.e rfl)) ?_
          refine AL.s rfl (op_field_ptr (.e rfl) fd55_4) ?_
          refine AL.s rfl (op_load_ptr1 (.e rfl) rfl rfl sc3) ?_
          obtain ⟨v13, hv13, hm⟩ := bindE hm
          refine AL.s rfl (op_fn Tryz.call17 (.e rfl) (.cons (.r rfl) .nil) (m_ref36_decimal_ok hv13)) ?_
          obtain ⟨v14, hv14, hm⟩ := bindE hm
          refine AL.s rfl (op_addSM (.r rfl) (.r rfl) hv14) ?_
          obtain ⟨v15, hv15, hm⟩ := bindE hm
          refine AL.s rfl (op_addSM (.r rfl) (.r rfl) hv15) ?_
          obtain ⟨v16, hv16, hm⟩ := bindE hm
          refine AL.s rfl (op_addSM (.r rfl) (.r rfl) hv16) ?_
          refine AL.s rfl (op_assignD (.e rfl)) ?_
          refine AL.nil ?_
          refine AW.seq ?_
          refine AW.seqR ?_
          refine AL.s rfl (op_assignD (.e rfl)) ?_
          refine AL.nil ?_
          refine AW.block ?_
          obtain ⟨t_2, hI2, hk2⟩ := bindE hm
          refine AW.loopS (σ := ((List UInt8) × Int)) (τ := (List UInt8)) 0 (fun x => [(0, .d (.sl (a1.map SLink.e))), (4, .tk 0 (s2.map D.str)), (5, .d (.int .i64 s3)), (7, .d (.sl (v6.1.map D.str))), (9, .d (.str x.1)), (10, .d (.int .i64 x.2))]) (fun x => [.tok s2.length 9 1, .row ((SLink.e v4).cells.map .d)]) hI2 (WOK.g0 hw0 (by simp)) ⟨[0, 1], rfl, rfl, rfl, ⟨(.d rfl), (.tk rfl), (.d rfl), (.d rfl), (.d rfl), (.d rfl), trivial⟩, trivial, (.tok rfl (.row rfl (cd (SLink.e v4).cells) .nil))⟩ ?_
          rintro n2 ⟨s17, s18⟩ hI2
          obtain ⟨y_2, hm, hI2⟩ := iterS hI2
          replace hm : m_ref36_Print_L2 n _ s17 s18 = some y_2 := hm
          unfold m_ref36_Print_L2 at hm
          try dsimp only at hm
          refine AW.seq ?_
          refine AW.seqR ?_
          refine AL.s rfl (op_moveD (.e rfl)) ?_
          refine AL.s rfl (op_moveD (.e rfl)) ?_
          refine AL.s rfl (op_lenM (f := D.str) (.r rfl) sl24) ?_
          refine AL.s rfl (op_lss (.r rfl) (.r rfl)) ?_
          refine AL.nil ?_
          refine AW.cond (b := _) rfl (fun hc4 => ?_) (fun hc4 => ?_)
          · replace hm := iteT hc4 hm
            refine AW.skip ?_
            refine nq ?_
            refine AW.seq ?_
            refine AW.block ?_
            obtain ⟨t_j2, hm, hkj2⟩ := bindE hm
            refine AW.cutS (α := (List UInt8)) 0 (fun x => x = t_j2) (fun x => [(0, .d (.sl (a1.map SLink.e))), (4, .tk 0 (s2.map D.str)), (5, .d (.int .i64 s3)), (7, .d (.sl (v6.1.map D.str))), (9, .d (.str x)), (10, .d (.int .i64 s18))]) (fun x => [.tok s2.length 9 1, .row ((SLink.e v4).cells.map .d)]) (WOK.g0 hw0 (by simp)) ?_ ?_
            · skip
              refine AW.seqR ?_
              refine AL.s rfl (op_moveD (.e rfl)) ?_
              refine AL.s rfl (op_gtr (.r rfl) (.r rfl)) ?_
              refine AL.nil ?_
              refine AW.cond (b := _) rfl (fun hc5 => ?_) (fun hc5 => ?_)
              · replace hm := iteT hc5 hm
                refine AW.region ?_
                refine AL.s rfl (op_moveD (.e rfl)) ?_
                obtain ⟨v19, hv19, hm⟩ := bindE hm
                refine AL.s rfl (op_addSM (.r rfl) (.r rfl) hv19) ?_
                refine AL.s rfl (op_assignD (.e rfl)) ?_
                refine AL.nil ?_
                obtain rfl := Option.some.inj hm
                exact nq ⟨_, rfl, ⟨[0, 1], rfl, rfl, rfl, ⟨(.d rfl), (.tk rfl), (.d rfl), (.d rfl), (.d rfl), (.d rfl), trivial⟩, trivial, (.tok rfl (.row rfl (cd (SLink.e v4).cells) .nil))⟩⟩
              · replace hm := iteF hc5 hm
                refine AW.skip ?_
                obtain rfl := Option.some.inj hm
                exact nq ⟨_, rfl, ⟨[0, 1], rfl, rfl, rfl, ⟨(.d rfl), (.tk rfl), (.d rfl), (.d rfl), (.d rfl), (.d rfl), trivial⟩, trivial, (.tok rfl (.row rfl (cd (SLink.e v4).cells) .nil))⟩⟩
            · rintro s20 rfl
              replace hm := hkj2
              try dsimp only at hm
              refine AW.region ?_
              refine AL.s rfl (op_moveD (.e rfl)) ?_
              refine AL.s rfl (op_moveD (.e rfl)) ?_
              refine AL.s rfl (op_moveD (.e rfl)) ?_
              obtain ⟨v21, hv21, hm⟩ := bindE hm
              refine AL.s rfl (op_indexAddrM (f := D.str) (.r rfl) (.r rfl) hv21 En.str sl24) ?_
              refine AL.s rfl (op_load_vp1 (.e rfl) rfl sc9) ?_
              obtain ⟨v22, hv22, hm⟩ := bindE hm
              refine AL.s rfl (op_addSM (.r rfl) (.r rfl) hv22) ?_
              refine AL.s rfl (op_assignD (.e rfl)) ?_
              refine AL.nil ?_
              refine bq_n ?_
              refine nq ?_
              refine AW.region ?_
              refine AL.s rfl (op_moveD (.e rfl)) ?_
              refine AL.s rfl (op_addw (.r rfl) (.r rfl)) ?_
              refine AL.s rfl (op_assignD (.e rfl)) ?_
              refine AL.nil ?_
              obtain rfl := Option.some.inj hm
              exact nq ⟨_, hI2, ⟨[0, 1], rfl, rfl, rfl, ⟨(.d rfl), (.tk rfl), (.d rfl), (.d rfl), (.d rfl), (.d rfl), trivial⟩, trivial, (.tok rfl (.row rfl (cd (SLink.e v4).cells) .nil))⟩⟩
          · replace hm := iteF hc4 hm
            refine AW.exit ?_
            refine tq_exit ?_
            refine tq_exit ?_
            obtain rfl := Option.some.inj hm
            obtain rfl := Option.some.inj hI2
            replace hm := hk2
            try dsimp only at hm
            refine bq_hit ?_
            refine nq ?_
            refine AW.region ?_
            refine AL.s rfl (op_moveT (.e rfl)) ?_
            refine AL.s rfl (op_moveD (.e rfl)) ?_
            refine AL.s rfl (op_buildSlice (ds := ([s17] : List (List UInt8)).map D.str) sl24 (.cons (.r rfl) rfl (En.str.one _) .nil) rfl (by decide)) ?_
            obtain ⟨v23, hv23, hm⟩ := bindE hm
            refine AL.s rfl (op_appendM (f := D.str) (l' := ([s17] : List (List UInt8))) sl24 (.e rfl) (.r rfl) rfl rfl En.str hv23) ?_
            refine AL.s rfl (op_assignT (.e rfl)) ?_
            refine AL.nil ?_
            refine bq_n ?_
            obtain rfl := Option.some.inj hm
            exact nq ⟨_, rfl, ⟨[0], rfl, rfl, rfl, ⟨(.d rfl), (.tk rfl), (.d rfl), trivial⟩, trivial, (.tok rfl .nil)⟩⟩
    · rintro s24 rfl
      replace hm := hkj1
      try dsimp only at hm
      refine AW.region ?_
      refine AL.s rfl (op_moveD (.e rfl)) ?_
      refine AL.s rfl (op_addw (.r rfl) (.r rfl)) ?_
      refine AL.s rfl (op_assignD (.e rfl)) ?_
      refine AL.nil ?_
      obtain rfl := Option.some.inj hm
      exact nq ⟨_, hI1, ⟨[0], rfl, rfl, rfl, ⟨(.d rfl), (.tk rfl), (.d rfl), trivial⟩, trivial, (.tok rfl .nil)⟩⟩
  · replace hm := iteF hc1 hm
    refine AW.exit ?_
    refine tq_exit ?_
    refine tq_exit ?_
    obtain rfl := Option.some.inj hm
    obtain rfl := Option.some.inj hI1
    replace hm := hk1
    try dsimp only at hm
    refine bq_hit ?_
    refine nq ?_
    refine AW.seqR ?_
    refine AL.s rfl (op_moveT (.e rfl)) ?_
    refine AL.s rfl (op_assignT (.e rfl)) ?_
    refine AL.s rfl (op_assignD (.e rfl)) ?_
    refine AL.nil ?_
    refine AW.ret ?_
    obtain rfl := Option.some.inj hm
    exact EndQ.d (.tmp (.e rfl) (.tmp (.e rfl) .nil)) rfl rfl

set_option maxHeartbeats 20000000 in
theorem m_law36_own_ok {n : Nat} {a1 : (List SLink)} {r : (List SLink)} (hm : m_law36_own n a1 = some r) : Fn Tryz.prog 6 [(.sl (a1.map SLink.e))] (.sl (r.map SLink.e)) := by
  unfold m_law36_own at hm
  refine Fn.of_AW (fnn := Tryz.f6) Tryz.func6 rfl (Nat.le_of_ble_eq_true rfl) (fun g0 w0 hw0 => ?_)
  refine AW.reset 0 [(0, .d (.sl (a1.map SLink.e)))] [] (WOK.g0 hw0 (by simp)) ⟨[], rfl, rfl, rfl, ⟨(.d rfl), trivial⟩, trivial, .nil⟩ ?_
  refine AW.seqR ?_
  refine AL.s rfl (op_assignN (.e rfl)) ?_
  refine AL.nil ?_
  refine AW.seqR ?_
  refine AL.s rfl (op_assignN (.e rfl)) ?_
  refine AL.nil ?_
  refine AW.seq ?_
  refine AW.seqR ?_
  refine AL.s rfl (op_moveD (.e rfl)) ?_
  refine AL.s rfl (op_lenM (f := SLink.e) (.r rfl) sl22) ?_
  refine AL.s rfl (op_moveD (.e rfl)) ?_
  refine AL.nil ?_
  refine AW.block ?_
  refine AW.tokenize (n := 0) 3 43 11 rfl rfl (by simp) ?_
  obtain ⟨t_1, hI1, hk1⟩ := bindE hm
  refine AW.loopS (σ := ((List SLink) × Int)) (τ := (List SLink)) 0 (fun x => [(3, .tk 0 (x.1.map SLink.e)), (6, .d (.sl (a1.map SLink.e))), (7, .d (.int .i64 (a1.length : Int))), (8, .d (.int .i64 x.2))]) (fun x => [.tok x.1.length 43 11]) hI1 (WOK.g0 hw0 (by simp)) ⟨[0], rfl, rfl, rfl, ⟨(.tk rfl), (.d rfl), (.d rfl), (.d rfl), trivial⟩, trivial, (.tok rfl .nil)⟩ ?_
  rintro n1 ⟨s2, s3⟩ hI1
  obtain ⟨y_1, hm, hI1⟩ := iterS hI1
  replace hm : m_law36_own_L1 n _ s2 s3 = some y_1 := hm
  unfold m_law36_own_L1 at hm
  try dsimp only at hm
  refine AW.seqR ?_
  refine AL.s rfl (op_lss (.r rfl) (.r rfl)) ?_
  refine AL.nil ?_
  refine AW.seq ?_
  refine AW.cond (b := _) rfl (fun hc1 => ?_) (fun hc1 => ?_)
  · replace hm := iteT hc1 hm
    refine AW.skip ?_
    refine nq ?_
    refine AW.seq ?_
    refine AW.block ?_
    refine AW.seqR ?_
    obtain ⟨v4, hv4, hm⟩ := bindE hm
    refine AL.s rfl (op_indexAddrM (f := SLink.e) (.r rfl) (.r rfl) hv4 enSLink sl22) ?_
    refine AL.s rfl (op_loadA (.e rfl) rfl ag55) ?_
    refine AL.s rfl (op_alloc (n := 1) zr55 rfl) ?_
    refine AL.s rfl (op_store (.e rfl) (.e rfl) rfl rfl rfl ⟨_, rfl, rfl⟩ rfl (Nat.le_of_ble_eq_true rfl)) ?_
    refine AL.nil ?_
    refine AW.region ?_
    refine AL.s rfl (op_moveT (.e rfl)) ?_
    refine AL.s rfl (op_field_ptr (.e rfl) fd55_0) ?_
    refine AL.s rfl (op_load_ptr1 (.e rfl) rfl rfl sc3) ?_
    refine AL.s rfl (op_field_ptr (.e rfl) fd55_1) ?_
    refine AL.s rfl (op_load_ptr1 (.e rfl) rfl rfl sc3) ?_
    refine AL.s rfl (op_field_ptr (.e rfl) fd55_2) ?_
    refine AL.s rfl (op_load_ptr1 (.e rfl) rfl rfl sc4) ?_
    refine AL.s rfl (op_field_ptr (.e rfl) fd55_3) ?_
    refine AL.s rfl (op_load_ptrA (.e rfl) rfl rfl rfl ag53) ?_
    refine AL.s rfl (op_field_ptr (.e rfl) fd55_4) ?_
    refine AL.s rfl (op_load_ptr1 (.e rfl) rfl rfl sc3) ?_
    refine AL.s rfl (op_build bd43 (.cons (.e rfl) rfl rfl rfl rfl (Nat.le_of_ble_eq_true rfl) (.cons (.e rfl) rfl rfl rfl rfl (Nat.le_of_ble_eq_true rfl) (.cons (.e rfl) rfl rfl rfl rfl (Nat.le_of_ble_eq_true rfl) (.cons (.e rfl) rfl rfl rfl rfl (Nat.le_of_ble_eq_true rfl) (.cons (.e rfl) rfl rfl rfl rfl (Nat.le_of_ble_eq_true rfl) .nil)))))) ?_
    refine AL.s rfl (op_buildSlice (ds := ([v4] : List SLink).map SLink.e) sl28 (.cons (.r rfl) rfl (enSLink.one _) .nil) rfl (by decide)) ?_
    obtain ⟨v5, hv5, hm⟩ := bindE hm
    refine AL.s rfl (op_appendM (f := SLink.e) (l' := ([v4] : List SLink)) sl28 (.e rfl) (.r rfl) rfl rfl enSLink hv5) ?_
    refine AL.s rfl (op_assignT (.e rfl)) ?_
    refine AL.nil ?_
    refine bq_n ?_
    refine nq ?_
    refine AW.region ?_
    refine AL.s rfl (op_addw (.r rfl) (.r rfl)) ?_
    refine AL.s rfl (op_moveD (.e rfl)) ?_
    refine AL.nil ?_
    obtain rfl := Option.some.inj hm
    exact nq ⟨_, hI1, ⟨[0], rfl, rfl, rfl, ⟨(.tk rfl), (.d rfl), (.d rfl), (.d rfl), trivial⟩, trivial, (.tok rfl .nil)⟩⟩
  · replace hm := iteF hc1 hm
    refine AW.exit ?_
    refine tq_exit ?_
    refine tq_exit ?_
    obtain rfl := Option.some.inj hm
    obtain rfl := Option.some.inj hI1
    replace hm := hk1
    try dsimp only at hm
    refine bq_hit ?_
    refine nq ?_
    refine AW.seqR ?_
    refine AL.s rfl (op_moveT (.e rfl)) ?_
    refine AL.s rfl (op_assignT (.e rfl)) ?_
    refine AL.nil ?_
    refine AW.ret ?_
    obtain rfl := Option.some.inj hm
    exact EndQ.d (.tmp (.e rfl) .nil) rfl rfl

set_option maxHeartbeats 20000000 in
theorem m_ref29_SameTexts_ok {n : Nat} {a1 : (List (List UInt8))} {a2 : (List (List UInt8))} {r : Bool} (hm : m_ref29_SameTexts n a1 a2 = some r) : Fn Tryz.prog 8 [(.sl (a1.map D.str)), (.sl (a2.map D.str))] (.bool r) := by
  unfold m_ref29_SameTexts at hm
  refine Fn.of_AW (fnn := Tryz.f8) Tryz.func8 rfl (Nat.le_of_ble_eq_true rfl) (fun g0 w0 hw0 => ?_)
  refine AW.reset 0 [(0, .d (.sl (a1.map D.str))), (1, .d (.sl (a2.map D.str)))] [] (WOK.g0 hw0 (by simp)) ⟨[], rfl, rfl, rfl, ⟨(.d rfl), (.d rfl), trivial⟩, trivial, .nil⟩ ?_
  refine AW.seqR ?_
  refine AL.s rfl (op_assignD (.e rfl)) ?_
  refine AL.nil ?_
  refine AW.seq ?_
  refine AW.seqR ?_
  refine AL.s rfl (op_moveD (.e rfl)) ?_
  refine AL.s rfl (op_lenM (f := D.str) (.r rfl) sl24) ?_
  refine AL.s rfl (op_moveD (.e rfl)) ?_
  refine AL.s rfl (op_lenM (f := D.str) (.r rfl) sl24) ?_
  refine AL.s rfl (op_neq (.r rfl) (.r rfl)) ?_
  refine AL.nil ?_
  refine AW.cond (b := _) rfl (fun hc1 => ?_) (fun hc1 => ?_)
  · replace hm := iteT hc1 hm
    refine AW.seqR ?_
    refine AL.s rfl (op_assignD (.e rfl)) ?_
    refine AL.nil ?_
    refine AW.ret ?_
    refine tq_ret ?_
    obtain rfl := Option.some.inj hm
    exact EndQ.d (.tmp (.e rfl) .nil) rfl rfl
  · replace hm := iteF hc1 hm
    refine AW.skip ?_
    refine nq ?_
    refine AW.seq ?_
    refine AW.seqR ?_
    refine AL.s rfl (op_assignD (.e rfl)) ?_
    refine AL.nil ?_
    refine AW.block ?_
    obtain ⟨t_1, hI1, hk1⟩ := bindE hm
    refine AW.loopS (σ := Int) (τ := (Bool ⊕ Unit)) 0 (fun x => [(0, .d (.sl (a1.map D.str))), (1, .d (.sl (a2.map D.str))), (5, .d (.int .i64 x))]) (fun x => []) hI1 (WOK.g0 hw0 (by simp)) ⟨[], rfl, rfl, rfl, ⟨(.d rfl), (.d rfl), (.d rfl), trivial⟩, trivial, .nil⟩ ?_
    rintro n1 s3 hI1
    obtain ⟨y_1, hm, hI1⟩ := iterS hI1
    replace hm : m_ref29_SameTexts_L1 n _ _ s3 = some y_1 := hm
    unfold m_ref29_SameTexts_L1 at hm
    try dsimp only at hm
    refine AW.seq ?_
    refine AW.seqR ?_
    refine AL.s rfl (op_moveD (.e rfl)) ?_
    refine AL.s rfl (op_moveD (.e rfl)) ?_
    refine AL.s rfl (op_lenM (f := D.str) (.r rfl) sl24) ?_
    refine AL.s rfl (op_lss (.r rfl) (.r rfl)) ?_
    refine AL.nil ?_
    refine AW.cond (b := _) rfl (fun hc2 => ?_) (fun hc2 => ?_)
    · replace hm := iteT hc2 hm
      refine AW.skip ?_
      refine nq ?_
      refine AW.seq ?_
      refine AW.block ?_
      refine AW.seqD [([], []), ([], []), ([], []), ([], []), ([], []), ([], []), ([], []), ([], []), ([], [])] mo (by decide +kernel) ?_
      refine AD.s (ws := []) rfl rfl (fun H' _ hH => op_moveD (.e rfl)) ?_
      refine AD.s (ws := []) rfl rfl (fun H' _ hH => op_moveD (.e rfl)) ?_
      obtain ⟨v4, hv4, hm⟩ := bindE hm
      refine AD.s (ws := []) rfl rfl (fun H' _ hH => op_indexAddrM (f := D.str) (.r rfl) (.r rfl) hv4 En.str sl24) ?_
      refine AD.s (ws := []) rfl rfl (fun H' _ hH => op_load_vp1 (.e rfl) rfl sc9) ?_
      refine AD.s (ws := []) rfl rfl (fun H' _ hH => op_moveD (.e rfl)) ?_
      refine AD.s (ws := []) rfl rfl (fun H' _ hH => op_moveD (.e rfl)) ?_
      obtain ⟨v5, hv5, hm⟩ := bindE hm
      refine AD.s (ws := []) rfl rfl (fun H' _ hH => op_indexAddrM (f := D.str) (.r rfl) (.r rfl) hv5 En.str sl24) ?_
      refine AD.s (ws := []) rfl rfl (fun H' _ hH => op_load_vp1 (.e rfl) rfl sc9) ?_
      refine AD.s (ws := []) rfl rfl (fun H' _ hH => op_neqS (.r rfl) (.r rfl)) ?_
      refine AD.nil ?_
      refine AW.cond (b := _) rfl (fun hc3 => ?_) (fun hc3 => ?_)
      · replace hm := iteT hc3 hm
        refine AW.seqR ?_
        refine AL.s rfl (op_assignD (.e rfl)) ?_
        refine AL.nil ?_
        refine AW.ret ?_
        refine bq_ret ?_
        refine tq_ret ?_
        refine tq_ret ?_
        obtain rfl := Option.some.inj hm
        obtain rfl := Option.some.inj hI1
        replace hm := hk1
        try dsimp only at hm
        refine bq_ret ?_
        refine tq_ret ?_
        obtain rfl := Option.some.inj hm
        exact EndQ.d (.tmp (.e rfl) .nil) rfl rfl
      · replace hm := iteF hc3 hm
        refine AW.skip ?_
        refine bq_n ?_
        refine nq ?_
        refine AW.region ?_
        refine AL.s rfl (op_moveD (.e rfl)) ?_
        refine AL.s rfl (op_addw (.r rfl) (.r rfl)) ?_
        refine AL.s rfl (op_assignD (.e rfl)) ?_
        refine AL.nil ?_
        obtain rfl := Option.some.inj hm
        exact nq ⟨_, hI1, ⟨[], rfl, rfl, rfl, ⟨(.d rfl), (.d rfl), (.d rfl), trivial⟩, trivial, .nil⟩⟩
    · replace hm := iteF hc2 hm
      refine AW.exit ?_
      refine tq_exit ?_
      refine tq_exit ?_
      obtain rfl := Option.some.inj hm
      obtain rfl := Option.some.inj hI1
      replace hm := hk1
      try dsimp only at hm
      refine bq_hit ?_
      refine nq ?_
      refine AW.seqR ?_
      refine AL.s rfl (op_assignD (.e rfl)) ?_
      refine AL.nil ?_
      refine AW.ret ?_
      obtain rfl := Option.some.inj hm
      exact EndQ.d (.tmp (.e rfl) .nil) rfl rfl

end Go.Proofs.YtindppnanjcoaaaGreatDoor.Ab
