/- The functions do what they are in plain Lean. Conditions: none. -/
import Derived.Test.YtgcmhhcopeiomaaTy
import Derived.Test.YtgcmhhcopeiomaaMi
import Derived.Test.YtgcmhhcopeiomaaFe
set_option maxRecDepth 100000
namespace Go.Proofs.Ytgcmhhcopeiomaa.Ab
open Go
attribute [local irreducible] AL AD AW

set_option maxHeartbeats 20000000 in
theorem m_law31_MatchSums_ok {n : Nat} {a1 : A72} {a2 : A7} {r : Bool} (hm : m_law31_MatchSums n a1 a2 = some r) : Fn Try.prog 4 [(A72.e a1), (A7.e a2)] (.bool r) := by
  unfold m_law31_MatchSums at hm
  refine Fn.of_AW (fnn := Try.f4) Try.func4 rfl (Nat.le_of_ble_eq_true rfl) (fun g0 w0 hw0 => ?_)
  refine AW.reset 0 [(0, .d (A72.e a1)), (1, .d (A7.e a2))] [] (WOK.g0 hw0 (by simp)) ⟨[], rfl, rfl, rfl, ⟨(.d rfl), (.d rfl), trivial⟩, trivial, .nil⟩ ?_
  refine AW.seqR ?_
  refine AL.s rfl (op_box (n := 0) (.e rfl) rfl rfl rfl) ?_
  refine AL.s rfl (op_box (n := 1) (.e rfl) rfl rfl rfl) ?_
  refine AL.s rfl (op_assignD (.e rfl)) ?_
  refine AL.nil ?_
  refine AW.seq ?_
  refine AW.seqR ?_
  obtain ⟨v3, hv3, hm⟩ := bindE hm
  refine AL.s rfl (op_fn Try.call7 (.e rfl) .nil (m_law31_awake_ok hv3)) ?_
  refine AL.s rfl (op_not (.r rfl)) ?_
  refine AL.s rfl (op_moveD (.e rfl)) ?_
  refine AL.sF rfl rfl rfl rfl (fun g => op_load_ptrA (.e rfl) rfl rfl rfl ag49) ?_
  obtain ⟨v4, hv4, hm⟩ := bindE hm
  refine AL.sF rfl rfl rfl rfl (fun g => op_fn Try.call15 (.e rfl) (.cons (.we (nt g) rfl rfl) .nil) (m_ref31_Valid_ok (iteT (nt g) hv4))) ?_
  refine AL.sF rfl rfl rfl rfl (fun g => op_not (.we (nt g) rfl rfl)) ?_
  refine AL.s rfl (op_or (.r rfl) rfl (fun h => (.we (nt h) rfl rfl))) ?_
  refine AL.nil ?_
  refine AW.cond (b := _) rfl (fun hc1 => ?_) (fun hc1 => ?_)
  · replace hm := iteT hc1 hm
    refine AW.seqR ?_
    obtain ⟨v5, hv5, hm⟩ := bindE hm
    refine AL.s rfl (op_fn Try.call7 (.e rfl) .nil (m_law31_awake_ok hv5)) ?_
    refine AL.s rfl (op_assignD (.e rfl)) ?_
    refine AL.nil ?_
    refine AW.ret ?_
    refine tq_ret ?_
    obtain rfl := Option.some.inj hm
    exact EndQ.d (.tmp (.e rfl) .nil) rfl rfl
  · replace hm := iteF hc1 hm
    refine AW.skip ?_
    refine nq ?_
    refine AW.seq ?_
    refine AW.seqR ?_
    refine AL.s rfl (op_moveD (.e rfl)) ?_
    refine AL.nil ?_
    refine AW.block ?_
    obtain ⟨t_1, hI1, hk1⟩ := bindE hm
    refine AW.loopS (σ := (Int × A7)) (τ := A7) 0 (fun x => [(2, .ptr 0 0), (3, .ptr 1 0), (23, .d (.int .i64 x.1))]) (fun x => [.row [.d (.int .i64 a1.e0.e0.fNum), .d (.int .i64 a1.e0.e0.fDen), .d (.int .i64 a1.e0.e1.fNum), .d (.int .i64 a1.e0.e1.fDen), .d (.int .i64 a1.e0.e2.fNum), .d (.int .i64 a1.e0.e2.fDen), .d (.int .i64 a1.e1.e0.fNum), .d (.int .i64 a1.e1.e0.fDen), .d (.int .i64 a1.e1.e1.fNum), .d (.int .i64 a1.e1.e1.fDen), .d (.int .i64 a1.e1.e2.fNum), .d (.int .i64 a1.e1.e2.fDen), .d (.int .i64 a1.e2.e0.fNum), .d (.int .i64 a1.e2.e0.fDen), .d (.int .i64 a1.e2.e1.fNum), .d (.int .i64 a1.e2.e1.fDen), .d (.int .i64 a1.e2.e2.fNum), .d (.int .i64 a1.e2.e2.fDen), .d (.int .i64 a1.e3.e0.fNum), .d (.int .i64 a1.e3.e0.fDen), .d (.int .i64 a1.e3.e1.fNum), .d (.int .i64 a1.e3.e1.fDen), .d (.int .i64 a1.e3.e2.fNum), .d (.int .i64 a1.e3.e2.fDen), .d (.int .i64 a1.e4.e0.fNum), .d (.int .i64 a1.e4.e0.fDen), .d (.int .i64 a1.e4.e1.fNum), .d (.int .i64 a1.e4.e1.fDen), .d (.int .i64 a1.e4.e2.fNum), .d (.int .i64 a1.e4.e2.fDen), .d (.int .i64 a1.e5.e0.fNum), .d (.int .i64 a1.e5.e0.fDen), .d (.int .i64 a1.e5.e1.fNum), .d (.int .i64 a1.e5.e1.fDen), .d (.int .i64 a1.e5.e2.fNum), .d (.int .i64 a1.e5.e2.fDen), .d (.int .i64 a1.e6.e0.fNum), .d (.int .i64 a1.e6.e0.fDen), .d (.int .i64 a1.e6.e1.fNum), .d (.int .i64 a1.e6.e1.fDen), .d (.int .i64 a1.e6.e2.fNum), .d (.int .i64 a1.e6.e2.fDen)], .row [.d (.int .i64 x.2.e0), .d (.int .i64 x.2.e1), .d (.int .i64 x.2.e2), .d (.int .i64 x.2.e3), .d (.int .i64 x.2.e4), .d (.int .i64 x.2.e5), .d (.int .i64 x.2.e6)]]) hI1 (WOK.g0 hw0 (by simp)) ⟨[0, 1], rfl, rfl, rfl, ⟨(.ptr rfl), (.ptr rfl), (.d rfl), trivial⟩, trivial, (.row rfl (.cons (.d rfl) (.cons (.d rfl) (.cons (.d rfl) (.cons (.d rfl) (.cons (.d rfl) (.cons (.d rfl) (.cons (.d rfl) (.cons (.d rfl) (.cons (.d rfl) (.cons (.d rfl) (.cons (.d rfl) (.cons (.d rfl) (.cons (.d rfl) (.cons (.d rfl) (.cons (.d rfl) (.cons (.d rfl) (.cons (.d rfl) (.cons (.d rfl) (.cons (.d rfl) (.cons (.d rfl) (.cons (.d rfl) (.cons (.d rfl) (.cons (.d rfl) (.cons (.d rfl) (.cons (.d rfl) (.cons (.d rfl) (.cons (.d rfl) (.cons (.d rfl) (.cons (.d rfl) (.cons (.d rfl) (.cons (.d rfl) (.cons (.d rfl) (.cons (.d rfl) (.cons (.d rfl) (.cons (.d rfl) (.cons (.d rfl) (.cons (.d rfl) (.cons (.d rfl) (.cons (.d rfl) (.cons (.d rfl) (.cons (.d rfl) (.cons (.d rfl) .nil)))))))))))))))))))))))))))))))))))))))))) (.row rfl (.cons (.d rfl) (.cons (.d rfl) (.cons (.d rfl) (.cons (.d rfl) (.cons (.d rfl) (.cons (.d rfl) (.cons (.d rfl) .nil))))))) .nil))⟩ ?_
    rintro n1 ⟨s6, s7⟩ hI1
    obtain ⟨y_1, hm, hI1⟩ := iterS hI1
    replace hm : m_law31_MatchSums_L1 n s6 s7 = some y_1 := hm
    unfold m_law31_MatchSums_L1 at hm
    try dsimp only at hm
    refine AW.seqR ?_
    refine AL.s rfl (op_lss (.r rfl) (.r rfl)) ?_
    refine AL.nil ?_
    refine AW.seq ?_
    refine AW.cond (b := _) rfl (fun hc2 => ?_) (fun hc2 => ?_)
    · replace hm := iteT hc2 hm
      refine AW.skip ?_
      refine nq ?_
      refine AW.seq ?_
      refine AW.block ?_
      refine AW.seqR ?_
      refine AL.s rfl (op_moveD (.e rfl)) ?_
      refine AL.s rfl (op_assignD (.e rfl)) ?_
      refine AL.nil ?_
      refine AW.region ?_
      refine AL.s rfl (op_moveD (.e rfl)) ?_
      refine AL.s rfl (op_moveD (.e rfl)) ?_
      obtain ⟨v8, hv8, hm⟩ := bindE hm
      refine AL.s rfl (op_indexA (l := s7.l) (s := 1) (.e rfl) (.r rfl) hv8 rfl Try.underlying27 ⟨_, rfl, rfl⟩) ?_
      refine AL.s rfl (op_loadAt1 (X := (A7.e s7).cells) (.e rfl) rfl (AtD.ix (f := D.i) (l := s7.l) En.i (AtD.root : AtD (A7.e s7).cells 0 _ _) hv8) sc3) ?_
      refine AL.s rfl (op_andM (.r rfl) (.r rfl)) ?_
      obtain ⟨v9, hv9, hm⟩ := bindE hm
      refine AL.s rfl (op_indexA (l := s7.l) (s := 1) (.e rfl) (.r rfl) hv9 rfl Try.underlying27 ⟨_, rfl, rfl⟩) ?_
      obtain ⟨v10, hv10, hm⟩ := bindE hm
      refine AL.s rfl (op_storeAt (X := (A7.e s7).cells) (X' := (A7.e v10).cells) (.e rfl) (.e rfl) rfl (AtD.ix (f := D.i) (l := s7.l) En.i (AtD.root : AtD (A7.e s7).cells 0 _ _) hv9) (PutD.ix (f := D.i) (l := s7.l) (l' := v10.l) En.i (AtD.root : AtD (A7.e s7).cells 0 _ _) (PutD.root rfl : PutD (A7.e s7).cells 0 _ _ (A7.e v10).cells) (A7.put_l hv10)) rfl rfl ⟨_, rfl, rfl⟩) ?_
      refine AL.nil ?_
      refine bq_n ?_
      refine nq ?_
      refine AW.region ?_
      refine AL.s rfl (op_addw (.r rfl) (.r rfl)) ?_
      refine AL.s rfl (op_moveD (.e rfl)) ?_
      refine AL.nil ?_
      obtain rfl := Option.some.inj hm
      exact nq ⟨_, hI1, ⟨[0, 1], rfl, rfl, rfl, ⟨(.ptr rfl), (.ptr rfl), (.d rfl), trivial⟩, trivial, (.row rfl (.cons (.d rfl) (.cons (.d rfl) (.cons (.d rfl) (.cons (.d rfl) (.cons (.d rfl) (.cons (.d rfl) (.cons (.d rfl) (.cons (.d rfl) (.cons (.d rfl) (.cons (.d rfl) (.cons (.d rfl) (.cons (.d rfl) (.cons (.d rfl) (.cons (.d rfl) (.cons (.d rfl) (.cons (.d rfl) (.cons (.d rfl) (.cons (.d rfl) (.cons (.d rfl) (.cons (.d rfl) (.cons (.d rfl) (.cons (.d rfl) (.cons (.d rfl) (.cons (.d rfl) (.cons (.d rfl) (.cons (.d rfl) (.cons (.d rfl) (.cons (.d rfl) (.cons (.d rfl) (.cons (.d rfl) (.cons (.d rfl) (.cons (.d rfl) (.cons (.d rfl) (.cons (.d rfl) (.cons (.d rfl) (.cons (.d rfl) (.cons (.d rfl) (.cons (.d rfl) (.cons (.d rfl) (.cons (.d rfl) (.cons (.d rfl) (.cons (.d rfl) .nil)))))))))))))))))))))))))))))))))))))))))) (.row rfl (.cons (.d rfl) (.cons (.d rfl) (.cons (.d rfl) (.cons (.d rfl) (.cons (.d rfl) (.cons (.d rfl) (.cons (.d rfl) .nil))))))) .nil))⟩⟩
    · replace hm := iteF hc2 hm
      refine AW.exit ?_
      refine tq_exit ?_
      refine tq_exit ?_
      obtain rfl := Option.some.inj hm
      obtain rfl := Option.some.inj hI1
      replace hm := hk1
      try dsimp only at hm
      refine bq_hit ?_
      refine nq ?_
      refine AW.seqD [([0], []), ([], []), ([1], []), ([], []), ([], []), ([], []), ([], []), ([], []), ([], [])] mo (by decide +kernel) ?_
      refine AD.s (ws := []) rfl rfl (fun H' _ hH => op_load_ptrA (.e rfl) ((hH _ (by simp)).trans rfl) rfl rfl ag49) ?_
      obtain ⟨v11, hv11, hm⟩ := bindE hm
      refine AD.s (ws := []) rfl rfl (fun H' _ hH => op_fn Try.call17 (.e rfl) (.cons (.r rfl) .nil) (m_law31_Own_ok hv11)) ?_
      refine AD.s (ws := []) rfl rfl (fun H' _ hH => op_load_ptrA (.e rfl) ((hH _ (by simp)).trans rfl) rfl rfl ag27) ?_
      obtain ⟨v12, hv12, hm⟩ := bindE hm
      refine AD.s (ws := []) rfl rfl (fun H' _ hH => op_fn Try.call16 (.e rfl) (.cons (.r rfl) (.cons (.r rfl) .nil)) (m_match_Factors_ok hv12)) ?_
      refine AD.s (ws := []) rfl rfl (fun H' _ hH => op_moveD (.e rfl)) ?_
      refine AD.s (ws := []) rfl rfl (fun H' _ hH => op_extractD (.e rfl) rfl) ?_
      refine AD.s (ws := []) rfl rfl (fun H' _ hH => op_extractD (.e rfl) rfl) ?_
      refine AD.s (ws := []) rfl rfl (fun H' _ hH => op_assignD (.e rfl)) ?_
      refine AD.s (ws := []) rfl rfl (fun H' _ hH => op_assignD (.e rfl)) ?_
      refine AD.nil ?_
      refine AW.seqD [([0], []), ([], []), ([1], []), ([], []), ([], []), ([], []), ([], []), ([], []), ([], [])] mo (by decide +kernel) ?_
      refine AD.s (ws := []) rfl rfl (fun H' _ hH => op_load_ptrA (.e rfl) ((hH _ (by simp)).trans rfl) rfl rfl ag49) ?_
      obtain ⟨v13, hv13, hm⟩ := bindE hm
      refine AD.s (ws := []) rfl rfl (fun H' _ hH => op_fn Try.call17 (.e rfl) (.cons (.r rfl) .nil) (m_law31_Own_ok hv13)) ?_
      refine AD.s (ws := []) rfl rfl (fun H' _ hH => op_load_ptrA (.e rfl) ((hH _ (by simp)).trans rfl) rfl rfl ag27) ?_
      obtain ⟨v14, hv14, hm⟩ := bindE hm
      refine AD.s (ws := []) rfl rfl (fun H' _ hH => op_fn Try.call14 (.e rfl) (.cons (.r rfl) (.cons (.r rfl) .nil)) (m_match_Weight_ok hv14)) ?_
      refine AD.s (ws := []) rfl rfl (fun H' _ hH => op_moveD (.e rfl)) ?_
      refine AD.s (ws := []) rfl rfl (fun H' _ hH => op_extractD (.e rfl) rfl) ?_
      refine AD.s (ws := []) rfl rfl (fun H' _ hH => op_extractD (.e rfl) rfl) ?_
      refine AD.s (ws := []) rfl rfl (fun H' _ hH => op_assignD (.e rfl)) ?_
      refine AD.s (ws := []) rfl rfl (fun H' _ hH => op_assignD (.e rfl)) ?_
      refine AD.nil ?_
      refine AW.seq ?_
      refine AW.seqR ?_
      refine AL.s rfl (op_moveD (.e rfl)) ?_
      refine AL.s rfl (op_neq (.r rfl) (.r rfl)) ?_
      refine AL.s rfl (op_moveD (.e rfl)) ?_
      refine AL.sF rfl rfl rfl rfl (fun g => op_moveD (.e rfl)) ?_
      refine AL.sF rfl rfl rfl rfl (fun g => op_neq (.we (nt g) rfl rfl) (.r rfl)) ?_
      refine AL.s rfl (op_or (.r rfl) rfl (fun h => (.we (nt h) rfl rfl))) ?_
      refine AL.nil ?_
      refine AW.cond (b := _) rfl (fun hc3 => ?_) (fun hc3 => ?_)
      · replace hm := iteT hc3 hm
        refine AW.seqR ?_
        refine AL.s rfl (op_assignD (.e rfl)) ?_
        refine AL.nil ?_
        refine AW.ret ?_
        refine tq_ret ?_
        obtain rfl := Option.some.inj hm
        exact EndQ.d (.tmp (.e rfl) .nil) rfl rfl
      · replace hm := iteF hc3 hm
        refine AW.skip ?_
        refine nq ?_
        refine AW.seqR ?_
        refine AL.s rfl (op_assignD (.e rfl)) ?_
        refine AL.nil ?_
        refine AW.seq ?_
        refine AW.seqR ?_
        refine AL.s rfl (op_moveD (.e rfl)) ?_
        refine AL.s rfl (op_lenM (f := SRatio.e) (.r rfl) sl51) ?_
        refine AL.s rfl (op_moveD (.e rfl)) ?_
        refine AL.nil ?_
        refine AW.block ?_
        obtain ⟨t_2, hI2, hk2⟩ := bindE hm
        refine AW.loopS (σ := (Int × Int)) (τ := (Bool ⊕ Int)) 0 (fun x => [(6, .d (.sl (v12.1.map SRatio.e))), (8, .d (.int .i64 v14.1)), (10, .d (.int .i64 x.1)), (53, .d (.sl (v12.1.map SRatio.e))), (54, .d (.int .i64 (v12.1.length : Int))), (55, .d (.int .i64 x.2))]) (fun x => [.row [.d (.int .i64 a1.e0.e0.fNum), .d (.int .i64 a1.e0.e0.fDen), .d (.int .i64 a1.e0.e1.fNum), .d (.int .i64 a1.e0.e1.fDen), .d (.int .i64 a1.e0.e2.fNum), .d (.int .i64 a1.e0.e2.fDen), .d (.int .i64 a1.e1.e0.fNum), .d (.int .i64 a1.e1.e0.fDen), .d (.int .i64 a1.e1.e1.fNum), .d (.int .i64 a1.e1.e1.fDen), .d (.int .i64 a1.e1.e2.fNum), .d (.int .i64 a1.e1.e2.fDen), .d (.int .i64 a1.e2.e0.fNum), .d (.int .i64 a1.e2.e0.fDen), .d (.int .i64 a1.e2.e1.fNum), .d (.int .i64 a1.e2.e1.fDen), .d (.int .i64 a1.e2.e2.fNum), .d (.int .i64 a1.e2.e2.fDen), .d (.int .i64 a1.e3.e0.fNum), .d (.int .i64 a1.e3.e0.fDen), .d (.int .i64 a1.e3.e1.fNum), .d (.int .i64 a1.e3.e1.fDen), .d (.int .i64 a1.e3.e2.fNum), .d (.int .i64 a1.e3.e2.fDen), .d (.int .i64 a1.e4.e0.fNum), .d (.int .i64 a1.e4.e0.fDen), .d (.int .i64 a1.e4.e1.fNum), .d (.int .i64 a1.e4.e1.fDen), .d (.int .i64 a1.e4.e2.fNum), .d (.int .i64 a1.e4.e2.fDen), .d (.int .i64 a1.e5.e0.fNum), .d (.int .i64 a1.e5.e0.fDen), .d (.int .i64 a1.e5.e1.fNum), .d (.int .i64 a1.e5.e1.fDen), .d (.int .i64 a1.e5.e2.fNum), .d (.int .i64 a1.e5.e2.fDen), .d (.int .i64 a1.e6.e0.fNum), .d (.int .i64 a1.e6.e0.fDen), .d (.int .i64 a1.e6.e1.fNum), .d (.int .i64 a1.e6.e1.fDen), .d (.int .i64 a1.e6.e2.fNum), .d (.int .i64 a1.e6.e2.fDen)], .row [.d (.int .i64 s7.e0), .d (.int .i64 s7.e1), .d (.int .i64 s7.e2), .d (.int .i64 s7.e3), .d (.int .i64 s7.e4), .d (.int .i64 s7.e5), .d (.int .i64 s7.e6)]]) hI2 (WOK.g0 hw0 (by simp)) ⟨[0, 1], rfl, rfl, rfl, ⟨(.d rfl), (.d rfl), (.d rfl), (.d rfl), (.d rfl), (.d rfl), trivial⟩, trivial, (.row rfl (.cons (.d rfl) (.cons (.d rfl) (.cons (.d rfl) (.cons (.d rfl) (.cons (.d rfl) (.cons (.d rfl) (.cons (.d rfl) (.cons (.d rfl) (.cons (.d rfl) (.cons (.d rfl) (.cons (.d rfl) (.cons (.d rfl) (.cons (.d rfl) (.cons (.d rfl) (.cons (.d rfl) (.cons (.d rfl) (.cons (.d rfl) (.cons (.d rfl) (.cons (.d rfl) (.cons (.d rfl) (.cons (.d rfl) (.cons (.d rfl) (.cons (.d rfl) (.cons (.d rfl) (.cons (.d rfl) (.cons (.d rfl) (.cons (.d rfl) (.cons (.d rfl) (.cons (.d rfl) (.cons (.d rfl) (.cons (.d rfl) (.cons (.d rfl) (.cons (.d rfl) (.cons (.d rfl) (.cons (.d rfl) (.cons (.d rfl) (.cons (.d rfl) (.cons (.d rfl) (.cons (.d rfl) (.cons (.d rfl) (.cons (.d rfl) (.cons (.d rfl) .nil)))))))))))))))))))))))))))))))))))))))))) (.row rfl (.cons (.d rfl) (.cons (.d rfl) (.cons (.d rfl) (.cons (.d rfl) (.cons (.d rfl) (.cons (.d rfl) (.cons (.d rfl) .nil))))))) .nil))⟩ ?_
        rintro n2 ⟨s15, s16⟩ hI2
        obtain ⟨y_2, hm, hI2⟩ := iterS hI2
        replace hm : m_law31_MatchSums_L2 n _ s15 s16 = some y_2 := hm
        unfold m_law31_MatchSums_L2 at hm
        try dsimp only at hm
        refine AW.seqR ?_
        refine AL.s rfl (op_lss (.r rfl) (.r rfl)) ?_
        refine AL.nil ?_
        refine AW.seq ?_
        refine AW.cond (b := _) rfl (fun hc4 => ?_) (fun hc4 => ?_)
        · replace hm := iteT hc4 hm
          refine AW.skip ?_
          refine nq ?_
          refine AW.seq ?_
          refine AW.block ?_
          refine AW.seqR ?_
          obtain ⟨v17, hv17, hm⟩ := bindE hm
          refine AL.s rfl (op_indexAddrM (f := SRatio.e) (.r rfl) (.r rfl) hv17 enSRatio sl51) ?_
          refine AL.s rfl (op_loadA (.e rfl) rfl ag37) ?_
          refine AL.s rfl (op_alloc (n := 2) zr37 rfl) ?_
          refine AL.s rfl (op_store (.e rfl) (.e rfl) rfl rfl rfl ⟨_, rfl, rfl⟩ rfl (Nat.le_of_ble_eq_true rfl)) ?_
          refine AL.nil ?_
          refine AW.seqR ?_
          refine AL.s rfl (op_load_ptrA (.e rfl) rfl rfl rfl ag37) ?_
          refine AL.s rfl (op_buildSlice (ds := ([(⟨v17.fNum, v17.fDen⟩ : SRatio)] : List SRatio).map SRatio.e) sl51 (.cons (.r rfl) rfl (enSRatio.one _) .nil) rfl (by decide)) ?_
          obtain ⟨v18, hv18, hm⟩ := bindE hm
          refine AL.s rfl (op_fn Try.call18 (.e rfl) (.cons (.r rfl) .nil) (m_odds_Weight_ok hv18)) ?_
          refine AL.s rfl (op_moveD (.e rfl)) ?_
          refine AL.s rfl (op_extractD (.e rfl) rfl) ?_
          refine AL.s rfl (op_extractD (.e rfl) rfl) ?_
          refine AL.s rfl (op_assignD (.e rfl)) ?_
          refine AL.s rfl (op_assignD (.e rfl)) ?_
          refine AL.nil ?_
          refine AW.seq ?_
          refine AW.seqR ?_
          refine AL.s rfl (op_moveD (.e rfl)) ?_
          refine AL.s rfl (op_neq (.r rfl) (.r rfl)) ?_
          refine AL.nil ?_
          refine AW.cond (b := _) rfl (fun hc5 => ?_) (fun hc5 => ?_)
          · replace hm := iteT hc5 hm
            refine AW.seqR ?_
            refine AL.s rfl (op_assignD (.e rfl)) ?_
            refine AL.nil ?_
            refine AW.ret ?_
            refine tq_ret ?_
            refine bq_ret ?_
            refine tq_ret ?_
            refine tq_ret ?_
            obtain rfl := Option.some.inj hm
            obtain rfl := Option.some.inj hI2
            replace hm := hk2
            try dsimp only at hm
            refine bq_ret ?_
            refine tq_ret ?_
            obtain rfl := Option.some.inj hm
            exact EndQ.d (.tmp (.e rfl) .nil) rfl rfl
          · replace hm := iteF hc5 hm
            refine AW.skip ?_
            refine nq ?_
            refine AW.region ?_
            refine AL.s rfl (op_moveD (.e rfl)) ?_
            refine AL.s rfl (op_moveD (.e rfl)) ?_
            refine AL.s rfl (op_addw (.r rfl) (.r rfl)) ?_
            refine AL.s rfl (op_assignD (.e rfl)) ?_
            refine AL.nil ?_
            refine bq_n ?_
            refine nq ?_
            refine AW.region ?_
            refine AL.s rfl (op_addw (.r rfl) (.r rfl)) ?_
            refine AL.s rfl (op_moveD (.e rfl)) ?_
            refine AL.nil ?_
            obtain rfl := Option.some.inj hm
            exact nq ⟨_, hI2, ⟨[0, 1], rfl, rfl, rfl, ⟨(.d rfl), (.d rfl), (.d rfl), (.d rfl), (.d rfl), (.d rfl), trivial⟩, trivial, (.row rfl (.cons (.d rfl) (.cons (.d rfl) (.cons (.d rfl) (.cons (.d rfl) (.cons (.d rfl) (.cons (.d rfl) (.cons (.d rfl) (.cons (.d rfl) (.cons (.d rfl) (.cons (.d rfl) (.cons (.d rfl) (.cons (.d rfl) (.cons (.d rfl) (.cons (.d rfl) (.cons (.d rfl) (.cons (.d rfl) (.cons (.d rfl) (.cons (.d rfl) (.cons (.d rfl) (.cons (.d rfl) (.cons (.d rfl) (.cons (.d rfl) (.cons (.d rfl) (.cons (.d rfl) (.cons (.d rfl) (.cons (.d rfl) (.cons (.d rfl) (.cons (.d rfl) (.cons (.d rfl) (.cons (.d rfl) (.cons (.d rfl) (.cons (.d rfl) (.cons (.d rfl) (.cons (.d rfl) (.cons (.d rfl) (.cons (.d rfl) (.cons (.d rfl) (.cons (.d rfl) (.cons (.d rfl) (.cons (.d rfl) (.cons (.d rfl) (.cons (.d rfl) .nil)))))))))))))))))))))))))))))))))))))))))) (.row rfl (.cons (.d rfl) (.cons (.d rfl) (.cons (.d rfl) (.cons (.d rfl) (.cons (.d rfl) (.cons (.d rfl) (.cons (.d rfl) .nil))))))) .nil))⟩⟩
        · replace hm := iteF hc4 hm
          refine AW.exit ?_
          refine tq_exit ?_
          refine tq_exit ?_
          obtain rfl := Option.some.inj hm
          obtain rfl := Option.some.inj hI2
          replace hm := hk2
          try dsimp only at hm
          refine bq_hit ?_
          refine nq ?_
          refine AW.seqR ?_
          refine AL.s rfl (op_moveD (.e rfl)) ?_
          refine AL.s rfl (op_moveD (.e rfl)) ?_
          refine AL.s rfl (op_geq (.r rfl) (.r rfl)) ?_
          refine AL.s rfl (op_moveD (.e rfl)) ?_
          refine AL.sT rfl rfl rfl rfl (fun g => op_moveD (.e rfl)) ?_
          refine AL.sT rfl rfl rfl rfl (fun g => op_moveD (.e rfl)) ?_
          refine AL.sT rfl rfl rfl rfl (fun g => op_subw (.we g rfl rfl) (.we g rfl rfl)) ?_
          refine AL.sT rfl rfl rfl rfl (fun g => op_moveD (.e rfl)) ?_
          refine AL.sT rfl rfl rfl rfl (fun g => op_lenM (f := SRatio.e) (.we g rfl rfl) sl51) ?_
          refine AL.sT rfl rfl rfl rfl (fun g => op_subw (.we g rfl rfl) (.r rfl)) ?_
          refine AL.sT rfl rfl rfl rfl (fun g => op_max (.r rfl) (.we g rfl rfl)) ?_
          refine AL.sT rfl rfl rfl rfl (fun g => op_leq (.we g rfl rfl) (.we g rfl rfl)) ?_
          refine AL.s rfl (op_and (.r rfl) (fun h => (.we h rfl rfl)) rfl) ?_
          refine AL.s rfl (op_assignD (.e rfl)) ?_
          refine AL.nil ?_
          refine AW.ret ?_
          obtain rfl := Option.some.inj hm
          exact EndQ.d (.tmp (.e rfl) .nil) rfl rfl

end Go.Proofs.Ytgcmhhcopeiomaa.Ab
