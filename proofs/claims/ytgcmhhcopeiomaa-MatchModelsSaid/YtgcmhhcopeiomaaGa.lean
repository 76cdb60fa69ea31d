/- The functions do what they are in plain Lean. Conditions: none. -/
import Derived.Test.YtgcmhhcopeiomaaTy
import Derived.Test.YtgcmhhcopeiomaaMi
import Derived.Test.YtgcmhhcopeiomaaFe
set_option maxRecDepth 100000
namespace Go.Proofs.Ytgcmhhcopeiomaa.Ab
open Go
attribute [local irreducible] AL AD AW

set_option maxHeartbeats 20000000 in
theorem m_law31_MatchModels_ok {n : Nat} {a1 : A72} {r : Bool} (hm : m_law31_MatchModels n a1 = some r) : Fn Try.prog 5 [(A72.e a1)] (.bool r) := by
  unfold m_law31_MatchModels at hm
  refine Fn.of_AW (fnn := Try.f5) Try.func5 rfl (Nat.le_of_ble_eq_true rfl) (fun g0 w0 hw0 => ?_)
  refine AW.reset 0 [(0, .d (A72.e a1))] [] (WOK.g0 hw0 (by simp)) ⟨[], rfl, rfl, rfl, ⟨(.d rfl), trivial⟩, trivial, .nil⟩ ?_
  refine AW.seqR ?_
  refine AL.s rfl (op_box (n := 0) (.e rfl) rfl rfl rfl) ?_
  refine AL.s rfl (op_assignD (.e rfl)) ?_
  refine AL.nil ?_
  refine AW.seq ?_
  refine AW.seqD [([], []), ([], []), ([], []), ([], []), ([], []), ([], []), ([], []), ([], []), ([], []), ([], []), ([], []), ([], []), ([], []), ([], []), ([], []), ([0], []), ([], []), ([], []), ([0], []), ([], []), ([], []), ([], [])] mo (by decide +kernel) ?_
  obtain ⟨v2, hv2, hm⟩ := bindE hm
  refine AD.s (ws := []) rfl rfl (fun H' _ hH => op_fn Try.call7 (.e rfl) .nil (m_law31_awake_ok hv2)) ?_
  refine AD.s (ws := []) rfl rfl (fun H' _ hH => op_not (.r rfl)) ?_
  refine AD.s (ws := []) rfl rfl (fun H' _ hH => op_moveD (.e rfl)) ?_
  obtain ⟨v3, hv3, hm⟩ := bindE hm
  refine AD.sF rfl rfl rfl rfl (fun g H' _ hH => op_fn Try.call12 (.e rfl) .nil (m_match_Works_ok (iteT (nt g) hv3))) ?_
  obtain ⟨v4, hv4, hm⟩ := bindE hm
  refine AD.sF rfl rfl rfl rfl (fun g H' _ hH => op_fn Try.call19 (.e rfl) (.cons (.we (nt g) rfl rfl) .nil) (m_law31_theirs_ok (iteT (nt g) hv4))) ?_
  obtain ⟨v5, hv5, hm⟩ := bindE hm
  refine AD.sF rfl rfl rfl rfl (fun g H' _ hH => op_fn Try.call20 (.e rfl) .nil (m_ref31_Works_ok (iteT (nt g) hv5))) ?_
  refine AD.sF rfl rfl rfl rfl (fun g H' _ hH => op_neqSt (a := v4) (b := v5) es49 (.we (nt g) rfl rfl) (.we (nt g) rfl rfl)) ?_
  refine AD.s (ws := []) rfl rfl (fun H' _ hH => op_or (.r rfl) rfl (fun h => (.we (nt h) rfl rfl))) ?_
  refine AD.s (ws := []) rfl rfl (fun H' _ hH => op_moveD (.e rfl)) ?_
  obtain ⟨v6, hv6, hm⟩ := bindE hm
  refine AD.sF rfl rfl rfl rfl (fun g H' _ hH => op_fn Try.call13 (.e rfl) .nil (m_match_Editions_ok (iteT (nt g) hv6))) ?_
  obtain ⟨v7, hv7, hm⟩ := bindE hm
  refine AD.sF rfl rfl rfl rfl (fun g H' _ hH => op_fn Try.call19 (.e rfl) (.cons (.we (nt g) rfl rfl) .nil) (m_law31_theirs_ok (iteT (nt g) hv7))) ?_
  obtain ⟨v8, hv8, hm⟩ := bindE hm
  refine AD.sF rfl rfl rfl rfl (fun g H' _ hH => op_fn Try.call21 (.e rfl) .nil (m_ref31_Editions_ok (iteT (nt g) hv8))) ?_
  refine AD.sF rfl rfl rfl rfl (fun g H' _ hH => op_neqSt (a := v7) (b := v8) es49 (.we (nt g) rfl rfl) (.we (nt g) rfl rfl)) ?_
  refine AD.s (ws := []) rfl rfl (fun H' _ hH => op_or (.r rfl) rfl (fun h => (.we (nt h) rfl rfl))) ?_
  refine AD.s (ws := []) rfl rfl (fun H' _ hH => op_moveD (.e rfl)) ?_
  refine AD.sF rfl rfl rfl rfl (fun g H' _ hH => op_load_ptrA (.e rfl) ((hH _ (by simp)).trans rfl) rfl rfl ag49) ?_
  obtain ⟨v9, hv9, hm⟩ := bindE hm
  refine AD.sF rfl rfl rfl rfl (fun g H' _ hH => op_fn Try.call17 (.e rfl) (.cons (.we (nt g) rfl rfl) .nil) (m_law31_Own_ok (iteT (nt g) hv9))) ?_
  obtain ⟨v10, hv10, hm⟩ := bindE hm
  refine AD.sF rfl rfl rfl rfl (fun g H' _ hH => op_fn Try.call22 (.e rfl) (.cons (.we (nt g) rfl rfl) .nil) (m_match_Valid_ok (iteT (nt g) hv10))) ?_
  refine AD.sF rfl rfl rfl rfl (fun g H' _ hH => op_load_ptrA (.e rfl) ((hH _ (by simp)).trans rfl) rfl rfl ag49) ?_
  obtain ⟨v11, hv11, hm⟩ := bindE hm
  refine AD.sF rfl rfl rfl rfl (fun g H' _ hH => op_fn Try.call15 (.e rfl) (.cons (.we (nt g) rfl rfl) .nil) (m_ref31_Valid_ok (iteT (nt g) hv11))) ?_
  refine AD.sF rfl rfl rfl rfl (fun g H' _ hH => op_neqB (.we (nt g) rfl rfl) (.we (nt g) rfl rfl) Try.underlying4) ?_
  refine AD.s (ws := []) rfl rfl (fun H' _ hH => op_or (.r rfl) rfl (fun h => (.we (nt h) rfl rfl))) ?_
  refine AD.nil ?_
  refine AW.cond (b := _) rfl (fun hc1 => ?_) (fun hc1 => ?_)
  · replace hm := iteT hc1 hm
    refine AW.seqR ?_
    refine AL.s rfl (op_assignD (.e rfl)) ?_
    refine AL.nil ?_
    refine AW.ret ?_
    refine tq_ret ?_
    obtain rfl := Option.some.inj hm
    exact EndQ.d (.tmp (.e rfl) .nil) rfl rfl
  · replace hm := iteF hc1 hm
    refine AW.skip ?_
    refine nq ?_
    refine AW.seq ?_
    refine AW.seqR ?_
    obtain ⟨v12, hv12, hm⟩ := bindE hm
    refine AL.s rfl (op_fn Try.call12 (.e rfl) .nil (m_match_Works_ok hv12)) ?_
    obtain ⟨v13, hv13, hm⟩ := bindE hm
    refine AL.s rfl (op_fn Try.call13 (.e rfl) .nil (m_match_Editions_ok hv13)) ?_
    refine AL.s rfl (op_buildSlice (ds := ([v12, v13] : List A72).map A72.e) sl42 (.cons (.r rfl) rfl (enA72.one _) (.cons (.r rfl) rfl (enA72.one _) .nil)) rfl (by decide)) ?_
    refine AL.s rfl (op_lenM (f := A72.e) (.r rfl) sl42) ?_
    refine AL.s rfl (op_moveD (.e rfl)) ?_
    refine AL.nil ?_
    refine AW.block ?_
    obtain ⟨t_1, hI1, hk1⟩ := bindE hm
    refine AW.loopS (σ := Int) (τ := (Bool ⊕ Unit)) 0 (fun x => [(33, .ex (([v12, v13] : List A72).map A72.e)), (34, .d (.int .i64 (([v12, v13] : List A72).length : Int))), (35, .d (.int .i64 x))]) (fun x => [.row [.d (.int .i64 a1.e0.e0.fNum), .d (.int .i64 a1.e0.e0.fDen), .d (.int .i64 a1.e0.e1.fNum), .d (.int .i64 a1.e0.e1.fDen), .d (.int .i64 a1.e0.e2.fNum), .d (.int .i64 a1.e0.e2.fDen), .d (.int .i64 a1.e1.e0.fNum), .d (.int .i64 a1.e1.e0.fDen), .d (.int .i64 a1.e1.e1.fNum), .d (.int .i64 a1.e1.e1.fDen), .d (.int .i64 a1.e1.e2.fNum), .d (.int .i64 a1.e1.e2.fDen), .d (.int .i64 a1.e2.e0.fNum), .d (.int .i64 a1.e2.e0.fDen), .d (.int .i64 a1.e2.e1.fNum), .d (.int .i64 a1.e2.e1.fDen), .d (.int .i64 a1.e2.e2.fNum), .d (.int .i64 a1.e2.e2.fDen), .d (.int .i64 a1.e3.e0.fNum), .d (.int .i64 a1.e3.e0.fDen), .d (.int .i64 a1.e3.e1.fNum), .d (.int .i64 a1.e3.e1.fDen), .d (.int .i64 a1.e3.e2.fNum), .d (.int .i64 a1.e3.e2.fDen), .d (.int .i64 a1.e4.e0.fNum), .d (.int .i64 a1.e4.e0.fDen), .d (.int .i64 a1.e4.e1.fNum), .d (.int .i64 a1.e4.e1.fDen), .d (.int .i64 a1.e4.e2.fNum), .d (.int .i64 a1.e4.e2.fDen), .d (.int .i64 a1.e5.e0.fNum), .d (.int .i64 a1.e5.e0.fDen), .d (.int .i64 a1.e5.e1.fNum), .d (.int .i64 a1.e5.e1.fDen), .d (.int .i64 a1.e5.e2.fNum), .d (.int .i64 a1.e5.e2.fDen), .d (.int .i64 a1.e6.e0.fNum), .d (.int .i64 a1.e6.e0.fDen), .d (.int .i64 a1.e6.e1.fNum), .d (.int .i64 a1.e6.e1.fDen), .d (.int .i64 a1.e6.e2.fNum), .d (.int .i64 a1.e6.e2.fDen)]]) hI1 (WOK.g0 hw0 (by simp)) ⟨[0], rfl, rfl, rfl, ⟨.ex, (.d rfl), (.d rfl), trivial⟩, trivial, (.row rfl (.cons (.d rfl) (.cons (.d rfl) (.cons (.d rfl) (.cons (.d rfl) (.cons (.d rfl) (.cons (.d rfl) (.cons (.d rfl) (.cons (.d rfl) (.cons (.d rfl) (.cons (.d rfl) (.cons (.d rfl) (.cons (.d rfl) (.cons (.d rfl) (.cons (.d rfl) (.cons (.d rfl) (.cons (.d rfl) (.cons (.d rfl) (.cons (.d rfl) (.cons (.d rfl) (.cons (.d rfl) (.cons (.d rfl) (.cons (.d rfl) (.cons (.d rfl) (.cons (.d rfl) (.cons (.d rfl) (.cons (.d rfl) (.cons (.d rfl) (.cons (.d rfl) (.cons (.d rfl) (.cons (.d rfl) (.cons (.d rfl) (.cons (.d rfl) (.cons (.d rfl) (.cons (.d rfl) (.cons (.d rfl) (.cons (.d rfl) (.cons (.d rfl) (.cons (.d rfl) (.cons (.d rfl) (.cons (.d rfl) (.cons (.d rfl) (.cons (.d rfl) .nil)))))))))))))))))))))))))))))))))))))))))) .nil)⟩ ?_
    rintro n1 s14 hI1
    obtain ⟨y_1, hm, hI1⟩ := iterS hI1
    replace hm : m_law31_MatchModels_L1 n _ _ s14 = some y_1 := hm
    unfold m_law31_MatchModels_L1 at hm
    try dsimp only at hm
    refine AW.seqR ?_
    refine AL.s rfl (op_lss (.r rfl) (.r rfl)) ?_
    refine AL.nil ?_
    refine AW.seq ?_
    refine AW.cond (b := _) rfl (fun hc2 => ?_) (fun hc2 => ?_)
    · replace hm := iteT hc2 hm
      refine AW.skip ?_
      refine nq ?_
      refine AW.seq ?_
      refine AW.block ?_
      refine AW.seqR ?_
      obtain ⟨v15, hv15, hm⟩ := bindE hm
      refine AL.s rfl (op_indexAddrM (f := A72.e) (.r rfl) (.r rfl) hv15 enA72 sl42) ?_
      refine AL.s rfl (op_loadA (.e rfl) rfl ag40) ?_
      refine AL.s rfl (op_alloc (n := 1) zr40 rfl) ?_
      refine AL.s rfl (op_store (.e rfl) (.e rfl) rfl rfl rfl ⟨_, rfl, rfl⟩ rfl (Nat.le_of_ble_eq_true rfl)) ?_
      refine AL.nil ?_
      refine AW.seqR ?_
      refine AL.s rfl (op_moveD (.e rfl)) ?_
      refine AL.nil ?_
      refine AW.block ?_
      obtain ⟨t_2, hI2, hk2⟩ := bindE hm
      refine AW.loopS (σ := Int) (τ := (Bool ⊕ Unit)) 0 (fun x => [(4, .ptr 1 0), (33, .ex (([v12, v13] : List A72).map A72.e)), (34, .d (.int .i64 (([v12, v13] : List A72).length : Int))), (35, .d (.int .i64 s14)), (39, .d (.int .i64 x))]) (fun x => [.row [.d (.int .i64 a1.e0.e0.fNum), .d (.int .i64 a1.e0.e0.fDen), .d (.int .i64 a1.e0.e1.fNum), .d (.int .i64 a1.e0.e1.fDen), .d (.int .i64 a1.e0.e2.fNum), .d (.int .i64 a1.e0.e2.fDen), .d (.int .i64 a1.e1.e0.fNum), .d (.int .i64 a1.e1.e0.fDen), .d (.int .i64 a1.e1.e1.fNum), .d (.int .i64 a1.e1.e1.fDen), .d (.int .i64 a1.e1.e2.fNum), .d (.int .i64 a1.e1.e2.fDen), .d (.int .i64 a1.e2.e0.fNum), .d (.int .i64 a1.e2.e0.fDen), .d (.int .i64 a1.e2.e1.fNum), .d (.int .i64 a1.e2.e1.fDen), .d (.int .i64 a1.e2.e2.fNum), .d (.int .i64 a1.e2.e2.fDen), .d (.int .i64 a1.e3.e0.fNum), .d (.int .i64 a1.e3.e0.fDen), .d (.int .i64 a1.e3.e1.fNum), .d (.int .i64 a1.e3.e1.fDen), .d (.int .i64 a1.e3.e2.fNum), .d (.int .i64 a1.e3.e2.fDen), .d (.int .i64 a1.e4.e0.fNum), .d (.int .i64 a1.e4.e0.fDen), .d (.int .i64 a1.e4.e1.fNum), .d (.int .i64 a1.e4.e1.fDen), .d (.int .i64 a1.e4.e2.fNum), .d (.int .i64 a1.e4.e2.fDen), .d (.int .i64 a1.e5.e0.fNum), .d (.int .i64 a1.e5.e0.fDen), .d (.int .i64 a1.e5.e1.fNum), .d (.int .i64 a1.e5.e1.fDen), .d (.int .i64 a1.e5.e2.fNum), .d (.int .i64 a1.e5.e2.fDen), .d (.int .i64 a1.e6.e0.fNum), .d (.int .i64 a1.e6.e0.fDen), .d (.int .i64 a1.e6.e1.fNum), .d (.int .i64 a1.e6.e1.fDen), .d (.int .i64 a1.e6.e2.fNum), .d (.int .i64 a1.e6.e2.fDen)], .row [.d (.int .i64 v15.e0.e0.fNum), .d (.int .i64 v15.e0.e0.fDen), .d (.int .i64 v15.e0.e1.fNum), .d (.int .i64 v15.e0.e1.fDen), .d (.int .i64 v15.e0.e2.fNum), .d (.int .i64 v15.e0.e2.fDen), .d (.int .i64 v15.e1.e0.fNum), .d (.int .i64 v15.e1.e0.fDen), .d (.int .i64 v15.e1.e1.fNum), .d (.int .i64 v15.e1.e1.fDen), .d (.int .i64 v15.e1.e2.fNum), .d (.int .i64 v15.e1.e2.fDen), .d (.int .i64 v15.e2.e0.fNum), .d (.int .i64 v15.e2.e0.fDen), .d (.int .i64 v15.e2.e1.fNum), .d (.int .i64 v15.e2.e1.fDen), .d (.int .i64 v15.e2.e2.fNum), .d (.int .i64 v15.e2.e2.fDen), .d (.int .i64 v15.e3.e0.fNum), .d (.int .i64 v15.e3.e0.fDen), .d (.int .i64 v15.e3.e1.fNum), .d (.int .i64 v15.e3.e1.fDen), .d (.int .i64 v15.e3.e2.fNum), .d (.int .i64 v15.e3.e2.fDen), .d (.int .i64 v15.e4.e0.fNum), .d (.int .i64 v15.e4.e0.fDen), .d (.int .i64 v15.e4.e1.fNum), .d (.int .i64 v15.e4.e1.fDen), .d (.int .i64 v15.e4.e2.fNum), .d (.int .i64 v15.e4.e2.fDen), .d (.int .i64 v15.e5.e0.fNum), .d (.int .i64 v15.e5.e0.fDen), .d (.int .i64 v15.e5.e1.fNum), .d (.int .i64 v15.e5.e1.fDen), .d (.int .i64 v15.e5.e2.fNum), .d (.int .i64 v15.e5.e2.fDen), .d (.int .i64 v15.e6.e0.fNum), .d (.int .i64 v15.e6.e0.fDen), .d (.int .i64 v15.e6.e1.fNum), .d (.int .i64 v15.e6.e1.fDen), .d (.int .i64 v15.e6.e2.fNum), .d (.int .i64 v15.e6.e2.fDen)]]) hI2 (WOK.g0 hw0 (by simp)) ⟨[0, 1], rfl, rfl, rfl, ⟨(.ptr rfl), .ex, (.d rfl), (.d rfl), (.d rfl), trivial⟩, trivial, (.row rfl (.cons (.d rfl) (.cons (.d rfl) (.cons (.d rfl) (.cons (.d rfl) (.cons (.d rfl) (.cons (.d rfl) (.cons (.d rfl) (.cons (.d rfl) (.cons (.d rfl) (.cons (.d rfl) (.cons (.d rfl) (.cons (.d rfl) (.cons (.d rfl) (.cons (.d rfl) (.cons (.d rfl) (.cons (.d rfl) (.cons (.d rfl) (.cons (.d rfl) (.cons (.d rfl) (.cons (.d rfl) (.cons (.d rfl) (.cons (.d rfl) (.cons (.d rfl) (.cons (.d rfl) (.cons (.d rfl) (.cons (.d rfl) (.cons (.d rfl) (.cons (.d rfl) (.cons (.d rfl) (.cons (.d rfl) (.cons (.d rfl) (.cons (.d rfl) (.cons (.d rfl) (.cons (.d rfl) (.cons (.d rfl) (.cons (.d rfl) (.cons (.d rfl) (.cons (.d rfl) (.cons (.d rfl) (.cons (.d rfl) (.cons (.d rfl) (.cons (.d rfl) .nil)))))))))))))))))))))))))))))))))))))))))) (.row rfl (.cons (.d rfl) (.cons (.d rfl) (.cons (.d rfl) (.cons (.d rfl) (.cons (.d rfl) (.cons (.d rfl) (.cons (.d rfl) (.cons (.d rfl) (.cons (.d rfl) (.cons (.d rfl) (.cons (.d rfl) (.cons (.d rfl) (.cons (.d rfl) (.cons (.d rfl) (.cons (.d rfl) (.cons (.d rfl) (.cons (.d rfl) (.cons (.d rfl) (.cons (.d rfl) (.cons (.d rfl) (.cons (.d rfl) (.cons (.d rfl) (.cons (.d rfl) (.cons (.d rfl) (.cons (.d rfl) (.cons (.d rfl) (.cons (.d rfl) (.cons (.d rfl) (.cons (.d rfl) (.cons (.d rfl) (.cons (.d rfl) (.cons (.d rfl) (.cons (.d rfl) (.cons (.d rfl) (.cons (.d rfl) (.cons (.d rfl) (.cons (.d rfl) (.cons (.d rfl) (.cons (.d rfl) (.cons (.d rfl) (.cons (.d rfl) (.cons (.d rfl) .nil)))))))))))))))))))))))))))))))))))))))))) .nil))⟩ ?_
      rintro n2 s16 hI2
      obtain ⟨y_2, hm, hI2⟩ := iterS hI2
      replace hm : m_law31_MatchModels_L2 n _ s16 = some y_2 := hm
      unfold m_law31_MatchModels_L2 at hm
      try dsimp only at hm
      refine AW.seqR ?_
      refine AL.s rfl (op_lss (.r rfl) (.r rfl)) ?_
      refine AL.nil ?_
      refine AW.seq ?_
      refine AW.cond (b := _) rfl (fun hc3 => ?_) (fun hc3 => ?_)
      · replace hm := iteT hc3 hm
        refine AW.skip ?_
        refine nq ?_
        refine AW.seq ?_
        refine AW.block ?_
        refine AW.seqR ?_
        refine AL.s rfl (op_moveD (.e rfl)) ?_
        refine AL.s rfl (op_assignD (.e rfl)) ?_
        refine AL.nil ?_
        refine AW.seqR ?_
        refine AL.s rfl (op_assignD (.e rfl)) ?_
        refine AL.nil ?_
        refine AW.block ?_
        obtain ⟨t_3, hI3, hk3⟩ := bindE hm
        refine AW.loopS (σ := Int) (τ := (Bool ⊕ Unit)) 0 (fun x => [(4, .ptr 1 0), (5, .d (.int .i64 s16)), (6, .d (.int .i64 x)), (33, .ex (([v12, v13] : List A72).map A72.e)), (34, .d (.int .i64 (([v12, v13] : List A72).length : Int))), (35, .d (.int .i64 s14)), (39, .d (.int .i64 s16))]) (fun x => [.row [.d (.int .i64 a1.e0.e0.fNum), .d (.int .i64 a1.e0.e0.fDen), .d (.int .i64 a1.e0.e1.fNum), .d (.int .i64 a1.e0.e1.fDen), .d (.int .i64 a1.e0.e2.fNum), .d (.int .i64 a1.e0.e2.fDen), .d (.int .i64 a1.e1.e0.fNum), .d (.int .i64 a1.e1.e0.fDen), .d (.int .i64 a1.e1.e1.fNum), .d (.int .i64 a1.e1.e1.fDen), .d (.int .i64 a1.e1.e2.fNum), .d (.int .i64 a1.e1.e2.fDen), .d (.int .i64 a1.e2.e0.fNum), .d (.int .i64 a1.e2.e0.fDen), .d (.int .i64 a1.e2.e1.fNum), .d (.int .i64 a1.e2.e1.fDen), .d (.int .i64 a1.e2.e2.fNum), .d (.int .i64 a1.e2.e2.fDen), .d (.int .i64 a1.e3.e0.fNum), .d (.int .i64 a1.e3.e0.fDen), .d (.int .i64 a1.e3.e1.fNum), .d (.int .i64 a1.e3.e1.fDen), .d (.int .i64 a1.e3.e2.fNum), .d (.int .i64 a1.e3.e2.fDen), .d (.int .i64 a1.e4.e0.fNum), .d (.int .i64 a1.e4.e0.fDen), .d (.int .i64 a1.e4.e1.fNum), .d (.int .i64 a1.e4.e1.fDen), .d (.int .i64 a1.e4.e2.fNum), .d (.int .i64 a1.e4.e2.fDen), .d (.int .i64 a1.e5.e0.fNum), .d (.int .i64 a1.e5.e0.fDen), .d (.int .i64 a1.e5.e1.fNum), .d (.int .i64 a1.e5.e1.fDen), .d (.int .i64 a1.e5.e2.fNum), .d (.int .i64 a1.e5.e2.fDen), .d (.int .i64 a1.e6.e0.fNum), .d (.int .i64 a1.e6.e0.fDen), .d (.int .i64 a1.e6.e1.fNum), .d (.int .i64 a1.e6.e1.fDen), .d (.int .i64 a1.e6.e2.fNum), .d (.int .i64 a1.e6.e2.fDen)], .row [.d (.int .i64 v15.e0.e0.fNum), .d (.int .i64 v15.e0.e0.fDen), .d (.int .i64 v15.e0.e1.fNum), .d (.int .i64 v15.e0.e1.fDen), .d (.int .i64 v15.e0.e2.fNum), .d (.int .i64 v15.e0.e2.fDen), .d (.int .i64 v15.e1.e0.fNum), .d (.int .i64 v15.e1.e0.fDen), .d (.int .i64 v15.e1.e1.fNum), .d (.int .i64 v15.e1.e1.fDen), .d (.int .i64 v15.e1.e2.fNum), .d (.int .i64 v15.e1.e2.fDen), .d (.int .i64 v15.e2.e0.fNum), .d (.int .i64 v15.e2.e0.fDen), .d (.int .i64 v15.e2.e1.fNum), .d (.int .i64 v15.e2.e1.fDen), .d (.int .i64 v15.e2.e2.fNum), .d (.int .i64 v15.e2.e2.fDen), .d (.int .i64 v15.e3.e0.fNum), .d (.int .i64 v15.e3.e0.fDen), .d (.int .i64 v15.e3.e1.fNum), .d (.int .i64 v15.e3.e1.fDen), .d (.int .i64 v15.e3.e2.fNum), .d (.int .i64 v15.e3.e2.fDen), .d (.int .i64 v15.e4.e0.fNum), .d (.int .i64 v15.e4.e0.fDen), .d (.int .i64 v15.e4.e1.fNum), .d (.int .i64 v15.e4.e1.fDen), .d (.int .i64 v15.e4.e2.fNum), .d (.int .i64 v15.e4.e2.fDen), .d (.int .i64 v15.e5.e0.fNum), .d (.int .i64 v15.e5.e0.fDen), .d (.int .i64 v15.e5.e1.fNum), .d (.int .i64 v15.e5.e1.fDen), .d (.int .i64 v15.e5.e2.fNum), .d (.int .i64 v15.e5.e2.fDen), .d (.int .i64 v15.e6.e0.fNum), .d (.int .i64 v15.e6.e0.fDen), .d (.int .i64 v15.e6.e1.fNum), .d (.int .i64 v15.e6.e1.fDen), .d (.int .i64 v15.e6.e2.fNum), .d (.int .i64 v15.e6.e2.fDen)]]) hI3 (WOK.g0 hw0 (by simp)) ⟨[0, 1], rfl, rfl, rfl, ⟨(.ptr rfl), (.d rfl), (.d rfl), .ex, (.d rfl), (.d rfl), (.d rfl), trivial⟩, trivial, (.row rfl (.cons (.d rfl) (.cons (.d rfl) (.cons (.d rfl) (.cons (.d rfl) (.cons (.d rfl) (.cons (.d rfl) (.cons (.d rfl) (.cons (.d rfl) (.cons (.d rfl) (.cons (.d rfl) (.cons (.d rfl) (.cons (.d rfl) (.cons (.d rfl) (.cons (.d rfl) (.cons (.d rfl) (.cons (.d rfl) (.cons (.d rfl) (.cons (.d rfl) (.cons (.d rfl) (.cons (.d rfl) (.cons (.d rfl) (.cons (.d rfl) (.cons (.d rfl) (.cons (.d rfl) (.cons (.d rfl) (.cons (.d rfl) (.cons (.d rfl) (.cons (.d rfl) (.cons (.d rfl) (.cons (.d rfl) (.cons (.d rfl) (.cons (.d rfl) (.cons (.d rfl) (.cons (.d rfl) (.cons (.d rfl) (.cons (.d rfl) (.cons (.d rfl) (.cons (.d rfl) (.cons (.d rfl) (.cons (.d rfl) (.cons (.d rfl) (.cons (.d rfl) .nil)))))))))))))))))))))))))))))))))))))))))) (.row rfl (.cons (.d rfl) (.cons (.d rfl) (.cons (.d rfl) (.cons (.d rfl) (.cons (.d rfl) (.cons (.d rfl) (.cons (.d rfl) (.cons (.d rfl) (.cons (.d rfl) (.cons (.d rfl) (.cons (.d rfl) (.cons (.d rfl) (.cons (.d rfl) (.cons (.d rfl) (.cons (.d rfl) (.cons (.d rfl) (.cons (.d rfl) (.cons (.d rfl) (.cons (.d rfl) (.cons (.d rfl) (.cons (.d rfl) (.cons (.d rfl) (.cons (.d rfl) (.cons (.d rfl) (.cons (.d rfl) (.cons (.d rfl) (.cons (.d rfl) (.cons (.d rfl) (.cons (.d rfl) (.cons (.d rfl) (.cons (.d rfl) (.cons (.d rfl) (.cons (.d rfl) (.cons (.d rfl) (.cons (.d rfl) (.cons (.d rfl) (.cons (.d rfl) (.cons (.d rfl) (.cons (.d rfl) (.cons (.d rfl) (.cons (.d rfl) (.cons (.d rfl) .nil)))))))))))))))))))))))))))))))))))))))))) .nil))⟩ ?_
        rintro n3 s17 hI3
        obtain ⟨y_3, hm, hI3⟩ := iterS hI3
        replace hm : m_law31_MatchModels_L3 n _ _ s17 = some y_3 := hm
        unfold m_law31_MatchModels_L3 at hm
        try dsimp only at hm
        refine AW.seq ?_
        refine AW.seqR ?_
        refine AL.s rfl (op_moveD (.e rfl)) ?_
        refine AL.s rfl (op_lss (.r rfl) (.r rfl)) ?_
        refine AL.nil ?_
        refine AW.cond (b := _) rfl (fun hc4 => ?_) (fun hc4 => ?_)
        · replace hm := iteT hc4 hm
          refine AW.skip ?_
          refine nq ?_
          refine AW.seq ?_
          refine AW.block ?_
          refine AW.seqD [([], []), ([], []), ([], []), ([], []), ([1], []), ([], []), ([], []), ([], []), ([], []), ([], []), ([], []), ([1], []), ([], []), ([], []), ([], []), ([], []), ([], []), ([], []), ([], [])] mo (by decide +kernel) ?_
          refine AD.s (ws := []) rfl rfl (fun H' _ hH => op_moveD (.e rfl)) ?_
          refine AD.s (ws := []) rfl rfl (fun H' _ hH => op_moveD (.e rfl)) ?_
          obtain ⟨v18, hv18, hm⟩ := bindE hm
          refine AD.s (ws := []) rfl rfl (fun H' _ hH => op_indexA (l := v15.l) (s := 6) (.e rfl) (.r rfl) hv18 rfl Try.underlying40 ⟨_, rfl, rfl⟩) ?_
          obtain ⟨v19, hv19, hm⟩ := bindE hm
          refine AD.s (ws := []) rfl rfl (fun H' _ hH => op_indexA (l := v18.l) (s := 2) (.e rfl) (.r rfl) hv19 rfl Try.underlying38 ⟨_, rfl, rfl⟩) ?_
          refine AD.s (ws := []) rfl rfl (fun H' _ hH => op_loadAtA (X := (A72.e v15).cells) (.e rfl) ((hH _ (by simp)).trans rfl) (AtD.ix (f := SRatio.e) (l := v18.l) enSRatio (AtD.ix (f := A3.e) (l := v15.l) enA3 (AtD.root : AtD (A72.e v15).cells 0 _ _) hv18) hv19) ag37) ?_
          refine AD.s (ws := []) rfl rfl (fun H' _ hH => op_buildSlice (ds := ([v19] : List SRatio).map SRatio.e) sl51 (.cons (.r rfl) rfl (enSRatio.one _) .nil) rfl (by decide)) ?_
          refine AD.s (ws := []) rfl rfl (fun H' _ hH => op_moveD (.e rfl)) ?_
          refine AD.s (ws := []) rfl rfl (fun H' _ hH => op_moveD (.e rfl)) ?_
          refine AD.s (ws := []) rfl rfl (fun H' _ hH => op_addw (.r rfl) (.r rfl)) ?_
          obtain ⟨v20, hv20, hm⟩ := bindE hm
          refine AD.s (ws := []) rfl rfl (fun H' _ hH => op_indexA (l := v15.l) (s := 6) (.e rfl) (.r rfl) hv20 rfl Try.underlying40 ⟨_, rfl, rfl⟩) ?_
          obtain ⟨v21, hv21, hm⟩ := bindE hm
          refine AD.s (ws := []) rfl rfl (fun H' _ hH => op_indexA (l := v20.l) (s := 2) (.e rfl) (.r rfl) hv21 rfl Try.underlying38 ⟨_, rfl, rfl⟩) ?_
          refine AD.s (ws := []) rfl rfl (fun H' _ hH => op_loadAtA (X := (A72.e v15).cells) (.e rfl) ((hH _ (by simp)).trans rfl) (AtD.ix (f := SRatio.e) (l := v20.l) enSRatio (AtD.ix (f := A3.e) (l := v15.l) enA3 (AtD.root : AtD (A72.e v15).cells 0 _ _) hv20) hv21) ag37) ?_
          refine AD.s (ws := []) rfl rfl (fun H' _ hH => op_buildSlice (ds := ([v21] : List SRatio).map SRatio.e) sl51 (.cons (.r rfl) rfl (enSRatio.one _) .nil) rfl (by decide)) ?_
          obtain ⟨v22, hv22, hm⟩ := bindE hm
          refine AD.s (ws := []) rfl rfl (fun H' _ hH => op_fn Try.call23 (.e rfl) (.cons (.r rfl) (.cons (.r rfl) .nil)) (m_odds_Compare_ok hv22)) ?_
          refine AD.s (ws := []) rfl rfl (fun H' _ hH => op_moveD (.e rfl)) ?_
          refine AD.s (ws := []) rfl rfl (fun H' _ hH => op_extractD (.e rfl) rfl) ?_
          refine AD.s (ws := []) rfl rfl (fun H' _ hH => op_extractD (.e rfl) rfl) ?_
          refine AD.s (ws := []) rfl rfl (fun H' _ hH => op_assignD (.e rfl)) ?_
          refine AD.s (ws := []) rfl rfl (fun H' _ hH => op_assignD (.e rfl)) ?_
          refine AD.nil ?_
          refine AW.seqR ?_
          refine AL.s rfl (op_moveD (.e rfl)) ?_
          refine AL.s rfl (op_neq (.r rfl) (.r rfl)) ?_
          refine AL.s rfl (op_moveD (.e rfl)) ?_
          refine AL.sF rfl rfl rfl rfl (fun g => op_moveD (.e rfl)) ?_
          refine AL.sF rfl rfl rfl rfl (fun g => op_lss (.we (nt g) rfl rfl) (.r rfl)) ?_
          refine AL.s rfl (op_or (.r rfl) rfl (fun h => (.we (nt h) rfl rfl))) ?_
          refine AL.nil ?_
          refine AW.cond (b := _) rfl (fun hc5 => ?_) (fun hc5 => ?_)
          · replace hm := iteT hc5 hm
            refine AW.seqR ?_
            refine AL.s rfl (op_assignD (.e rfl)) ?_
            refine AL.nil ?_
            refine AW.ret ?_
            refine bq_ret ?_
            refine tq_ret ?_
            refine tq_ret ?_
            obtain rfl := Option.some.inj hm
            obtain rfl := Option.some.inj hI3
            replace hm := hk3
            try dsimp only at hm
            refine bq_ret ?_
            refine bq_ret ?_
            refine tq_ret ?_
            refine tq_ret ?_
            obtain rfl := Option.some.inj hm
            obtain rfl := Option.some.inj hI2
            replace hm := hk2
            try dsimp only at hm
            refine bq_ret ?_
            refine bq_ret ?_
            refine tq_ret ?_
            refine tq_ret ?_
            obtain rfl := Option.some.inj hm
            obtain rfl := Option.some.inj hI1
            replace hm := hk1
            try dsimp only at hm
            refine bq_ret ?_
            refine tq_ret ?_
            obtain rfl := Option.some.inj hm
            exact EndQ.d (.tmp (.e rfl) .nil) rfl rfl
          · replace hm := iteF hc5 hm
            refine AW.skip ?_
            refine bq_n ?_
            refine nq ?_
            refine AW.region ?_
            refine AL.s rfl (op_moveD (.e rfl)) ?_
            refine AL.s rfl (op_addw (.r rfl) (.r rfl)) ?_
            refine AL.s rfl (op_assignD (.e rfl)) ?_
            refine AL.nil ?_
            obtain rfl := Option.some.inj hm
            exact nq ⟨_, hI3, ⟨[0, 1], rfl, rfl, rfl, ⟨(.ptr rfl), (.d rfl), (.d rfl), .ex, (.d rfl), (.d rfl), (.d rfl), trivial⟩, trivial, (.row rfl (.cons (.d rfl) (.cons (.d rfl) (.cons (.d rfl) (.cons (.d rfl) (.cons (.d rfl) (.cons (.d rfl) (.cons (.d rfl) (.cons (.d rfl) (.cons (.d rfl) (.cons (.d rfl) (.cons (.d rfl) (.cons (.d rfl) (.cons (.d rfl) (.cons (.d rfl) (.cons (.d rfl) (.cons (.d rfl) (.cons (.d rfl) (.cons (.d rfl) (.cons (.d rfl) (.cons (.d rfl) (.cons (.d rfl) (.cons (.d rfl) (.cons (.d rfl) (.cons (.d rfl) (.cons (.d rfl) (.cons (.d rfl) (.cons (.d rfl) (.cons (.d rfl) (.cons (.d rfl) (.cons (.d rfl) (.cons (.d rfl) (.cons (.d rfl) (.cons (.d rfl) (.cons (.d rfl) (.cons (.d rfl) (.cons (.d rfl) (.cons (.d rfl) (.cons (.d rfl) (.cons (.d rfl) (.cons (.d rfl) (.cons (.d rfl) (.cons (.d rfl) .nil)))))))))))))))))))))))))))))))))))))))))) (.row rfl (.cons (.d rfl) (.cons (.d rfl) (.cons (.d rfl) (.cons (.d rfl) (.cons (.d rfl) (.cons (.d rfl) (.cons (.d rfl) (.cons (.d rfl) (.cons (.d rfl) (.cons (.d rfl) (.cons (.d rfl) (.cons (.d rfl) (.cons (.d rfl) (.cons (.d rfl) (.cons (.d rfl) (.cons (.d rfl) (.cons (.d rfl) (.cons (.d rfl) (.cons (.d rfl) (.cons (.d rfl) (.cons (.d rfl) (.cons (.d rfl) (.cons (.d rfl) (.cons (.d rfl) (.cons (.d rfl) (.cons (.d rfl) (.cons (.d rfl) (.cons (.d rfl) (.cons (.d rfl) (.cons (.d rfl) (.cons (.d rfl) (.cons (.d rfl) (.cons (.d rfl) (.cons (.d rfl) (.cons (.d rfl) (.cons (.d rfl) (.cons (.d rfl) (.cons (.d rfl) (.cons (.d rfl) (.cons (.d rfl) (.cons (.d rfl) (.cons (.d rfl) .nil)))))))))))))))))))))))))))))))))))))))))) .nil))⟩⟩
        · replace hm := iteF hc4 hm
          refine AW.exit ?_
          refine tq_exit ?_
          refine tq_exit ?_
          obtain rfl := Option.some.inj hm
          obtain rfl := Option.some.inj hI3
          replace hm := hk3
          try dsimp only at hm
          refine bq_hit ?_
          refine bq_n ?_
          refine nq ?_
          refine AW.region ?_
          refine AL.s rfl (op_addw (.r rfl) (.r rfl)) ?_
          refine AL.s rfl (op_moveD (.e rfl)) ?_
          refine AL.nil ?_
          obtain rfl := Option.some.inj hm
          exact nq ⟨_, hI2, ⟨[0, 1], rfl, rfl, rfl, ⟨(.ptr rfl), .ex, (.d rfl), (.d rfl), (.d rfl), trivial⟩, trivial, (.row rfl (.cons (.d rfl) (.cons (.d rfl) (.cons (.d rfl) (.cons (.d rfl) (.cons (.d rfl) (.cons (.d rfl) (.cons (.d rfl) (.cons (.d rfl) (.cons (.d rfl) (.cons (.d rfl) (.cons (.d rfl) (.cons (.d rfl) (.cons (.d rfl) (.cons (.d rfl) (.cons (.d rfl) (.cons (.d rfl) (.cons (.d rfl) (.cons (.d rfl) (.cons (.d rfl) (.cons (.d rfl) (.cons (.d rfl) (.cons (.d rfl) (.cons (.d rfl) (.cons (.d rfl) (.cons (.d rfl) (.cons (.d rfl) (.cons (.d rfl) (.cons (.d rfl) (.cons (.d rfl) (.cons (.d rfl) (.cons (.d rfl) (.cons (.d rfl) (.cons (.d rfl) (.cons (.d rfl) (.cons (.d rfl) (.cons (.d rfl) (.cons (.d rfl) (.cons (.d rfl) (.cons (.d rfl) (.cons (.d rfl) (.cons (.d rfl) (.cons (.d rfl) .nil)))))))))))))))))))))))))))))))))))))))))) (.row rfl (.cons (.d rfl) (.cons (.d rfl) (.cons (.d rfl) (.cons (.d rfl) (.cons (.d rfl) (.cons (.d rfl) (.cons (.d rfl) (.cons (.d rfl) (.cons (.d rfl) (.cons (.d rfl) (.cons (.d rfl) (.cons (.d rfl) (.cons (.d rfl) (.cons (.d rfl) (.cons (.d rfl) (.cons (.d rfl) (.cons (.d rfl) (.cons (.d rfl) (.cons (.d rfl) (.cons (.d rfl) (.cons (.d rfl) (.cons (.d rfl) (.cons (.d rfl) (.cons (.d rfl) (.cons (.d rfl) (.cons (.d rfl) (.cons (.d rfl) (.cons (.d rfl) (.cons (.d rfl) (.cons (.d rfl) (.cons (.d rfl) (.cons (.d rfl) (.cons (.d rfl) (.cons (.d rfl) (.cons (.d rfl) (.cons (.d rfl) (.cons (.d rfl) (.cons (.d rfl) (.cons (.d rfl) (.cons (.d rfl) (.cons (.d rfl) (.cons (.d rfl) .nil)))))))))))))))))))))))))))))))))))))))))) .nil))⟩⟩
      · replace hm := iteF hc3 hm
        refine AW.exit ?_
        refine tq_exit ?_
        refine tq_exit ?_
        obtain rfl := Option.some.inj hm
        obtain rfl := Option.some.inj hI2
        replace hm := hk2
        try dsimp only at hm
        refine bq_hit ?_
        refine bq_n ?_
        refine nq ?_
        refine AW.region ?_
        refine AL.s rfl (op_addw (.r rfl) (.r rfl)) ?_
        refine AL.s rfl (op_moveD (.e rfl)) ?_
        refine AL.nil ?_
        obtain rfl := Option.some.inj hm
        exact nq ⟨_, hI1, ⟨[0], rfl, rfl, rfl, ⟨.ex, (.d rfl), (.d rfl), trivial⟩, trivial, (.row rfl (.cons (.d rfl) (.cons (.d rfl) (.cons (.d rfl) (.cons (.d rfl) (.cons (.d rfl) (.cons (.d rfl) (.cons (.d rfl) (.cons (.d rfl) (.cons (.d rfl) (.cons (.d rfl) (.cons (.d rfl) (.cons (.d rfl) (.cons (.d rfl) (.cons (.d rfl) (.cons (.d rfl) (.cons (.d rfl) (.cons (.d rfl) (.cons (.d rfl) (.cons (.d rfl) (.cons (.d rfl) (.cons (.d rfl) (.cons (.d rfl) (.cons (.d rfl) (.cons (.d rfl) (.cons (.d rfl) (.cons (.d rfl) (.cons (.d rfl) (.cons (.d rfl) (.cons (.d rfl) (.cons (.d rfl) (.cons (.d rfl) (.cons (.d rfl) (.cons (.d rfl) (.cons (.d rfl) (.cons (.d rfl) (.cons (.d rfl) (.cons (.d rfl) (.cons (.d rfl) (.cons (.d rfl) (.cons (.d rfl) (.cons (.d rfl) (.cons (.d rfl) .nil)))))))))))))))))))))))))))))))))))))))))) .nil)⟩⟩
    · replace hm := iteF hc2 hm
      refine AW.exit ?_
      refine tq_exit ?_
      refine tq_exit ?_
      obtain rfl := Option.some.inj hm
      obtain rfl := Option.some.inj hI1
      replace hm := hk1
      try dsimp only at hm
      refine bq_hit ?_
      refine nq ?_
      refine AW.seqR ?_
      refine AL.s rfl (op_assignD (.e rfl)) ?_
      refine AL.nil ?_
      refine AW.ret ?_
      obtain rfl := Option.some.inj hm
      exact EndQ.d (.tmp (.e rfl) .nil) rfl rfl

end Go.Proofs.Ytgcmhhcopeiomaa.Ab
