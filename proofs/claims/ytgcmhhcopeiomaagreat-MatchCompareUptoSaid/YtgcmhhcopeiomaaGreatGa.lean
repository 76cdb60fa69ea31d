/- The functions do what they are in plain Lean. Conditions: none. -/
import Derived.Test.YtgcmhhcopeiomaaGreatTy
import Derived.Test.YtgcmhhcopeiomaaGreatMi
import Derived.Test.YtgcmhhcopeiomaaGreatFg
set_option maxRecDepth 100000
namespace Go.Proofs.YtgcmhhcopeiomaaGreat.Ab
open Go
attribute [local irreducible] AL AD AW

set_option maxHeartbeats 20000000 in
theorem m_law31_MatchCompare_ok {n : Nat} {a1 : SFeatures} {a2 : SFeatures} {r : Bool} (hm : m_law31_MatchCompare n a1 a2 = some r) : Fn Tryz.prog 3 [(SFeatures.e a1), (SFeatures.e a2)] (.bool r) := by
  unfold m_law31_MatchCompare at hm
  refine Fn.of_AW (fnn := Tryz.f3) Tryz.func3 rfl (Nat.le_of_ble_eq_true rfl) (fun g0 w0 hw0 => ?_)
  refine AW.reset 0 [(0, .d (SFeatures.e a1)), (1, .d (SFeatures.e a2))] [] (WOK.g0 hw0 (by simp)) ⟨[], rfl, rfl, rfl, ⟨(.d rfl), (.d rfl), trivial⟩, trivial, .nil⟩ ?_
  refine AW.seqR ?_
  refine AL.s rfl (op_box (n := 0) (.e rfl) rfl rfl rfl) ?_
  refine AL.s rfl (op_box (n := 1) (.e rfl) rfl rfl rfl) ?_
  refine AL.s rfl (op_assignD (.e rfl)) ?_
  refine AL.nil ?_
  refine AW.seq ?_
  refine AW.seqR ?_
  obtain ⟨v3, hv3, hm⟩ := bindE hm
  refine AL.s rfl (op_fn Tryz.call5 (.e rfl) .nil (m_law31_awake_ok hv3)) ?_
  refine AL.s rfl (op_not (.r rfl)) ?_
  refine AL.s rfl (op_moveD (.e rfl)) ?_
  refine AL.sF rfl rfl rfl rfl (fun g => op_load_ptrA (.e rfl) rfl rfl rfl ag25) ?_
  obtain ⟨v4, hv4, hm⟩ := bindE hm
  refine AL.sF rfl rfl rfl rfl (fun g => op_fn Tryz.call6 (.e rfl) (.cons (.we (nt g) rfl rfl) .nil) (m_ref29_Few_ok (iteT (nt g) hv4))) ?_
  refine AL.sF rfl rfl rfl rfl (fun g => op_not (.we (nt g) rfl rfl)) ?_
  refine AL.s rfl (op_or (.r rfl) rfl (fun h => (.we (nt h) rfl rfl))) ?_
  refine AL.s rfl (op_moveD (.e rfl)) ?_
  refine AL.sF rfl rfl rfl rfl (fun g => op_load_ptrA (.e rfl) rfl rfl rfl ag25) ?_
  obtain ⟨v5, hv5, hm⟩ := bindE hm
  refine AL.sF rfl rfl rfl rfl (fun g => op_fn Tryz.call6 (.e rfl) (.cons (.we (nt g) rfl rfl) .nil) (m_ref29_Few_ok (iteT (nt g) hv5))) ?_
  refine AL.sF rfl rfl rfl rfl (fun g => op_not (.we (nt g) rfl rfl)) ?_
  refine AL.s rfl (op_or (.r rfl) rfl (fun h => (.we (nt h) rfl rfl))) ?_
  refine AL.nil ?_
  refine AW.cond (b := _) rfl (fun hc1 => ?_) (fun hc1 => ?_)
  · replace hm := iteT hc1 hm
    refine AW.seqR ?_
    obtain ⟨v6, hv6, hm⟩ := bindE hm
    refine AL.s rfl (op_fn Tryz.call5 (.e rfl) .nil (m_law31_awake_ok hv6)) ?_
    refine AL.s rfl (op_assignD (.e rfl)) ?_
    refine AL.nil ?_
    refine AW.ret ?_
    refine tq_ret ?_
    obtain rfl := Option.some.inj hm
    exact EndQ.d (.tmp (.e rfl) .nil) rfl rfl
  · replace hm := iteF hc1 hm
    refine AW.skip ?_
    refine nq ?_
    refine AW.free ?_
    refine AW.seqD [([0], []), ([], []), ([1], []), ([], []), ([], []), ([], []), ([], []), ([], []), ([], [2]), ([2], [2]), ([], [])] mo (by decide +kernel) ?_
    refine AD.s (ws := []) rfl rfl (fun H' _ hH => op_load_ptrA (.e rfl) ((hH _ (by simp)).trans rfl) rfl rfl ag25) ?_
    obtain ⟨v7, hv7, hm⟩ := bindE hm
    refine AD.s (ws := []) rfl rfl (fun H' _ hH => op_fn Tryz.call8 (.e rfl) (.cons (.r rfl) .nil) (m_law29_Own_ok hv7)) ?_
    refine AD.s (ws := []) rfl rfl (fun H' _ hH => op_load_ptrA (.e rfl) ((hH _ (by simp)).trans rfl) rfl rfl ag25) ?_
    obtain ⟨v8, hv8, hm⟩ := bindE hm
    refine AD.s (ws := []) rfl rfl (fun H' _ hH => op_fn Tryz.call8 (.e rfl) (.cons (.r rfl) .nil) (m_law29_Own_ok hv8)) ?_
    obtain ⟨v9, hv9, hm⟩ := bindE hm
    refine AD.s (ws := []) rfl rfl (fun H' _ hH => op_fn Tryz.call7 (.e rfl) (.cons (.r rfl) (.cons (.r rfl) .nil)) (m_match_Compare_ok hv9)) ?_
    refine AD.s (ws := []) rfl rfl (fun H' _ hH => op_moveD (.e rfl)) ?_
    refine AD.s (ws := []) rfl rfl (fun H' _ hH => op_extractD (.e rfl) rfl) ?_
    refine AD.s (ws := []) rfl rfl (fun H' _ hH => op_extractD (.e rfl) rfl) ?_
    refine AD.s (ws := [(2, _)]) rfl rfl (fun H' _ hH => op_allocR zr29 ((hH _ (by simp)).trans rfl)) ?_
    refine AD.s (ws := [(2, _)]) rfl rfl (fun H' _ hH => op_store (.e rfl) (.e rfl) ((hH _ (by simp)).trans rfl) rfl rfl ⟨_, rfl, rfl⟩ rfl (Nat.le_of_ble_eq_true rfl)) ?_
    refine AD.s (ws := []) rfl rfl (fun H' _ hH => op_assignD (.e rfl)) ?_
    refine AD.nil ?_
    refine AW.seqR ?_
    refine AL.s rfl (op_load_ptrA (.e rfl) rfl rfl rfl ag25) ?_
    refine AL.s rfl (op_load_ptrA (.e rfl) rfl rfl rfl ag25) ?_
    obtain ⟨v10, hv10, hm⟩ := bindE hm
    refine AL.s rfl (op_fn Tryz.call9 (.e rfl) (.cons (.r rfl) (.cons (.r rfl) .nil)) (m_ref31_Compare_ok hv10)) ?_
    refine AL.s rfl (op_moveD (.e rfl)) ?_
    refine AL.s rfl (op_extractD (.e rfl) rfl) ?_
    refine AL.s rfl (op_extractD (.e rfl) rfl) ?_
    refine AL.s rfl (op_alloc (n := 3) zr35 rfl) ?_
    refine AL.s rfl (op_store (.e rfl) (.e rfl) rfl rfl rfl ⟨_, rfl, rfl⟩ rfl (Nat.le_of_ble_eq_true rfl)) ?_
    refine AL.s rfl (op_assignD (.e rfl)) ?_
    refine AL.nil ?_
    refine AW.seqR ?_
    refine AL.s rfl (op_load_ptrA (.e rfl) rfl rfl rfl ag29) ?_
    refine AL.s rfl (op_load_ptrA (.e rfl) rfl rfl rfl ag35) ?_
    refine AL.s rfl (op_eqlSt (a := v9.1) (b := v10.1) es35 (.r rfl) (.r rfl)) ?_
    refine AL.s rfl (op_moveD (.e rfl)) ?_
    refine AL.sT rfl rfl rfl rfl (fun g => op_moveD (.e rfl)) ?_
    refine AL.sT rfl rfl rfl rfl (fun g => op_moveD (.e rfl)) ?_
    refine AL.sT rfl rfl rfl rfl (fun g => op_eql (.we g rfl rfl) (.we g rfl rfl)) ?_
    refine AL.s rfl (op_and (.r rfl) (fun h => (.we h rfl rfl)) rfl) ?_
    refine AL.s rfl (op_assignD (.e rfl)) ?_
    refine AL.nil ?_
    refine AW.ret ?_
    obtain rfl := Option.some.inj hm
    exact EndQ.d (.tmp (.e rfl) .nil) rfl rfl

end Go.Proofs.YtgcmhhcopeiomaaGreat.Ab
