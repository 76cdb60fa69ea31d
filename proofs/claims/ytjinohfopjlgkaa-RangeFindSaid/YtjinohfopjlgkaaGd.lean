/- The functions do what they are in plain Lean. Conditions: none. -/
import Derived.Test.YtjinohfopjlgkaaTy
import Derived.Test.YtjinohfopjlgkaaMi
import Derived.Test.YtjinohfopjlgkaaFc
set_option maxRecDepth 100000
namespace Go.Proofs.Ytjinohfopjlgkaa.Ab
open Go
attribute [local irreducible] AL AD AW nlO nlV nlD

set_option maxHeartbeats 20000000 in
theorem m_law42_RangeFind_ok {n : Nat} {a1 : (List SOp)} {a2 : A3} {r : Bool} (hm : m_law42_RangeFind n a1 a2 = some r) : Fn Try.prog 7 [(.sl (a1.map SOp.e)), (A3.e a2)] (.bool r) := by
  unfold m_law42_RangeFind at hm
  refine Fn.of_AW (fnn := Try.f7) Try.func7 rfl (Nat.le_of_ble_eq_true rfl) (fun g0 w0 hw0 => ?_)
  refine AW.reset 0 [(0, .d (.sl (a1.map SOp.e))), (1, .d (A3.e a2))] [] (WOK.g0 hw0 (by simp)) ⟨[], rfl, rfl, rfl, ⟨(.d rfl), (.d rfl), trivial⟩, trivial, .nil⟩ ?_
  refine AW.seqR ?_
  refine AL.s rfl (op_box (n := 0) (.e rfl) rfl rfl rfl) ?_
  refine AL.s rfl (op_assignD (.e rfl)) ?_
  refine AL.nil ?_
  refine AW.seq ?_
  refine AW.seqR ?_
  obtain ⟨v3, hv3, hm⟩ := bindE hm
  refine AL.s rfl (op_fn Try.call9 (.e rfl) .nil (m_law42_awake_ok hv3)) ?_
  refine AL.s rfl (op_not (.r rfl)) ?_
  refine AL.nil ?_
  refine AW.cond (b := _) rfl (fun hc1 => ?_) (fun hc1 => ?_)
  · replace hm := iteT hc1 hm
    refine AW.seqR ?_
    refine AL.s rfl (op_assignD (.e rfl)) ?_
    refine AL.nil ?_
    refine AW.ret ?_
    refine tq_ret ?_
    obtain rfl := Option.some.inj hm
    exact EndQ.d (.tmp (.e rfl) .nil) rfl rfl
  · replace hm := iteF hc1 hm
    refine AW.skip ?_
    refine nq ?_
    refine AW.seq ?_
    refine AW.seqR ?_
    refine AL.s rfl (op_moveD (.e rfl)) ?_
    obtain ⟨v4, hv4, hm⟩ := bindE hm
    refine AL.s rfl (op_fn Try.call18 (.e rfl) (.cons (.r rfl) .nil) (m_law42_small_ok hv4)) ?_
    refine AL.s rfl (op_not (.r rfl)) ?_
    refine AL.nil ?_
    refine AW.cond (b := _) rfl (fun hc2 => ?_) (fun hc2 => ?_)
    · replace hm := iteT hc2 hm
      refine AW.seqR ?_
      refine AL.s rfl (op_assignD (.e rfl)) ?_
      refine AL.nil ?_
      refine AW.ret ?_
      refine tq_ret ?_
      obtain rfl := Option.some.inj hm
      exact EndQ.d (.tmp (.e rfl) .nil) rfl rfl
    · replace hm := iteF hc2 hm
      refine AW.skip ?_
      refine nq ?_
      refine AW.seqR ?_
      refine AL.s rfl (op_moveD (.e rfl)) ?_
      obtain ⟨v5, hv5, hm⟩ := bindE hm
      refine AL.s rfl (op_fn Try.call19 (.e rfl) (.cons (.r rfl) .nil) (m_law42_play_ok hv5)) ?_
      refine AL.s rfl (op_moveD (.e rfl)) ?_
      obtain ⟨v6, hv6, hm⟩ := bindE hm
      refine AL.s rfl (op_fn Try.call23 (.e rfl) (.cons (.r rfl) .nil) (m_ref42_Run_ok hv6)) ?_
      refine AL.s rfl (op_alloc (n := 1) zr28 rfl) ?_
      refine AL.s rfl (op_store (.e rfl) (.e rfl) rfl rfl rfl ⟨_, rfl, rfl⟩ rfl (Nat.le_of_ble_eq_true rfl)) ?_
      refine AL.s rfl (op_assignD (.e rfl)) ?_
      refine AL.nil ?_
      refine AW.seqR ?_
      refine AL.s rfl (op_load_ptrA (.e rfl) rfl rfl rfl ag28) ?_
      refine AL.s rfl (op_indexAddr_arr (i := 2) (.e rfl) (.r rfl) rfl (by decide) Try.underlying42 ⟨_, rfl, rfl⟩) ?_
      refine AL.s rfl (op_load_ptr1 (.e rfl) rfl rfl sc3) ?_
      obtain ⟨v7, hv7, hm⟩ := bindE hm
      refine AL.s rfl (op_fn Try.call29 (.e rfl) (.cons (.r rfl) (.cons (.r rfl) .nil)) (m_rangeindex_Nth_ok hv7)) ?_
      refine AL.s rfl (op_moveD (.e rfl)) ?_
      refine AL.s rfl (op_extractD (.e rfl) rfl) ?_
      refine AL.s rfl (op_extractD (.e rfl) rfl) ?_
      refine AL.s rfl (op_alloc (n := 2) zr56 rfl) ?_
      refine AL.s rfl (op_store (.e rfl) (.e rfl) rfl rfl rfl ⟨_, rfl, rfl⟩ rfl (Nat.le_of_ble_eq_true rfl)) ?_
      refine AL.s rfl (op_assignD (.e rfl)) ?_
      refine AL.nil ?_
      refine AW.seqR ?_
      refine AL.s rfl (op_moveD (.e rfl)) ?_
      refine AL.s rfl (op_indexAddr_arr (i := 2) (.e rfl) (.r rfl) rfl (by decide) Try.underlying42 ⟨_, rfl, rfl⟩) ?_
      refine AL.s rfl (op_load_ptr1 (.e rfl) rfl rfl sc3) ?_
      obtain ⟨v8, hv8, hm⟩ := bindE hm
      refine AL.s rfl (op_fn Try.call30 (.e rfl) (.cons (.r rfl) (.cons (.r rfl) .nil)) (m_ref42_Nth_ok hv8)) ?_
      refine AL.s rfl (op_moveD (.e rfl)) ?_
      refine AL.s rfl (op_extractD (.e rfl) rfl) ?_
      refine AL.s rfl (op_extractD (.e rfl) rfl) ?_
      refine AL.s rfl (op_alloc (n := 3) zr53 rfl) ?_
      refine AL.s rfl (op_store (.e rfl) (.e rfl) rfl rfl rfl ⟨_, rfl, rfl⟩ rfl (Nat.le_of_ble_eq_true rfl)) ?_
      refine AL.s rfl (op_assignD (.e rfl)) ?_
      refine AL.nil ?_
      refine AW.seqD [([1], []), ([], []), ([0], []), ([], []), ([0], []), ([], []), ([], []), ([], []), ([0], []), ([], []), ([0], []), ([], []), ([], []), ([], []), ([1], []), ([], []), ([0], []), ([], []), ([0], []), ([], []), ([], []), ([], []), ([0], []), ([], []), ([0], []), ([], []), ([], []), ([], []), ([], []), ([], []), ([1], []), ([], []), ([0], []), ([], []), ([], []), ([], []), ([0], []), ([], []), ([], []), ([], []), ([], []), ([2], []), ([3], []), ([], []), ([], []), ([], []), ([], []), ([], []), ([], []), ([], []), ([], [])] mo (by decide +kernel) ?_
      refine AD.s (ws := []) rfl rfl (fun H' _ hH => op_load_ptrA (.e rfl) ((hH _ (by simp)).trans rfl) rfl rfl ag28) ?_
      refine AD.s (ws := []) rfl rfl (fun H' _ hH => op_indexAddr_arr (i := 0) (.e rfl) (.r rfl) rfl (by decide) Try.underlying42 ⟨_, rfl, rfl⟩) ?_
      refine AD.s (ws := []) rfl rfl (fun H' _ hH => op_load_ptr1 (.e rfl) ((hH _ (by simp)).trans rfl) rfl sc3) ?_
      refine AD.s (ws := []) rfl rfl (fun H' _ hH => op_indexAddr_arr (i := 1) (.e rfl) (.r rfl) rfl (by decide) Try.underlying42 ⟨_, rfl, rfl⟩) ?_
      refine AD.s (ws := []) rfl rfl (fun H' _ hH => op_load_ptr1 (.e rfl) ((hH _ (by simp)).trans rfl) rfl sc3) ?_
      obtain ⟨v9, hv9, hm⟩ := bindE hm
      refine AD.s (ws := []) rfl rfl (fun H' _ hH => op_fn Try.call31 (.e rfl) (.cons (.r rfl) (.cons (.r rfl) (.cons (.r rfl) .nil))) (m_rangeindex_Docs_ok hv9)) ?_
      refine AD.s (ws := []) rfl rfl (fun H' _ hH => op_moveD (.e rfl)) ?_
      refine AD.s (ws := []) rfl rfl (fun H' _ hH => op_indexAddr_arr (i := 0) (.e rfl) (.r rfl) rfl (by decide) Try.underlying42 ⟨_, rfl, rfl⟩) ?_
      refine AD.s (ws := []) rfl rfl (fun H' _ hH => op_load_ptr1 (.e rfl) ((hH _ (by simp)).trans rfl) rfl sc3) ?_
      refine AD.s (ws := []) rfl rfl (fun H' _ hH => op_indexAddr_arr (i := 1) (.e rfl) (.r rfl) rfl (by decide) Try.underlying42 ⟨_, rfl, rfl⟩) ?_
      refine AD.s (ws := []) rfl rfl (fun H' _ hH => op_load_ptr1 (.e rfl) ((hH _ (by simp)).trans rfl) rfl sc3) ?_
      obtain ⟨v10, hv10, hm⟩ := bindE hm
      refine AD.s (ws := []) rfl rfl (fun H' _ hH => op_fn Try.call32 (.e rfl) (.cons (.r rfl) (.cons (.r rfl) (.cons (.r rfl) .nil))) (m_ref42_Docs_ok hv10)) ?_
      obtain ⟨v11, hv11, hm⟩ := bindE hm
      refine AD.s (ws := []) rfl rfl (fun H' _ hH => op_fn Try.call21 (.e rfl) (.cons (.r rfl) (.cons (.r rfl) .nil)) (m_ref01_SameInts_ok hv11)) ?_
      refine AD.s (ws := []) rfl rfl (fun H' _ hH => op_moveD (.e rfl)) ?_
      refine AD.sT rfl rfl rfl rfl (fun g H' _ hH => op_load_ptrA (.e rfl) ((hH _ (by simp)).trans rfl) rfl rfl ag28) ?_
      refine AD.sT rfl rfl rfl rfl (fun g H' _ hH => op_indexAddr_arr (i := 0) (.e rfl) (.r rfl) rfl (by decide) Try.underlying42 ⟨_, rfl, rfl⟩) ?_
      refine AD.sT rfl rfl rfl rfl (fun g H' _ hH => op_load_ptr1 (.we g rfl) ((hH _ (by simp)).trans rfl) rfl sc3) ?_
      refine AD.sT rfl rfl rfl rfl (fun g H' _ hH => op_indexAddr_arr (i := 1) (.e rfl) (.r rfl) rfl (by decide) Try.underlying42 ⟨_, rfl, rfl⟩) ?_
      refine AD.sT rfl rfl rfl rfl (fun g H' _ hH => op_load_ptr1 (.we g rfl) ((hH _ (by simp)).trans rfl) rfl sc3) ?_
      obtain ⟨v12, hv12, hm⟩ := bindE hm
      refine AD.sT rfl rfl rfl rfl (fun g H' _ hH => op_fn Try.call24 (.e rfl) (.cons (.we g rfl rfl) (.cons (.we g rfl rfl) (.cons (.we g rfl rfl) .nil))) (m_rangeindex_Count_ok (iteT g hv12))) ?_
      refine AD.sT rfl rfl rfl rfl (fun g H' _ hH => op_moveD (.e rfl)) ?_
      refine AD.sT rfl rfl rfl rfl (fun g H' _ hH => op_indexAddr_arr (i := 0) (.e rfl) (.r rfl) rfl (by decide) Try.underlying42 ⟨_, rfl, rfl⟩) ?_
      refine AD.sT rfl rfl rfl rfl (fun g H' _ hH => op_load_ptr1 (.we g rfl) ((hH _ (by simp)).trans rfl) rfl sc3) ?_
      refine AD.sT rfl rfl rfl rfl (fun g H' _ hH => op_indexAddr_arr (i := 1) (.e rfl) (.r rfl) rfl (by decide) Try.underlying42 ⟨_, rfl, rfl⟩) ?_
      refine AD.sT rfl rfl rfl rfl (fun g H' _ hH => op_load_ptr1 (.we g rfl) ((hH _ (by simp)).trans rfl) rfl sc3) ?_
      obtain ⟨v13, hv13, hm⟩ := bindE hm
      refine AD.sT rfl rfl rfl rfl (fun g H' _ hH => op_fn Try.call33 (.e rfl) (.cons (.we g rfl rfl) (.cons (.we g rfl rfl) (.cons (.we g rfl rfl) .nil))) (m_ref42_Between_ok (iteT g hv13))) ?_
      refine AD.sT rfl rfl rfl rfl (fun g H' _ hH => op_lenM (f := SItem.e) (.we g rfl rfl) sl24) ?_
      refine AD.sT rfl rfl rfl rfl (fun g H' _ hH => op_eql (.we g rfl rfl) (.we g rfl rfl)) ?_
      refine AD.s (ws := []) rfl rfl (fun H' _ hH => op_and (.r rfl) (fun h => (.we h rfl rfl)) rfl) ?_
      refine AD.s (ws := []) rfl rfl (fun H' _ hH => op_moveD (.e rfl)) ?_
      refine AD.sT rfl rfl rfl rfl (fun g H' _ hH => op_load_ptrA (.e rfl) ((hH _ (by simp)).trans rfl) rfl rfl ag28) ?_
      refine AD.sT rfl rfl rfl rfl (fun g H' _ hH => op_indexAddr_arr (i := 0) (.e rfl) (.r rfl) rfl (by decide) Try.underlying42 ⟨_, rfl, rfl⟩) ?_
      refine AD.sT rfl rfl rfl rfl (fun g H' _ hH => op_load_ptr1 (.we g rfl) ((hH _ (by simp)).trans rfl) rfl sc3) ?_
      obtain ⟨v14, hv14, hm⟩ := bindE hm
      refine AD.sT rfl rfl rfl rfl (fun g H' _ hH => op_fn Try.call34 (.e rfl) (.cons (.we g rfl rfl) (.cons (.we g rfl rfl) .nil)) (m_rangeindex_Rank_ok (iteT g hv14))) ?_
      refine AD.sT rfl rfl rfl rfl (fun g H' _ hH => op_moveD (.e rfl)) ?_
      refine AD.sT rfl rfl rfl rfl (fun g H' _ hH => op_indexAddr_arr (i := 0) (.e rfl) (.r rfl) rfl (by decide) Try.underlying42 ⟨_, rfl, rfl⟩) ?_
      refine AD.sT rfl rfl rfl rfl (fun g H' _ hH => op_load_ptr1 (.we g rfl) ((hH _ (by simp)).trans rfl) rfl sc3) ?_
      obtain ⟨v15, hv15, hm⟩ := bindE hm
      refine AD.sT rfl rfl rfl rfl (fun g H' _ hH => op_fn Try.call35 (.e rfl) (.cons (.we g rfl rfl) (.cons (.we g rfl rfl) .nil)) (m_ref42_Rank_ok (iteT g hv15))) ?_
      refine AD.sT rfl rfl rfl rfl (fun g H' _ hH => op_eql (.we g rfl rfl) (.we g rfl rfl)) ?_
      refine AD.s (ws := []) rfl rfl (fun H' _ hH => op_and (.r rfl) (fun h => (.we h rfl rfl)) rfl) ?_
      refine AD.s (ws := []) rfl rfl (fun H' _ hH => op_moveD (.e rfl)) ?_
      refine AD.sT rfl rfl rfl rfl (fun g H' _ hH => op_load_ptrA (.e rfl) ((hH _ (by simp)).trans rfl) rfl rfl ag56) ?_
      refine AD.sT rfl rfl rfl rfl (fun g H' _ hH => op_load_ptrA (.e rfl) ((hH _ (by simp)).trans rfl) rfl rfl ag53) ?_
      refine AD.sT rfl rfl rfl rfl (fun g H' _ hH => op_eqlSt (a := (⟨v7.1.fN, v7.1.fDoc⟩ : SItem)) (b := (⟨v8.1.fN, v8.1.fDoc⟩ : SItem)) es53 (.we g rfl rfl) (.we g rfl rfl)) ?_
      refine AD.s (ws := []) rfl rfl (fun H' _ hH => op_and (.r rfl) (fun h => (.we h rfl rfl)) rfl) ?_
      refine AD.s (ws := []) rfl rfl (fun H' _ hH => op_moveD (.e rfl)) ?_
      refine AD.sT rfl rfl rfl rfl (fun g H' _ hH => op_moveD (.e rfl)) ?_
      refine AD.sT rfl rfl rfl rfl (fun g H' _ hH => op_moveD (.e rfl)) ?_
      refine AD.sT rfl rfl rfl rfl (fun g H' _ hH => op_eqlB (.we g rfl rfl) (.we g rfl rfl) Try.underlying4) ?_
      refine AD.s (ws := []) rfl rfl (fun H' _ hH => op_and (.r rfl) (fun h => (.we h rfl rfl)) rfl) ?_
      refine AD.s (ws := []) rfl rfl (fun H' _ hH => op_assignD (.e rfl)) ?_
      refine AD.nil ?_
      refine AW.ret ?_
      obtain rfl := Option.some.inj hm
      exact EndQ.d (.tmp (.e rfl) .nil) rfl rfl

end Go.Proofs.Ytjinohfopjlgkaa.Ab
