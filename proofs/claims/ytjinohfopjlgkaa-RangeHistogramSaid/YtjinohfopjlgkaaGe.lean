/- The functions do what they are in plain Lean. Conditions: none. -/
import Derived.Test.YtjinohfopjlgkaaTy
import Derived.Test.YtjinohfopjlgkaaMi
import Derived.Test.YtjinohfopjlgkaaFc
set_option maxRecDepth 100000
namespace Go.Proofs.Ytjinohfopjlgkaa.Ab
open Go
attribute [local irreducible] AL AD AW nlO nlV nlD

set_option maxHeartbeats 20000000 in
theorem m_law42_RangeHistogram_ok {n : Nat} {a1 : (List SOp)} {a2 : A3} {r : Bool} (hm : m_law42_RangeHistogram n a1 a2 = some r) : Fn Try.prog 5 [(.sl (a1.map SOp.e)), (A3.e a2)] (.bool r) := by
  unfold m_law42_RangeHistogram at hm
  refine Fn.of_AW (fnn := Try.f5) Try.func5 rfl (Nat.le_of_ble_eq_true rfl) (fun g0 w0 hw0 => ?_)
  refine AW.reset 0 [(0, .d (.sl (a1.map SOp.e))), (1, .d (A3.e a2))] [] (WOK.g0 hw0 (by simp)) ⟨[], rfl, rfl, rfl, ⟨(.d rfl), (.d rfl), trivial⟩, trivial, .nil⟩ ?_
  refine AW.seqR ?_
  refine AL.s rfl (op_box (n := 0) (.e rfl) rfl rfl rfl) ?_
  refine AL.s rfl (op_assignD (.e rfl)) ?_
  refine AL.nil ?_
  refine AW.seq ?_
  refine AW.seqR ?_
  obtain ⟨v3, hv3, hm⟩ := bindE hm
  refine AL.s rfl (op_fn Try.call9 (.e rfl) .nil (m_law42_awake_ok hv3)) ?_
  refine AL.s rfl (op_not (.r rfl)) ?_
  refine AL.nil ?_
  refine AW.cond (b := _) rfl (fun hc1 => ?_) (fun hc1 => ?_)
  · replace hm := iteT hc1 hm
    refine AW.seqR ?_
    refine AL.s rfl (op_assignD (.e rfl)) ?_
    refine AL.nil ?_
    refine AW.ret ?_
    refine tq_ret ?_
    obtain rfl := Option.some.inj hm
    exact EndQ.d (.tmp (.e rfl) .nil) rfl rfl
  · replace hm := iteF hc1 hm
    refine AW.skip ?_
    refine nq ?_
    refine AW.seq ?_
    refine AW.seqR ?_
    refine AL.s rfl (op_moveD (.e rfl)) ?_
    obtain ⟨v4, hv4, hm⟩ := bindE hm
    refine AL.s rfl (op_fn Try.call18 (.e rfl) (.cons (.r rfl) .nil) (m_law42_small_ok hv4)) ?_
    refine AL.s rfl (op_not (.r rfl)) ?_
    refine AL.nil ?_
    refine AW.cond (b := _) rfl (fun hc2 => ?_) (fun hc2 => ?_)
    · replace hm := iteT hc2 hm
      refine AW.seqR ?_
      refine AL.s rfl (op_assignD (.e rfl)) ?_
      refine AL.nil ?_
      refine AW.ret ?_
      refine tq_ret ?_
      obtain rfl := Option.some.inj hm
      exact EndQ.d (.tmp (.e rfl) .nil) rfl rfl
    · replace hm := iteF hc2 hm
      refine AW.skip ?_
      refine nq ?_
      refine AW.seqR ?_
      refine AL.s rfl (op_moveD (.e rfl)) ?_
      obtain ⟨v5, hv5, hm⟩ := bindE hm
      refine AL.s rfl (op_fn Try.call19 (.e rfl) (.cons (.r rfl) .nil) (m_law42_play_ok hv5)) ?_
      refine AL.s rfl (op_alloc (n := 1) zr28 rfl) ?_
      refine AL.s rfl (op_store (.e rfl) (.e rfl) rfl rfl rfl ⟨_, rfl, rfl⟩ rfl (Nat.le_of_ble_eq_true rfl)) ?_
      refine AL.nil ?_
      refine AW.seqD [([], []), ([0], []), ([], []), ([0], []), ([], []), ([0], []), ([], []), ([], []), ([], [])] mo (by decide +kernel) ?_
      refine AD.s (ws := []) rfl rfl (fun H' _ hH => op_indexAddr_arr (i := 0) (.e rfl) (.r rfl) rfl (by decide) Try.underlying42 ⟨_, rfl, rfl⟩) ?_
      refine AD.s (ws := []) rfl rfl (fun H' _ hH => op_load_ptr1 (.e rfl) ((hH _ (by simp)).trans rfl) rfl sc3) ?_
      refine AD.s (ws := []) rfl rfl (fun H' _ hH => op_indexAddr_arr (i := 1) (.e rfl) (.r rfl) rfl (by decide) Try.underlying42 ⟨_, rfl, rfl⟩) ?_
      refine AD.s (ws := []) rfl rfl (fun H' _ hH => op_load_ptr1 (.e rfl) ((hH _ (by simp)).trans rfl) rfl sc3) ?_
      refine AD.s (ws := []) rfl rfl (fun H' _ hH => op_indexAddr_arr (i := 2) (.e rfl) (.r rfl) rfl (by decide) Try.underlying42 ⟨_, rfl, rfl⟩) ?_
      refine AD.s (ws := []) rfl rfl (fun H' _ hH => op_load_ptr1 (.e rfl) ((hH _ (by simp)).trans rfl) rfl sc3) ?_
      refine AD.s (ws := []) rfl rfl (fun H' _ hH => op_assignD (.e rfl)) ?_
      refine AD.s (ws := []) rfl rfl (fun H' _ hH => op_assignD (.e rfl)) ?_
      refine AD.s (ws := []) rfl rfl (fun H' _ hH => op_assignD (.e rfl)) ?_
      refine AD.nil ?_
      refine AW.seqR ?_
      refine AL.s rfl (op_load_ptrA (.e rfl) rfl rfl rfl ag28) ?_
      refine AL.s rfl (op_moveD (.e rfl)) ?_
      refine AL.s rfl (op_moveD (.e rfl)) ?_
      refine AL.s rfl (op_moveD (.e rfl)) ?_
      obtain ⟨v6, hv6, hm⟩ := bindE hm
      refine AL.s rfl (op_fn Try.call20 (.e rfl) (.cons (.r rfl) (.cons (.r rfl) (.cons (.r rfl) (.cons (.r rfl) .nil)))) (m_rangeindex_Histogram_ok hv6)) ?_
      refine AL.s rfl (op_assignD (.e rfl)) ?_
      refine AL.nil ?_
      refine AW.seqR ?_
      refine AL.s rfl (op_assignD (.e rfl)) ?_
      refine AL.nil ?_
      refine AW.seq ?_
      refine AW.seqR ?_
      refine AL.s rfl (op_assignD (.e rfl)) ?_
      refine AL.nil ?_
      refine AW.block ?_
      obtain ⟨t_1, hI1, hk1⟩ := bindE hm
      refine AW.loopS (σ := (Int × Int)) (τ := Int) 0 (fun x => [(0, .d (.sl (a1.map SOp.e))), (5, .ptr 1 0), (6, .d (.int .i64 a2.e0)), (7, .d (.int .i64 a2.e1)), (8, .d (.int .i64 a2.e2)), (9, .d (.sl (v6.map D.i))), (10, .d (.int .i64 x.1)), (11, .d (.int .i64 x.2))]) (fun x => [.row [.d (.int .i64 a2.e0), .d (.int .i64 a2.e1), .d (.int .i64 a2.e2)], .row [.d (.sl (v5.fBlocks.map (esl SItem.e)))]]) hI1 (WOK.g0 hw0 (by simp)) ⟨[0, 1], rfl, rfl, rfl, ⟨(.d rfl), (.ptr rfl), (.d rfl), (.d rfl), (.d rfl), (.d rfl), (.d rfl), (.d rfl), trivial⟩, trivial, (.row rfl (.cons (.d rfl) (.cons (.d rfl) (.cons (.d rfl) .nil))) (.row rfl (.cons (.d rfl) .nil) .nil))⟩ ?_
      rintro n1 ⟨s7, s8⟩ hI1
      obtain ⟨y_1, hm, hI1⟩ := iterS hI1
      replace hm : m_law42_RangeHistogram_L1 n _ s7 s8 = some y_1 := hm
      unfold m_law42_RangeHistogram_L1 at hm
      try dsimp only at hm
      refine AW.seq ?_
      refine AW.seqR ?_
      refine AL.s rfl (op_moveD (.e rfl)) ?_
      refine AL.s rfl (op_moveD (.e rfl)) ?_
      refine AL.s rfl (op_lenM (f := D.i) (.r rfl) sl45) ?_
      refine AL.s rfl (op_lss (.r rfl) (.r rfl)) ?_
      refine AL.nil ?_
      refine AW.cond (b := _) rfl (fun hc3 => ?_) (fun hc3 => ?_)
      · replace hm := iteT hc3 hm
        refine AW.skip ?_
        refine nq ?_
        refine AW.seq ?_
        refine AW.block ?_
        refine AW.region ?_
        refine AL.s rfl (op_moveD (.e rfl)) ?_
        refine AL.s rfl (op_moveD (.e rfl)) ?_
        refine AL.s rfl (op_moveD (.e rfl)) ?_
        obtain ⟨v9, hv9, hm⟩ := bindE hm
        refine AL.s rfl (op_indexAddrM (f := D.i) (.r rfl) (.r rfl) hv9 En.i sl45) ?_
        refine AL.s rfl (op_load_vp1 (.e rfl) rfl sc3) ?_
        refine AL.s rfl (op_addw (.r rfl) (.r rfl)) ?_
        refine AL.s rfl (op_assignD (.e rfl)) ?_
        refine AL.nil ?_
        refine bq_n ?_
        refine nq ?_
        refine AW.region ?_
        refine AL.s rfl (op_moveD (.e rfl)) ?_
        refine AL.s rfl (op_addw (.r rfl) (.r rfl)) ?_
        refine AL.s rfl (op_assignD (.e rfl)) ?_
        refine AL.nil ?_
        obtain rfl := Option.some.inj hm
        exact nq ⟨_, hI1, ⟨[0, 1], rfl, rfl, rfl, ⟨(.d rfl), (.ptr rfl), (.d rfl), (.d rfl), (.d rfl), (.d rfl), (.d rfl), (.d rfl), trivial⟩, trivial, (.row rfl (.cons (.d rfl) (.cons (.d rfl) (.cons (.d rfl) .nil))) (.row rfl (.cons (.d rfl) .nil) .nil))⟩⟩
      · replace hm := iteF hc3 hm
        refine AW.exit ?_
        refine tq_exit ?_
        refine tq_exit ?_
        obtain rfl := Option.some.inj hm
        obtain rfl := Option.some.inj hI1
        replace hm := hk1
        try dsimp only at hm
        refine bq_hit ?_
        refine nq ?_
        refine AW.seqR ?_
        refine AL.s rfl (op_moveD (.e rfl)) ?_
        refine AL.s rfl (op_moveD (.e rfl)) ?_
        obtain ⟨v10, hv10, hm⟩ := bindE hm
        refine AL.s rfl (op_fn Try.call23 (.e rfl) (.cons (.r rfl) .nil) (m_ref42_Run_ok hv10)) ?_
        refine AL.s rfl (op_moveD (.e rfl)) ?_
        refine AL.s rfl (op_moveD (.e rfl)) ?_
        refine AL.s rfl (op_moveD (.e rfl)) ?_
        obtain ⟨v11, hv11, hm⟩ := bindE hm
        refine AL.s rfl (op_fn Try.call22 (.e rfl) (.cons (.r rfl) (.cons (.r rfl) (.cons (.r rfl) (.cons (.r rfl) .nil)))) (m_ref42_Histogram_ok hv11)) ?_
        obtain ⟨v12, hv12, hm⟩ := bindE hm
        refine AL.s rfl (op_fn Try.call21 (.e rfl) (.cons (.r rfl) (.cons (.r rfl) .nil)) (m_ref01_SameInts_ok hv12)) ?_
        refine AL.s rfl (op_moveD (.e rfl)) ?_
        refine AL.sT rfl rfl rfl rfl (fun g => op_moveD (.e rfl)) ?_
        refine AL.sT rfl rfl rfl rfl (fun g => op_lenM (f := D.i) (.we g rfl rfl) sl45) ?_
        refine AL.sT rfl rfl rfl rfl (fun g => op_eql (.we g rfl rfl) (.r rfl)) ?_
        refine AL.sT rfl rfl rfl rfl (fun g => op_moveD (.we g rfl)) ?_
        refine AL.sFF rfl rfl rfl rfl (fun gp g => op_moveD (.e rfl)) ?_
        refine AL.sFF rfl rfl rfl rfl (fun gp g => op_load_ptrA (.e rfl) rfl rfl rfl ag28) ?_
        refine AL.sFF rfl rfl rfl rfl (fun gp g => op_moveD (.e rfl)) ?_
        refine AL.sFF rfl rfl rfl rfl (fun gp g => op_moveD (.e rfl)) ?_
        obtain ⟨v13, hv13, hm⟩ := bindE hm
        refine AL.sFF rfl rfl rfl rfl (fun gp g => op_fn Try.call24 (.e rfl) (.cons (.we (an gp (nt g)) rfl rfl) (.cons (.we (an gp (nt g)) rfl rfl) (.cons (.we (an gp (nt g)) rfl rfl) .nil))) (m_rangeindex_Count_ok (iteT (an gp (nt g)) hv13))) ?_
        refine AL.sFF rfl rfl rfl rfl (fun gp g => op_eql (.we (an gp (nt g)) rfl rfl) (.we (an gp (nt g)) rfl rfl)) ?_
        refine AL.sFF rfl rfl rfl rfl (fun gp g => op_moveD (.we (an gp (nt g)) rfl)) ?_
        refine AL.sTT rfl rfl rfl rfl (fun gp g => op_moveD (.e rfl)) ?_
        refine AL.sTT rfl rfl rfl rfl (fun gp g => op_lenM (f := D.i) (.we (an gp g) rfl rfl) sl45) ?_
        refine AL.sTT rfl rfl rfl rfl (fun gp g => op_moveD (.e rfl)) ?_
        refine AL.sTT rfl rfl rfl rfl (fun gp g => op_leq (.we (an gp g) rfl rfl) (.we (an gp g) rfl rfl)) ?_
        refine AL.sFF rfl rfl rfl rfl (fun gp g => op_and (.we (an gp (nt g)) rfl rfl) (fun h => (.we (an (an gp (nt g)) h) rfl rfl)) rfl) ?_
        refine AL.sT rfl rfl rfl rfl (fun g => op_or (.we g rfl rfl) rfl (fun h => (.we (an g (nt h)) rfl rfl))) ?_
        refine AL.s rfl (op_and (.r rfl) (fun h => (.we h rfl rfl)) rfl) ?_
        refine AL.s rfl (op_assignD (.e rfl)) ?_
        refine AL.nil ?_
        refine AW.ret ?_
        obtain rfl := Option.some.inj hm
        exact EndQ.d (.tmp (.e rfl) .nil) rfl rfl

end Go.Proofs.Ytjinohfopjlgkaa.Ab
