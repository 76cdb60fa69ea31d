/- The functions do what they are in plain Lean. Conditions: none. -/
import Derived.Test.YtgcmhhcopeiomaaTy
import Derived.Test.YtgcmhhcopeiomaaMi
import Derived.Test.YtgcmhhcopeiomaaFe
set_option maxRecDepth 100000
namespace Go.Proofs.Ytgcmhhcopeiomaa.Ab
open Go
attribute [local irreducible] AL AD AW

set_option maxHeartbeats 20000000 in
theorem m_law31_MatchSymmetric_ok {n : Nat} {a1 : SFeatures} {a2 : SFeatures} {a3 : A7} {r : Bool} (hm : m_law31_MatchSymmetric n a1 a2 a3 = some r) : Fn Try.prog 3 [(SFeatures.e a1), (SFeatures.e a2), (A7.e a3)] (.bool r) := by
  unfold m_law31_MatchSymmetric at hm
  refine Fn.of_AW (fnn := Try.f3) Try.func3 rfl (Nat.le_of_ble_eq_true rfl) (fun g0 w0 hw0 => ?_)
  refine AW.reset 0 [(0, .d (SFeatures.e a1)), (1, .d (SFeatures.e a2)), (2, .d (A7.e a3))] [] (WOK.g0 hw0 (by simp)) ⟨[], rfl, rfl, rfl, ⟨(.d rfl), (.d rfl), (.d rfl), trivial⟩, trivial, .nil⟩ ?_
  refine AW.seqR ?_
  refine AL.s rfl (op_box (n := 0) (.e rfl) rfl rfl rfl) ?_
  refine AL.s rfl (op_box (n := 1) (.e rfl) rfl rfl rfl) ?_
  refine AL.s rfl (op_box (n := 2) (.e rfl) rfl rfl rfl) ?_
  refine AL.s rfl (op_assignD (.e rfl)) ?_
  refine AL.nil ?_
  refine AW.seq ?_
  refine AW.seqR ?_
  obtain ⟨v4, hv4, hm⟩ := bindE hm
  refine AL.s rfl (op_fn Try.call7 (.e rfl) .nil (m_law31_awake_ok hv4)) ?_
  refine AL.s rfl (op_not (.r rfl)) ?_
  refine AL.s rfl (op_moveD (.e rfl)) ?_
  refine AL.sF rfl rfl rfl rfl (fun g => op_load_ptrA (.e rfl) rfl rfl rfl ag25) ?_
  obtain ⟨v5, hv5, hm⟩ := bindE hm
  refine AL.sF rfl rfl rfl rfl (fun g => op_fn Try.call8 (.e rfl) (.cons (.we (nt g) rfl rfl) .nil) (m_ref29_Few_ok (iteT (nt g) hv5))) ?_
  refine AL.sF rfl rfl rfl rfl (fun g => op_not (.we (nt g) rfl rfl)) ?_
  refine AL.s rfl (op_or (.r rfl) rfl (fun h => (.we (nt h) rfl rfl))) ?_
  refine AL.s rfl (op_moveD (.e rfl)) ?_
  refine AL.sF rfl rfl rfl rfl (fun g => op_load_ptrA (.e rfl) rfl rfl rfl ag25) ?_
  obtain ⟨v6, hv6, hm⟩ := bindE hm
  refine AL.sF rfl rfl rfl rfl (fun g => op_fn Try.call8 (.e rfl) (.cons (.we (nt g) rfl rfl) .nil) (m_ref29_Few_ok (iteT (nt g) hv6))) ?_
  refine AL.sF rfl rfl rfl rfl (fun g => op_not (.we (nt g) rfl rfl)) ?_
  refine AL.s rfl (op_or (.r rfl) rfl (fun h => (.we (nt h) rfl rfl))) ?_
  refine AL.s rfl (op_moveD (.e rfl)) ?_
  refine AL.sF rfl rfl rfl rfl (fun g => op_load_ptrA (.e rfl) rfl rfl rfl ag25) ?_
  obtain ⟨v7, hv7, hm⟩ := bindE hm
  refine AL.sF rfl rfl rfl rfl (fun g => op_fn Try.call9 (.e rfl) (.cons (.we (nt g) rfl rfl) .nil) (m_ref29_Valid_ok (iteT (nt g) hv7))) ?_
  refine AL.sF rfl rfl rfl rfl (fun g => op_not (.we (nt g) rfl rfl)) ?_
  refine AL.s rfl (op_or (.r rfl) rfl (fun h => (.we (nt h) rfl rfl))) ?_
  refine AL.s rfl (op_moveD (.e rfl)) ?_
  refine AL.sF rfl rfl rfl rfl (fun g => op_load_ptrA (.e rfl) rfl rfl rfl ag25) ?_
  obtain ⟨v8, hv8, hm⟩ := bindE hm
  refine AL.sF rfl rfl rfl rfl (fun g => op_fn Try.call9 (.e rfl) (.cons (.we (nt g) rfl rfl) .nil) (m_ref29_Valid_ok (iteT (nt g) hv8))) ?_
  refine AL.sF rfl rfl rfl rfl (fun g => op_not (.we (nt g) rfl rfl)) ?_
  refine AL.s rfl (op_or (.r rfl) rfl (fun h => (.we (nt h) rfl rfl))) ?_
  refine AL.nil ?_
  refine AW.cond (b := _) rfl (fun hc1 => ?_) (fun hc1 => ?_)
  · replace hm := iteT hc1 hm
    refine AW.seqR ?_
    obtain ⟨v9, hv9, hm⟩ := bindE hm
    refine AL.s rfl (op_fn Try.call7 (.e rfl) .nil (m_law31_awake_ok hv9)) ?_
    refine AL.s rfl (op_assignD (.e rfl)) ?_
    refine AL.nil ?_
    refine AW.ret ?_
    refine tq_ret ?_
    obtain rfl := Option.some.inj hm
    exact EndQ.d (.tmp (.e rfl) .nil) rfl rfl
  · replace hm := iteF hc1 hm
    refine AW.skip ?_
    refine nq ?_
    refine AW.free ?_
    refine AW.free ?_
    refine AW.seqD [([0], []), ([], []), ([1], []), ([], []), ([], [3]), ([], [4]), ([3], [3]), ([4], [4])] mo (by decide +kernel) ?_
    refine AD.s (ws := []) rfl rfl (fun H' _ hH => op_load_ptrA (.e rfl) ((hH _ (by simp)).trans rfl) rfl rfl ag25) ?_
    obtain ⟨v10, hv10, hm⟩ := bindE hm
    refine AD.s (ws := []) rfl rfl (fun H' _ hH => op_fn Try.call10 (.e rfl) (.cons (.r rfl) .nil) (m_law29_Own_ok hv10)) ?_
    refine AD.s (ws := []) rfl rfl (fun H' _ hH => op_load_ptrA (.e rfl) ((hH _ (by simp)).trans rfl) rfl rfl ag25) ?_
    obtain ⟨v11, hv11, hm⟩ := bindE hm
    refine AD.s (ws := []) rfl rfl (fun H' _ hH => op_fn Try.call10 (.e rfl) (.cons (.r rfl) .nil) (m_law29_Own_ok hv11)) ?_
    refine AD.s (ws := [(3, _)]) rfl rfl (fun H' _ hH => op_allocR zr30 ((hH _ (by simp)).trans rfl)) ?_
    refine AD.s (ws := [(4, _)]) rfl rfl (fun H' _ hH => op_allocR zr30 ((hH _ (by simp)).trans rfl)) ?_
    refine AD.s (ws := [(3, _)]) rfl rfl (fun H' _ hH => op_store (.e rfl) (.e rfl) ((hH _ (by simp)).trans rfl) rfl rfl ⟨_, rfl, rfl⟩ rfl (Nat.le_of_ble_eq_true rfl)) ?_
    refine AD.s (ws := [(4, _)]) rfl rfl (fun H' _ hH => op_store (.e rfl) (.e rfl) ((hH _ (by simp)).trans rfl) rfl rfl ⟨_, rfl, rfl⟩ rfl (Nat.le_of_ble_eq_true rfl)) ?_
    refine AD.nil ?_
    refine AW.seqR ?_
    refine AL.s rfl (op_load_ptrA (.e rfl) rfl rfl rfl ag30) ?_
    refine AL.s rfl (op_load_ptrA (.e rfl) rfl rfl rfl ag30) ?_
    obtain ⟨v12, hv12, hm⟩ := bindE hm
    refine AL.s rfl (op_fn Try.call11 (.e rfl) (.cons (.r rfl) (.cons (.r rfl) .nil)) (m_match_Compare_ok hv12)) ?_
    refine AL.s rfl (op_moveD (.e rfl)) ?_
    refine AL.s rfl (op_extractD (.e rfl) rfl) ?_
    refine AL.s rfl (op_extractD (.e rfl) rfl) ?_
    refine AL.s rfl (op_alloc (n := 5) zr32 rfl) ?_
    refine AL.s rfl (op_store (.e rfl) (.e rfl) rfl rfl rfl ⟨_, rfl, rfl⟩ rfl (Nat.le_of_ble_eq_true rfl)) ?_
    refine AL.s rfl (op_assignD (.e rfl)) ?_
    refine AL.nil ?_
    refine AW.reset 0 [(5, .ptr 2 0), (7, .ptr 3 0), (8, .ptr 4 0), (9, .ptr 5 0), (10, .d (.int .i64 v12.2))] [.row [.d (.int .i64 a1.fID), .d (.sl (a1.fTitle.map D.str)), .d (.str a1.fAuthor), .d (.sl (a1.fYears.map D.i)), .d (.sl (a1.fIsbns.map D.str)), .d (.sl (a1.fLangs.map D.str)), .d (.sl (a1.fPublisher.map D.str)), .d (.sl (a1.fEdition.map D.str))], .row [.d (.int .i64 a2.fID), .d (.sl (a2.fTitle.map D.str)), .d (.str a2.fAuthor), .d (.sl (a2.fYears.map D.i)), .d (.sl (a2.fIsbns.map D.str)), .d (.sl (a2.fLangs.map D.str)), .d (.sl (a2.fPublisher.map D.str)), .d (.sl (a2.fEdition.map D.str))], .row [.d (.int .i64 a3.e0), .d (.int .i64 a3.e1), .d (.int .i64 a3.e2), .d (.int .i64 a3.e3), .d (.int .i64 a3.e4), .d (.int .i64 a3.e5), .d (.int .i64 a3.e6)], .row [.d (.int .i64 v10.fID), .d (.sl (v10.fTitle.map D.str)), .d (.str v10.fAuthor), .d (.sl (v10.fYears.map D.i)), .d (.sl (v10.fIsbns.map D.str)), .d (.sl (v10.fLangs.map D.str)), .d (.sl (v10.fPublisher.map D.str)), .d (.sl (v10.fEdition.map D.str))], .row [.d (.int .i64 v11.fID), .d (.sl (v11.fTitle.map D.str)), .d (.str v11.fAuthor), .d (.sl (v11.fYears.map D.i)), .d (.sl (v11.fIsbns.map D.str)), .d (.sl (v11.fLangs.map D.str)), .d (.sl (v11.fPublisher.map D.str)), .d (.sl (v11.fEdition.map D.str))], .row [.d (.int .i64 v12.1.e0), .d (.int .i64 v12.1.e1), .d (.int .i64 v12.1.e2), .d (.int .i64 v12.1.e3), .d (.int .i64 v12.1.e4), .d (.int .i64 v12.1.e5), .d (.int .i64 v12.1.e6)]] (WOK.g0 hw0 (by simp)) ⟨[0, 1, 2, 3, 4, 5], rfl, rfl, rfl, ⟨(.ptr rfl), (.ptr rfl), (.ptr rfl), (.ptr rfl), (.d rfl), trivial⟩, trivial, (.row rfl (.cons (.d rfl) (.cons (.d rfl) (.cons (.d rfl) (.cons (.d rfl) (.cons (.d rfl) (.cons (.d rfl) (.cons (.d rfl) (.cons (.d rfl) .nil)))))))) (.row rfl (.cons (.d rfl) (.cons (.d rfl) (.cons (.d rfl) (.cons (.d rfl) (.cons (.d rfl) (.cons (.d rfl) (.cons (.d rfl) (.cons (.d rfl) .nil)))))))) (.row rfl (.cons (.d rfl) (.cons (.d rfl) (.cons (.d rfl) (.cons (.d rfl) (.cons (.d rfl) (.cons (.d rfl) (.cons (.d rfl) .nil))))))) (.row rfl (.cons (.d rfl) (.cons (.d rfl) (.cons (.d rfl) (.cons (.d rfl) (.cons (.d rfl) (.cons (.d rfl) (.cons (.d rfl) (.cons (.d rfl) .nil)))))))) (.row rfl (.cons (.d rfl) (.cons (.d rfl) (.cons (.d rfl) (.cons (.d rfl) (.cons (.d rfl) (.cons (.d rfl) (.cons (.d rfl) (.cons (.d rfl) .nil)))))))) (.row rfl (.cons (.d rfl) (.cons (.d rfl) (.cons (.d rfl) (.cons (.d rfl) (.cons (.d rfl) (.cons (.d rfl) (.cons (.d rfl) .nil))))))) .nil))))))⟩ ?_
    refine AW.seqR ?_
    refine AL.s rfl (op_load_ptrA (.e rfl) rfl rfl rfl ag30) ?_
    refine AL.s rfl (op_load_ptrA (.e rfl) rfl rfl rfl ag30) ?_
    obtain ⟨v13, hv13, hm⟩ := bindE hm
    refine AL.s rfl (op_fn Try.call11 (.e rfl) (.cons (.r rfl) (.cons (.r rfl) .nil)) (m_match_Compare_ok hv13)) ?_
    refine AL.s rfl (op_moveD (.e rfl)) ?_
    refine AL.s rfl (op_extractD (.e rfl) rfl) ?_
    refine AL.s rfl (op_extractD (.e rfl) rfl) ?_
    refine AL.s rfl (op_alloc (n := 6) zr32 rfl) ?_
    refine AL.s rfl (op_store (.e rfl) (.e rfl) rfl rfl rfl ⟨_, rfl, rfl⟩ rfl (Nat.le_of_ble_eq_true rfl)) ?_
    refine AL.s rfl (op_assignD (.e rfl)) ?_
    refine AL.nil ?_
    refine AW.seqR ?_
    refine AL.s rfl (op_load_ptrA (.e rfl) rfl rfl rfl ag30) ?_
    refine AL.s rfl (op_load_ptrA (.e rfl) rfl rfl rfl ag30) ?_
    obtain ⟨v14, hv14, hm⟩ := bindE hm
    refine AL.s rfl (op_fn Try.call11 (.e rfl) (.cons (.r rfl) (.cons (.r rfl) .nil)) (m_match_Compare_ok hv14)) ?_
    refine AL.s rfl (op_moveD (.e rfl)) ?_
    refine AL.s rfl (op_extractD (.e rfl) rfl) ?_
    refine AL.s rfl (op_extractD (.e rfl) rfl) ?_
    refine AL.s rfl (op_alloc (n := 7) zr32 rfl) ?_
    refine AL.s rfl (op_store (.e rfl) (.e rfl) rfl rfl rfl ⟨_, rfl, rfl⟩ rfl (Nat.le_of_ble_eq_true rfl)) ?_
    refine AL.s rfl (op_assignD (.e rfl)) ?_
    refine AL.nil ?_
    refine AW.seq ?_
    refine AW.seqR ?_
    refine AL.s rfl (op_moveD (.e rfl)) ?_
    refine AL.s rfl (op_neq (.r rfl) (.r rfl)) ?_
    refine AL.s rfl (op_moveD (.e rfl)) ?_
    refine AL.sF rfl rfl rfl rfl (fun g => op_moveD (.e rfl)) ?_
    refine AL.sF rfl rfl rfl rfl (fun g => op_neq (.we (nt g) rfl rfl) (.r rfl)) ?_
    refine AL.s rfl (op_or (.r rfl) rfl (fun h => (.we (nt h) rfl rfl))) ?_
    refine AL.s rfl (op_moveD (.e rfl)) ?_
    refine AL.sF rfl rfl rfl rfl (fun g => op_moveD (.e rfl)) ?_
    refine AL.sF rfl rfl rfl rfl (fun g => op_neq (.we (nt g) rfl rfl) (.r rfl)) ?_
    refine AL.s rfl (op_or (.r rfl) rfl (fun h => (.we (nt h) rfl rfl))) ?_
    refine AL.s rfl (op_moveD (.e rfl)) ?_
    refine AL.sF rfl rfl rfl rfl (fun g => op_load_ptrA (.e rfl) rfl rfl rfl ag32) ?_
    refine AL.sF rfl rfl rfl rfl (fun g => op_load_ptrA (.e rfl) rfl rfl rfl ag32) ?_
    refine AL.sF rfl rfl rfl rfl (fun g => op_neqSt (a := (⟨v12.1.e0, v12.1.e1, v12.1.e2, v12.1.e3, v12.1.e4, v12.1.e5, v12.1.e6⟩ : A7)) (b := (⟨v13.1.e0, v13.1.e1, v13.1.e2, v13.1.e3, v13.1.e4, v13.1.e5, v13.1.e6⟩ : A7)) es32 (.we (nt g) rfl rfl) (.we (nt g) rfl rfl)) ?_
    refine AL.s rfl (op_or (.r rfl) rfl (fun h => (.we (nt h) rfl rfl))) ?_
    refine AL.nil ?_
    refine AW.cond (b := _) rfl (fun hc2 => ?_) (fun hc2 => ?_)
    · replace hm := iteT hc2 hm
      refine AW.seqR ?_
      refine AL.s rfl (op_assignD (.e rfl)) ?_
      refine AL.nil ?_
      refine AW.ret ?_
      refine tq_ret ?_
      obtain rfl := Option.some.inj hm
      exact EndQ.d (.tmp (.e rfl) .nil) rfl rfl
    · replace hm := iteF hc2 hm
      refine AW.skip ?_
      refine nq ?_
      refine AW.seqR ?_
      refine AL.s rfl (op_load_ptrA (.e rfl) rfl rfl rfl ag32) ?_
      refine AL.s rfl (op_alloc (n := 8) zr32 rfl) ?_
      refine AL.s rfl (op_storeA (.e rfl) (.e rfl) rfl rfl ⟨_, rfl, rfl⟩ rfl (Nat.le_of_ble_eq_true rfl)) ?_
      refine AL.nil ?_
      refine AW.seq ?_
      refine AW.seqR ?_
      refine AL.s rfl (op_moveD (.e rfl)) ?_
      refine AL.nil ?_
      refine AW.block ?_
      obtain ⟨t_1, hI1, hk1⟩ := bindE hm
      refine AW.loopS (σ := (Int × A7)) (τ := (Bool ⊕ A7)) 0 (fun x => [(5, .ptr 2 0), (13, .ptr 7 0), (15, .ptr 8 0), (84, .d (.int .i64 x.1))]) (fun x => [.row [.d (.int .i64 a1.fID), .d (.sl (a1.fTitle.map D.str)), .d (.str a1.fAuthor), .d (.sl (a1.fYears.map D.i)), .d (.sl (a1.fIsbns.map D.str)), .d (.sl (a1.fLangs.map D.str)), .d (.sl (a1.fPublisher.map D.str)), .d (.sl (a1.fEdition.map D.str))], .row [.d (.int .i64 a2.fID), .d (.sl (a2.fTitle.map D.str)), .d (.str a2.fAuthor), .d (.sl (a2.fYears.map D.i)), .d (.sl (a2.fIsbns.map D.str)), .d (.sl (a2.fLangs.map D.str)), .d (.sl (a2.fPublisher.map D.str)), .d (.sl (a2.fEdition.map D.str))], .row [.d (.int .i64 a3.e0), .d (.int .i64 a3.e1), .d (.int .i64 a3.e2), .d (.int .i64 a3.e3), .d (.int .i64 a3.e4), .d (.int .i64 a3.e5), .d (.int .i64 a3.e6)], .row [.d (.int .i64 v10.fID), .d (.sl (v10.fTitle.map D.str)), .d (.str v10.fAuthor), .d (.sl (v10.fYears.map D.i)), .d (.sl (v10.fIsbns.map D.str)), .d (.sl (v10.fLangs.map D.str)), .d (.sl (v10.fPublisher.map D.str)), .d (.sl (v10.fEdition.map D.str))], .row [.d (.int .i64 v11.fID), .d (.sl (v11.fTitle.map D.str)), .d (.str v11.fAuthor), .d (.sl (v11.fYears.map D.i)), .d (.sl (v11.fIsbns.map D.str)), .d (.sl (v11.fLangs.map D.str)), .d (.sl (v11.fPublisher.map D.str)), .d (.sl (v11.fEdition.map D.str))], .row [.d (.int .i64 v12.1.e0), .d (.int .i64 v12.1.e1), .d (.int .i64 v12.1.e2), .d (.int .i64 v12.1.e3), .d (.int .i64 v12.1.e4), .d (.int .i64 v12.1.e5), .d (.int .i64 v12.1.e6)], .row [.d (.int .i64 v13.1.e0), .d (.int .i64 v13.1.e1), .d (.int .i64 v13.1.e2), .d (.int .i64 v13.1.e3), .d (.int .i64 v13.1.e4), .d (.int .i64 v13.1.e5), .d (.int .i64 v13.1.e6)], .row [.d (.int .i64 v14.1.e0), .d (.int .i64 v14.1.e1), .d (.int .i64 v14.1.e2), .d (.int .i64 v14.1.e3), .d (.int .i64 v14.1.e4), .d (.int .i64 v14.1.e5), .d (.int .i64 v14.1.e6)], .row [.d (.int .i64 x.2.e0), .d (.int .i64 x.2.e1), .d (.int .i64 x.2.e2), .d (.int .i64 x.2.e3), .d (.int .i64 x.2.e4), .d (.int .i64 x.2.e5), .d (.int .i64 x.2.e6)]]) hI1 (WOK.g0 hw0 (by simp)) ⟨[0, 1, 2, 3, 4, 5, 6, 7, 8], rfl, rfl, rfl, ⟨(.ptr rfl), (.ptr rfl), (.ptr rfl), (.d rfl), trivial⟩, trivial, (.row rfl (.cons (.d rfl) (.cons (.d rfl) (.cons (.d rfl) (.cons (.d rfl) (.cons (.d rfl) (.cons (.d rfl) (.cons (.d rfl) (.cons (.d rfl) .nil)))))))) (.row rfl (.cons (.d rfl) (.cons (.d rfl) (.cons (.d rfl) (.cons (.d rfl) (.cons (.d rfl) (.cons (.d rfl) (.cons (.d rfl) (.cons (.d rfl) .nil)))))))) (.row rfl (.cons (.d rfl) (.cons (.d rfl) (.cons (.d rfl) (.cons (.d rfl) (.cons (.d rfl) (.cons (.d rfl) (.cons (.d rfl) .nil))))))) (.row rfl (.cons (.d rfl) (.cons (.d rfl) (.cons (.d rfl) (.cons (.d rfl) (.cons (.d rfl) (.cons (.d rfl) (.cons (.d rfl) (.cons (.d rfl) .nil)))))))) (.row rfl (.cons (.d rfl) (.cons (.d rfl) (.cons (.d rfl) (.cons (.d rfl) (.cons (.d rfl) (.cons (.d rfl) (.cons (.d rfl) (.cons (.d rfl) .nil)))))))) (.row rfl (.cons (.d rfl) (.cons (.d rfl) (.cons (.d rfl) (.cons (.d rfl) (.cons (.d rfl) (.cons (.d rfl) (.cons (.d rfl) .nil))))))) (.row rfl (.cons (.d rfl) (.cons (.d rfl) (.cons (.d rfl) (.cons (.d rfl) (.cons (.d rfl) (.cons (.d rfl) (.cons (.d rfl) .nil))))))) (.row rfl (.cons (.d rfl) (.cons (.d rfl) (.cons (.d rfl) (.cons (.d rfl) (.cons (.d rfl) (.cons (.d rfl) (.cons (.d rfl) .nil))))))) (.row rfl (.cons (.d rfl) (.cons (.d rfl) (.cons (.d rfl) (.cons (.d rfl) (.cons (.d rfl) (.cons (.d rfl) (.cons (.d rfl) .nil))))))) .nil)))))))))⟩ ?_
      rintro n1 ⟨s15, s16⟩ hI1
      obtain ⟨y_1, hm, hI1⟩ := iterS hI1
      replace hm : m_law31_MatchSymmetric_L1 n _ _ s15 s16 = some y_1 := hm
      unfold m_law31_MatchSymmetric_L1 at hm
      try dsimp only at hm
      refine AW.seqR ?_
      refine AL.s rfl (op_lss (.r rfl) (.r rfl)) ?_
      refine AL.nil ?_
      refine AW.seq ?_
      refine AW.cond (b := _) rfl (fun hc3 => ?_) (fun hc3 => ?_)
      · replace hm := iteT hc3 hm
        refine AW.skip ?_
        refine nq ?_
        obtain ⟨t_j1, hm, hkj1⟩ := bindE hm
        refine AW.cutS (α := A7) 0 (fun x => (.inr x) = t_j1) (fun x => [(5, .ptr 2 0), (13, .ptr 7 0), (15, .ptr 8 0), (84, .d (.int .i64 s15))]) (fun x => [.row [.d (.int .i64 a1.fID), .d (.sl (a1.fTitle.map D.str)), .d (.str a1.fAuthor), .d (.sl (a1.fYears.map D.i)), .d (.sl (a1.fIsbns.map D.str)), .d (.sl (a1.fLangs.map D.str)), .d (.sl (a1.fPublisher.map D.str)), .d (.sl (a1.fEdition.map D.str))], .row [.d (.int .i64 a2.fID), .d (.sl (a2.fTitle.map D.str)), .d (.str a2.fAuthor), .d (.sl (a2.fYears.map D.i)), .d (.sl (a2.fIsbns.map D.str)), .d (.sl (a2.fLangs.map D.str)), .d (.sl (a2.fPublisher.map D.str)), .d (.sl (a2.fEdition.map D.str))], .row [.d (.int .i64 a3.e0), .d (.int .i64 a3.e1), .d (.int .i64 a3.e2), .d (.int .i64 a3.e3), .d (.int .i64 a3.e4), .d (.int .i64 a3.e5), .d (.int .i64 a3.e6)], .row [.d (.int .i64 v10.fID), .d (.sl (v10.fTitle.map D.str)), .d (.str v10.fAuthor), .d (.sl (v10.fYears.map D.i)), .d (.sl (v10.fIsbns.map D.str)), .d (.sl (v10.fLangs.map D.str)), .d (.sl (v10.fPublisher.map D.str)), .d (.sl (v10.fEdition.map D.str))], .row [.d (.int .i64 v11.fID), .d (.sl (v11.fTitle.map D.str)), .d (.str v11.fAuthor), .d (.sl (v11.fYears.map D.i)), .d (.sl (v11.fIsbns.map D.str)), .d (.sl (v11.fLangs.map D.str)), .d (.sl (v11.fPublisher.map D.str)), .d (.sl (v11.fEdition.map D.str))], .row [.d (.int .i64 v12.1.e0), .d (.int .i64 v12.1.e1), .d (.int .i64 v12.1.e2), .d (.int .i64 v12.1.e3), .d (.int .i64 v12.1.e4), .d (.int .i64 v12.1.e5), .d (.int .i64 v12.1.e6)], .row [.d (.int .i64 v13.1.e0), .d (.int .i64 v13.1.e1), .d (.int .i64 v13.1.e2), .d (.int .i64 v13.1.e3), .d (.int .i64 v13.1.e4), .d (.int .i64 v13.1.e5), .d (.int .i64 v13.1.e6)], .row [.d (.int .i64 v14.1.e0), .d (.int .i64 v14.1.e1), .d (.int .i64 v14.1.e2), .d (.int .i64 v14.1.e3), .d (.int .i64 v14.1.e4), .d (.int .i64 v14.1.e5), .d (.int .i64 v14.1.e6)], .row [.d (.int .i64 x.e0), .d (.int .i64 x.e1), .d (.int .i64 x.e2), .d (.int .i64 x.e3), .d (.int .i64 x.e4), .d (.int .i64 x.e5), .d (.int .i64 x.e6)]]) (WOK.g0 hw0 (by simp)) ?_ ?_
        · skip
          refine AW.block ?_
          refine AW.seqR ?_
          refine AL.s rfl (op_moveD (.e rfl)) ?_
          refine AL.s rfl (op_assignD (.e rfl)) ?_
          refine AL.nil ?_
          refine AW.seq ?_
          refine AW.seqR ?_
          refine AL.s rfl (op_moveD (.e rfl)) ?_
          obtain ⟨v17, hv17, hm⟩ := bindE hm
          refine AL.s rfl (op_indexA (l := v14.1.l) (s := 1) (.e rfl) (.r rfl) hv17 rfl Try.underlying32 ⟨_, rfl, rfl⟩) ?_
          refine AL.s rfl (op_loadAt1 (X := (A7.e v14.1).cells) (.e rfl) rfl (AtD.ix (f := D.i) (l := v14.1.l) En.i (AtD.root : AtD (A7.e v14.1).cells 0 _ _) hv17) sc3) ?_
          refine AL.s rfl (op_neq (.r rfl) (.r rfl)) ?_
          refine AL.s rfl (op_moveD (.e rfl)) ?_
          refine AL.sT rfl rfl rfl rfl (fun g => op_moveD (.e rfl)) ?_
          obtain ⟨v18, hv18, hm⟩ := bindE hm
          refine AL.sT rfl rfl rfl rfl (fun g => op_indexA (l := v14.1.l) (s := 1) (.e rfl) (.we g rfl rfl) (iteT g hv18) rfl Try.underlying32 ⟨_, rfl, rfl⟩) ?_
          refine AL.sT rfl rfl rfl rfl (fun g => op_loadAt1 (X := (A7.e v14.1).cells) (.we g rfl) rfl (AtD.ix (f := D.i) (l := v14.1.l) En.i (AtD.root : AtD (A7.e v14.1).cells 0 _ _) (iteT g hv18)) sc3) ?_
          refine AL.sT rfl rfl rfl rfl (fun g => op_neq (.we g rfl rfl) (.r rfl)) ?_
          refine AL.s rfl (op_and (.r rfl) (fun h => (.we h rfl rfl)) rfl) ?_
          refine AL.nil ?_
          refine AW.cond (b := _) rfl (fun hc4 => ?_) (fun hc4 => ?_)
          · replace hm := iteT hc4 hm
            refine AW.seqR ?_
            refine AL.s rfl (op_assignD (.e rfl)) ?_
            refine AL.nil ?_
            refine AW.ret ?_
            refine tq_ret ?_
            refine bq_ret ?_
            refine tq_ret ?_
            obtain rfl := Option.some.inj hm
            replace hm := hkj1
            try dsimp only at hm
            refine tq_ret ?_
            obtain rfl := Option.some.inj hm
            obtain rfl := Option.some.inj hI1
            replace hm := hk1
            try dsimp only at hm
            refine bq_ret ?_
            refine tq_ret ?_
            obtain rfl := Option.some.inj hm
            exact EndQ.d (.tmp (.e rfl) .nil) rfl rfl
          · replace hm := iteF hc4 hm
            refine AW.skip ?_
            refine nq ?_
            refine AW.seqR ?_
            refine AL.s rfl (op_moveD (.e rfl)) ?_
            obtain ⟨v19, hv19, hm⟩ := bindE hm
            refine AL.s rfl (op_indexA (l := v14.1.l) (s := 1) (.e rfl) (.r rfl) hv19 rfl Try.underlying32 ⟨_, rfl, rfl⟩) ?_
            refine AL.s rfl (op_loadAt1 (X := (A7.e v14.1).cells) (.e rfl) rfl (AtD.ix (f := D.i) (l := v14.1.l) En.i (AtD.root : AtD (A7.e v14.1).cells 0 _ _) hv19) sc3) ?_
            refine AL.s rfl (op_neq (.r rfl) (.r rfl)) ?_
            refine AL.nil ?_
            refine AW.cond (b := _) rfl (fun hc5 => ?_) (fun hc5 => ?_)
            · replace hm := iteT hc5 hm
              refine AW.reset 0 [(5, .ptr 2 0), (13, .ptr 7 0), (15, .ptr 8 0), (16, .d (.int .i64 s15)), (84, .d (.int .i64 s15))] [.row [.d (.int .i64 a1.fID), .d (.sl (a1.fTitle.map D.str)), .d (.str a1.fAuthor), .d (.sl (a1.fYears.map D.i)), .d (.sl (a1.fIsbns.map D.str)), .d (.sl (a1.fLangs.map D.str)), .d (.sl (a1.fPublisher.map D.str)), .d (.sl (a1.fEdition.map D.str))], .row [.d (.int .i64 a2.fID), .d (.sl (a2.fTitle.map D.str)), .d (.str a2.fAuthor), .d (.sl (a2.fYears.map D.i)), .d (.sl (a2.fIsbns.map D.str)), .d (.sl (a2.fLangs.map D.str)), .d (.sl (a2.fPublisher.map D.str)), .d (.sl (a2.fEdition.map D.str))], .row [.d (.int .i64 a3.e0), .d (.int .i64 a3.e1), .d (.int .i64 a3.e2), .d (.int .i64 a3.e3), .d (.int .i64 a3.e4), .d (.int .i64 a3.e5), .d (.int .i64 a3.e6)], .row [.d (.int .i64 v10.fID), .d (.sl (v10.fTitle.map D.str)), .d (.str v10.fAuthor), .d (.sl (v10.fYears.map D.i)), .d (.sl (v10.fIsbns.map D.str)), .d (.sl (v10.fLangs.map D.str)), .d (.sl (v10.fPublisher.map D.str)), .d (.sl (v10.fEdition.map D.str))], .row [.d (.int .i64 v11.fID), .d (.sl (v11.fTitle.map D.str)), .d (.str v11.fAuthor), .d (.sl (v11.fYears.map D.i)), .d (.sl (v11.fIsbns.map D.str)), .d (.sl (v11.fLangs.map D.str)), .d (.sl (v11.fPublisher.map D.str)), .d (.sl (v11.fEdition.map D.str))], .row [.d (.int .i64 v12.1.e0), .d (.int .i64 v12.1.e1), .d (.int .i64 v12.1.e2), .d (.int .i64 v12.1.e3), .d (.int .i64 v12.1.e4), .d (.int .i64 v12.1.e5), .d (.int .i64 v12.1.e6)], .row [.d (.int .i64 v13.1.e0), .d (.int .i64 v13.1.e1), .d (.int .i64 v13.1.e2), .d (.int .i64 v13.1.e3), .d (.int .i64 v13.1.e4), .d (.int .i64 v13.1.e5), .d (.int .i64 v13.1.e6)], .row [.d (.int .i64 v14.1.e0), .d (.int .i64 v14.1.e1), .d (.int .i64 v14.1.e2), .d (.int .i64 v14.1.e3), .d (.int .i64 v14.1.e4), .d (.int .i64 v14.1.e5), .d (.int .i64 v14.1.e6)], .row [.d (.int .i64 s16.e0), .d (.int .i64 s16.e1), .d (.int .i64 s16.e2), .d (.int .i64 s16.e3), .d (.int .i64 s16.e4), .d (.int .i64 s16.e5), .d (.int .i64 s16.e6)]] (WOK.g0 hw0 (by simp)) ⟨[0, 1, 2, 3, 4, 5, 6, 7, 8], rfl, rfl, rfl, ⟨(.ptr rfl), (.ptr rfl), (.ptr rfl), (.d rfl), (.d rfl), trivial⟩, trivial, (.row rfl (.cons (.d rfl) (.cons (.d rfl) (.cons (.d rfl) (.cons (.d rfl) (.cons (.d rfl) (.cons (.d rfl) (.cons (.d rfl) (.cons (.d rfl) .nil)))))))) (.row rfl (.cons (.d rfl) (.cons (.d rfl) (.cons (.d rfl) (.cons (.d rfl) (.cons (.d rfl) (.cons (.d rfl) (.cons (.d rfl) (.cons (.d rfl) .nil)))))))) (.row rfl (.cons (.d rfl) (.cons (.d rfl) (.cons (.d rfl) (.cons (.d rfl) (.cons (.d rfl) (.cons (.d rfl) (.cons (.d rfl) .nil))))))) (.row rfl (.cons (.d rfl) (.cons (.d rfl) (.cons (.d rfl) (.cons (.d rfl) (.cons (.d rfl) (.cons (.d rfl) (.cons (.d rfl) (.cons (.d rfl) .nil)))))))) (.row rfl (.cons (.d rfl) (.cons (.d rfl) (.cons (.d rfl) (.cons (.d rfl) (.cons (.d rfl) (.cons (.d rfl) (.cons (.d rfl) (.cons (.d rfl) .nil)))))))) (.row rfl (.cons (.d rfl) (.cons (.d rfl) (.cons (.d rfl) (.cons (.d rfl) (.cons (.d rfl) (.cons (.d rfl) (.cons (.d rfl) .nil))))))) (.row rfl (.cons (.d rfl) (.cons (.d rfl) (.cons (.d rfl) (.cons (.d rfl) (.cons (.d rfl) (.cons (.d rfl) (.cons (.d rfl) .nil))))))) (.row rfl (.cons (.d rfl) (.cons (.d rfl) (.cons (.d rfl) (.cons (.d rfl) (.cons (.d rfl) (.cons (.d rfl) (.cons (.d rfl) .nil))))))) (.row rfl (.cons (.d rfl) (.cons (.d rfl) (.cons (.d rfl) (.cons (.d rfl) (.cons (.d rfl) (.cons (.d rfl) (.cons (.d rfl) .nil))))))) .nil)))))))))⟩ ?_
              refine AW.region ?_
              refine AL.s rfl (op_moveD (.e rfl)) ?_
              refine AL.s rfl (op_moveD (.e rfl)) ?_
              obtain ⟨v20, hv20, hm⟩ := bindE hm
              refine AL.s rfl (op_indexA (l := a3.l) (s := 1) (.e rfl) (.r rfl) hv20 rfl Try.underlying27 ⟨_, rfl, rfl⟩) ?_
              refine AL.s rfl (op_loadAt1 (X := (A7.e a3).cells) (.e rfl) rfl (AtD.ix (f := D.i) (l := a3.l) En.i (AtD.root : AtD (A7.e a3).cells 0 _ _) hv20) sc3) ?_
              refine AL.s rfl (op_andM (.r rfl) (.r rfl)) ?_
              obtain ⟨v21, hv21, hm⟩ := bindE hm
              refine AL.s rfl (op_remM (.r rfl) (.r rfl) hv21) ?_
              refine AL.s rfl (op_addw (.r rfl) (.r rfl)) ?_
              obtain ⟨v22, hv22, hm⟩ := bindE hm
              refine AL.s rfl (op_indexA (l := s16.l) (s := 1) (.e rfl) (.r rfl) hv22 rfl Try.underlying32 ⟨_, rfl, rfl⟩) ?_
              obtain ⟨v23, hv23, hm⟩ := bindE hm
              refine AL.s rfl (op_storeAt (X := (A7.e s16).cells) (X' := (A7.e v23).cells) (.e rfl) (.e rfl) rfl (AtD.ix (f := D.i) (l := s16.l) En.i (AtD.root : AtD (A7.e s16).cells 0 _ _) hv22) (PutD.ix (f := D.i) (l := s16.l) (l' := v23.l) En.i (AtD.root : AtD (A7.e s16).cells 0 _ _) (PutD.root rfl : PutD (A7.e s16).cells 0 _ _ (A7.e v23).cells) (A7.put_l hv23)) rfl rfl ⟨_, rfl, rfl⟩) ?_
              refine AL.nil ?_
              refine bq_n ?_
              obtain rfl := Option.some.inj hm
              exact nq ⟨_, rfl, ⟨[0, 1, 2, 3, 4, 5, 6, 7, 8], rfl, rfl, rfl, ⟨(.ptr rfl), (.ptr rfl), (.ptr rfl), (.d rfl), trivial⟩, trivial, (.row rfl (.cons (.d rfl) (.cons (.d rfl) (.cons (.d rfl) (.cons (.d rfl) (.cons (.d rfl) (.cons (.d rfl) (.cons (.d rfl) (.cons (.d rfl) .nil)))))))) (.row rfl (.cons (.d rfl) (.cons (.d rfl) (.cons (.d rfl) (.cons (.d rfl) (.cons (.d rfl) (.cons (.d rfl) (.cons (.d rfl) (.cons (.d rfl) .nil)))))))) (.row rfl (.cons (.d rfl) (.cons (.d rfl) (.cons (.d rfl) (.cons (.d rfl) (.cons (.d rfl) (.cons (.d rfl) (.cons (.d rfl) .nil))))))) (.row rfl (.cons (.d rfl) (.cons (.d rfl) (.cons (.d rfl) (.cons (.d rfl) (.cons (.d rfl) (.cons (.d rfl) (.cons (.d rfl) (.cons (.d rfl) .nil)))))))) (.row rfl (.cons (.d rfl) (.cons (.d rfl) (.cons (.d rfl) (.cons (.d rfl) (.cons (.d rfl) (.cons (.d rfl) (.cons (.d rfl) (.cons (.d rfl) .nil)))))))) (.row rfl (.cons (.d rfl) (.cons (.d rfl) (.cons (.d rfl) (.cons (.d rfl) (.cons (.d rfl) (.cons (.d rfl) (.cons (.d rfl) .nil))))))) (.row rfl (.cons (.d rfl) (.cons (.d rfl) (.cons (.d rfl) (.cons (.d rfl) (.cons (.d rfl) (.cons (.d rfl) (.cons (.d rfl) .nil))))))) (.row rfl (.cons (.d rfl) (.cons (.d rfl) (.cons (.d rfl) (.cons (.d rfl) (.cons (.d rfl) (.cons (.d rfl) (.cons (.d rfl) .nil))))))) (.row rfl (.cons (.d rfl) (.cons (.d rfl) (.cons (.d rfl) (.cons (.d rfl) (.cons (.d rfl) (.cons (.d rfl) (.cons (.d rfl) .nil))))))) .nil)))))))))⟩⟩
            · replace hm := iteF hc5 hm
              refine AW.skip ?_
              refine bq_n ?_
              obtain rfl := Option.some.inj hm
              exact nq ⟨_, rfl, ⟨[0, 1, 2, 3, 4, 5, 6, 7, 8], rfl, rfl, rfl, ⟨(.ptr rfl), (.ptr rfl), (.ptr rfl), (.d rfl), trivial⟩, trivial, (.row rfl (.cons (.d rfl) (.cons (.d rfl) (.cons (.d rfl) (.cons (.d rfl) (.cons (.d rfl) (.cons (.d rfl) (.cons (.d rfl) (.cons (.d rfl) .nil)))))))) (.row rfl (.cons (.d rfl) (.cons (.d rfl) (.cons (.d rfl) (.cons (.d rfl) (.cons (.d rfl) (.cons (.d rfl) (.cons (.d rfl) (.cons (.d rfl) .nil)))))))) (.row rfl (.cons (.d rfl) (.cons (.d rfl) (.cons (.d rfl) (.cons (.d rfl) (.cons (.d rfl) (.cons (.d rfl) (.cons (.d rfl) .nil))))))) (.row rfl (.cons (.d rfl) (.cons (.d rfl) (.cons (.d rfl) (.cons (.d rfl) (.cons (.d rfl) (.cons (.d rfl) (.cons (.d rfl) (.cons (.d rfl) .nil)))))))) (.row rfl (.cons (.d rfl) (.cons (.d rfl) (.cons (.d rfl) (.cons (.d rfl) (.cons (.d rfl) (.cons (.d rfl) (.cons (.d rfl) (.cons (.d rfl) .nil)))))))) (.row rfl (.cons (.d rfl) (.cons (.d rfl) (.cons (.d rfl) (.cons (.d rfl) (.cons (.d rfl) (.cons (.d rfl) (.cons (.d rfl) .nil))))))) (.row rfl (.cons (.d rfl) (.cons (.d rfl) (.cons (.d rfl) (.cons (.d rfl) (.cons (.d rfl) (.cons (.d rfl) (.cons (.d rfl) .nil))))))) (.row rfl (.cons (.d rfl) (.cons (.d rfl) (.cons (.d rfl) (.cons (.d rfl) (.cons (.d rfl) (.cons (.d rfl) (.cons (.d rfl) .nil))))))) (.row rfl (.cons (.d rfl) (.cons (.d rfl) (.cons (.d rfl) (.cons (.d rfl) (.cons (.d rfl) (.cons (.d rfl) (.cons (.d rfl) .nil))))))) .nil)))))))))⟩⟩
        · rintro s24 rfl
          replace hm := hkj1
          try dsimp only at hm
          refine AW.region ?_
          refine AL.s rfl (op_addw (.r rfl) (.r rfl)) ?_
          refine AL.s rfl (op_moveD (.e rfl)) ?_
          refine AL.nil ?_
          obtain rfl := Option.some.inj hm
          exact nq ⟨_, hI1, ⟨[0, 1, 2, 3, 4, 5, 6, 7, 8], rfl, rfl, rfl, ⟨(.ptr rfl), (.ptr rfl), (.ptr rfl), (.d rfl), trivial⟩, trivial, (.row rfl (.cons (.d rfl) (.cons (.d rfl) (.cons (.d rfl) (.cons (.d rfl) (.cons (.d rfl) (.cons (.d rfl) (.cons (.d rfl) (.cons (.d rfl) .nil)))))))) (.row rfl (.cons (.d rfl) (.cons (.d rfl) (.cons (.d rfl) (.cons (.d rfl) (.cons (.d rfl) (.cons (.d rfl) (.cons (.d rfl) (.cons (.d rfl) .nil)))))))) (.row rfl (.cons (.d rfl) (.cons (.d rfl) (.cons (.d rfl) (.cons (.d rfl) (.cons (.d rfl) (.cons (.d rfl) (.cons (.d rfl) .nil))))))) (.row rfl (.cons (.d rfl) (.cons (.d rfl) (.cons (.d rfl) (.cons (.d rfl) (.cons (.d rfl) (.cons (.d rfl) (.cons (.d rfl) (.cons (.d rfl) .nil)))))))) (.row rfl (.cons (.d rfl) (.cons (.d rfl) (.cons (.d rfl) (.cons (.d rfl) (.cons (.d rfl) (.cons (.d rfl) (.cons (.d rfl) (.cons (.d rfl) .nil)))))))) (.row rfl (.cons (.d rfl) (.cons (.d rfl) (.cons (.d rfl) (.cons (.d rfl) (.cons (.d rfl) (.cons (.d rfl) (.cons (.d rfl) .nil))))))) (.row rfl (.cons (.d rfl) (.cons (.d rfl) (.cons (.d rfl) (.cons (.d rfl) (.cons (.d rfl) (.cons (.d rfl) (.cons (.d rfl) .nil))))))) (.row rfl (.cons (.d rfl) (.cons (.d rfl) (.cons (.d rfl) (.cons (.d rfl) (.cons (.d rfl) (.cons (.d rfl) (.cons (.d rfl) .nil))))))) (.row rfl (.cons (.d rfl) (.cons (.d rfl) (.cons (.d rfl) (.cons (.d rfl) (.cons (.d rfl) (.cons (.d rfl) (.cons (.d rfl) .nil))))))) .nil)))))))))⟩⟩
      · replace hm := iteF hc3 hm
        refine AW.exit ?_
        refine tq_exit ?_
        refine tq_exit ?_
        obtain rfl := Option.some.inj hm
        obtain rfl := Option.some.inj hI1
        replace hm := hk1
        try dsimp only at hm
        refine bq_hit ?_
        refine nq ?_
        refine AW.seq ?_
        refine AW.seqR ?_
        obtain ⟨v25, hv25, hm⟩ := bindE hm
        refine AL.s rfl (op_fn Try.call12 (.e rfl) .nil (m_match_Works_ok hv25)) ?_
        obtain ⟨v26, hv26, hm⟩ := bindE hm
        refine AL.s rfl (op_fn Try.call13 (.e rfl) .nil (m_match_Editions_ok hv26)) ?_
        refine AL.s rfl (op_buildSlice (ds := ([v25, v26] : List A72).map A72.e) sl42 (.cons (.r rfl) rfl (enA72.one _) (.cons (.r rfl) rfl (enA72.one _) .nil)) rfl (by decide)) ?_
        refine AL.s rfl (op_lenM (f := A72.e) (.r rfl) sl42) ?_
        refine AL.s rfl (op_moveD (.e rfl)) ?_
        refine AL.nil ?_
        refine AW.block ?_
        obtain ⟨t_2, hI2, hk2⟩ := bindE hm
        refine AW.loopS (σ := Int) (τ := (Bool ⊕ Unit)) 0 (fun x => [(13, .ptr 7 0), (15, .ptr 8 0), (112, .ex (([v25, v26] : List A72).map A72.e)), (113, .d (.int .i64 (([v25, v26] : List A72).length : Int))), (114, .d (.int .i64 x))]) (fun x => [.row [.d (.int .i64 a1.fID), .d (.sl (a1.fTitle.map D.str)), .d (.str a1.fAuthor), .d (.sl (a1.fYears.map D.i)), .d (.sl (a1.fIsbns.map D.str)), .d (.sl (a1.fLangs.map D.str)), .d (.sl (a1.fPublisher.map D.str)), .d (.sl (a1.fEdition.map D.str))], .row [.d (.int .i64 a2.fID), .d (.sl (a2.fTitle.map D.str)), .d (.str a2.fAuthor), .d (.sl (a2.fYears.map D.i)), .d (.sl (a2.fIsbns.map D.str)), .d (.sl (a2.fLangs.map D.str)), .d (.sl (a2.fPublisher.map D.str)), .d (.sl (a2.fEdition.map D.str))], .row [.d (.int .i64 a3.e0), .d (.int .i64 a3.e1), .d (.int .i64 a3.e2), .d (.int .i64 a3.e3), .d (.int .i64 a3.e4), .d (.int .i64 a3.e5), .d (.int .i64 a3.e6)], .row [.d (.int .i64 v10.fID), .d (.sl (v10.fTitle.map D.str)), .d (.str v10.fAuthor), .d (.sl (v10.fYears.map D.i)), .d (.sl (v10.fIsbns.map D.str)), .d (.sl (v10.fLangs.map D.str)), .d (.sl (v10.fPublisher.map D.str)), .d (.sl (v10.fEdition.map D.str))], .row [.d (.int .i64 v11.fID), .d (.sl (v11.fTitle.map D.str)), .d (.str v11.fAuthor), .d (.sl (v11.fYears.map D.i)), .d (.sl (v11.fIsbns.map D.str)), .d (.sl (v11.fLangs.map D.str)), .d (.sl (v11.fPublisher.map D.str)), .d (.sl (v11.fEdition.map D.str))], .row [.d (.int .i64 v12.1.e0), .d (.int .i64 v12.1.e1), .d (.int .i64 v12.1.e2), .d (.int .i64 v12.1.e3), .d (.int .i64 v12.1.e4), .d (.int .i64 v12.1.e5), .d (.int .i64 v12.1.e6)], .row [.d (.int .i64 v13.1.e0), .d (.int .i64 v13.1.e1), .d (.int .i64 v13.1.e2), .d (.int .i64 v13.1.e3), .d (.int .i64 v13.1.e4), .d (.int .i64 v13.1.e5), .d (.int .i64 v13.1.e6)], .row [.d (.int .i64 v14.1.e0), .d (.int .i64 v14.1.e1), .d (.int .i64 v14.1.e2), .d (.int .i64 v14.1.e3), .d (.int .i64 v14.1.e4), .d (.int .i64 v14.1.e5), .d (.int .i64 v14.1.e6)], .row [.d (.int .i64 s16.e0), .d (.int .i64 s16.e1), .d (.int .i64 s16.e2), .d (.int .i64 s16.e3), .d (.int .i64 s16.e4), .d (.int .i64 s16.e5), .d (.int .i64 s16.e6)]]) hI2 (WOK.g0 hw0 (by simp)) ⟨[0, 1, 2, 3, 4, 5, 6, 7, 8], rfl, rfl, rfl, ⟨(.ptr rfl), (.ptr rfl), .ex, (.d rfl), (.d rfl), trivial⟩, trivial, (.row rfl (.cons (.d rfl) (.cons (.d rfl) (.cons (.d rfl) (.cons (.d rfl) (.cons (.d rfl) (.cons (.d rfl) (.cons (.d rfl) (.cons (.d rfl) .nil)))))))) (.row rfl (.cons (.d rfl) (.cons (.d rfl) (.cons (.d rfl) (.cons (.d rfl) (.cons (.d rfl) (.cons (.d rfl) (.cons (.d rfl) (.cons (.d rfl) .nil)))))))) (.row rfl (.cons (.d rfl) (.cons (.d rfl) (.cons (.d rfl) (.cons (.d rfl) (.cons (.d rfl) (.cons (.d rfl) (.cons (.d rfl) .nil))))))) (.row rfl (.cons (.d rfl) (.cons (.d rfl) (.cons (.d rfl) (.cons (.d rfl) (.cons (.d rfl) (.cons (.d rfl) (.cons (.d rfl) (.cons (.d rfl) .nil)))))))) (.row rfl (.cons (.d rfl) (.cons (.d rfl) (.cons (.d rfl) (.cons (.d rfl) (.cons (.d rfl) (.cons (.d rfl) (.cons (.d rfl) (.cons (.d rfl) .nil)))))))) (.row rfl (.cons (.d rfl) (.cons (.d rfl) (.cons (.d rfl) (.cons (.d rfl) (.cons (.d rfl) (.cons (.d rfl) (.cons (.d rfl) .nil))))))) (.row rfl (.cons (.d rfl) (.cons (.d rfl) (.cons (.d rfl) (.cons (.d rfl) (.cons (.d rfl) (.cons (.d rfl) (.cons (.d rfl) .nil))))))) (.row rfl (.cons (.d rfl) (.cons (.d rfl) (.cons (.d rfl) (.cons (.d rfl) (.cons (.d rfl) (.cons (.d rfl) (.cons (.d rfl) .nil))))))) (.row rfl (.cons (.d rfl) (.cons (.d rfl) (.cons (.d rfl) (.cons (.d rfl) (.cons (.d rfl) (.cons (.d rfl) (.cons (.d rfl) .nil))))))) .nil)))))))))⟩ ?_
        rintro n2 s27 hI2
        obtain ⟨y_2, hm, hI2⟩ := iterS hI2
        replace hm : m_law31_MatchSymmetric_L2 n _ _ _ _ s27 = some y_2 := hm
        unfold m_law31_MatchSymmetric_L2 at hm
        try dsimp only at hm
        refine AW.seqR ?_
        refine AL.s rfl (op_lss (.r rfl) (.r rfl)) ?_
        refine AL.nil ?_
        refine AW.seq ?_
        refine AW.cond (b := _) rfl (fun hc6 => ?_) (fun hc6 => ?_)
        · replace hm := iteT hc6 hm
          refine AW.skip ?_
          refine nq ?_
          refine AW.seq ?_
          refine AW.block ?_
          refine AW.seqR ?_
          obtain ⟨v28, hv28, hm⟩ := bindE hm
          refine AL.s rfl (op_indexAddrM (f := A72.e) (.r rfl) (.r rfl) hv28 enA72 sl42) ?_
          refine AL.s rfl (op_loadA (.e rfl) rfl ag40) ?_
          refine AL.s rfl (op_alloc (n := 9) zr40 rfl) ?_
          refine AL.s rfl (op_store (.e rfl) (.e rfl) rfl rfl rfl ⟨_, rfl, rfl⟩ rfl (Nat.le_of_ble_eq_true rfl)) ?_
          refine AL.nil ?_
          refine AW.seqR ?_
          refine AL.s rfl (op_load_ptrA (.e rfl) rfl rfl rfl ag40) ?_
          refine AL.s rfl (op_load_ptrA (.e rfl) rfl rfl rfl ag32) ?_
          obtain ⟨v29, hv29, hm⟩ := bindE hm
          refine AL.s rfl (op_fn Try.call14 (.e rfl) (.cons (.r rfl) (.cons (.r rfl) .nil)) (m_match_Weight_ok hv29)) ?_
          refine AL.s rfl (op_moveD (.e rfl)) ?_
          refine AL.s rfl (op_extractD (.e rfl) rfl) ?_
          refine AL.s rfl (op_extractD (.e rfl) rfl) ?_
          refine AL.s rfl (op_assignD (.e rfl)) ?_
          refine AL.s rfl (op_assignD (.e rfl)) ?_
          refine AL.nil ?_
          refine AW.seqR ?_
          refine AL.s rfl (op_load_ptrA (.e rfl) rfl rfl rfl ag40) ?_
          refine AL.s rfl (op_load_ptrA (.e rfl) rfl rfl rfl ag32) ?_
          obtain ⟨v30, hv30, hm⟩ := bindE hm
          refine AL.s rfl (op_fn Try.call14 (.e rfl) (.cons (.r rfl) (.cons (.r rfl) .nil)) (m_match_Weight_ok hv30)) ?_
          refine AL.s rfl (op_moveD (.e rfl)) ?_
          refine AL.s rfl (op_extractD (.e rfl) rfl) ?_
          refine AL.s rfl (op_extractD (.e rfl) rfl) ?_
          refine AL.s rfl (op_assignD (.e rfl)) ?_
          refine AL.s rfl (op_assignD (.e rfl)) ?_
          refine AL.nil ?_
          refine AW.seqR ?_
          refine AL.s rfl (op_moveD (.e rfl)) ?_
          refine AL.s rfl (op_neq (.r rfl) (.r rfl)) ?_
          refine AL.s rfl (op_moveD (.e rfl)) ?_
          refine AL.sF rfl rfl rfl rfl (fun g => op_moveD (.e rfl)) ?_
          refine AL.sF rfl rfl rfl rfl (fun g => op_neq (.we (nt g) rfl rfl) (.r rfl)) ?_
          refine AL.s rfl (op_or (.r rfl) rfl (fun h => (.we (nt h) rfl rfl))) ?_
          refine AL.s rfl (op_moveD (.e rfl)) ?_
          refine AL.sF rfl rfl rfl rfl (fun g => op_moveD (.e rfl)) ?_
          refine AL.sF rfl rfl rfl rfl (fun g => op_moveD (.e rfl)) ?_
          refine AL.sF rfl rfl rfl rfl (fun g => op_gtr (.we (nt g) rfl rfl) (.we (nt g) rfl rfl)) ?_
          refine AL.s rfl (op_or (.r rfl) rfl (fun h => (.we (nt h) rfl rfl))) ?_
          refine AL.nil ?_
          refine AW.cond (b := _) rfl (fun hc7 => ?_) (fun hc7 => ?_)
          · replace hm := iteT hc7 hm
            refine AW.seqR ?_
            refine AL.s rfl (op_assignD (.e rfl)) ?_
            refine AL.nil ?_
            refine AW.ret ?_
            refine bq_ret ?_
            refine tq_ret ?_
            refine tq_ret ?_
            obtain rfl := Option.some.inj hm
            obtain rfl := Option.some.inj hI2
            replace hm := hk2
            try dsimp only at hm
            refine bq_ret ?_
            refine tq_ret ?_
            obtain rfl := Option.some.inj hm
            exact EndQ.d (.tmp (.e rfl) .nil) rfl rfl
          · replace hm := iteF hc7 hm
            refine AW.skip ?_
            refine bq_n ?_
            refine nq ?_
            refine AW.region ?_
            refine AL.s rfl (op_addw (.r rfl) (.r rfl)) ?_
            refine AL.s rfl (op_moveD (.e rfl)) ?_
            refine AL.nil ?_
            obtain rfl := Option.some.inj hm
            exact nq ⟨_, hI2, ⟨[0, 1, 2, 3, 4, 5, 6, 7, 8], rfl, rfl, rfl, ⟨(.ptr rfl), (.ptr rfl), .ex, (.d rfl), (.d rfl), trivial⟩, trivial, (.row rfl (.cons (.d rfl) (.cons (.d rfl) (.cons (.d rfl) (.cons (.d rfl) (.cons (.d rfl) (.cons (.d rfl) (.cons (.d rfl) (.cons (.d rfl) .nil)))))))) (.row rfl (.cons (.d rfl) (.cons (.d rfl) (.cons (.d rfl) (.cons (.d rfl) (.cons (.d rfl) (.cons (.d rfl) (.cons (.d rfl) (.cons (.d rfl) .nil)))))))) (.row rfl (.cons (.d rfl) (.cons (.d rfl) (.cons (.d rfl) (.cons (.d rfl) (.cons (.d rfl) (.cons (.d rfl) (.cons (.d rfl) .nil))))))) (.row rfl (.cons (.d rfl) (.cons (.d rfl) (.cons (.d rfl) (.cons (.d rfl) (.cons (.d rfl) (.cons (.d rfl) (.cons (.d rfl) (.cons (.d rfl) .nil)))))))) (.row rfl (.cons (.d rfl) (.cons (.d rfl) (.cons (.d rfl) (.cons (.d rfl) (.cons (.d rfl) (.cons (.d rfl) (.cons (.d rfl) (.cons (.d rfl) .nil)))))))) (.row rfl (.cons (.d rfl) (.cons (.d rfl) (.cons (.d rfl) (.cons (.d rfl) (.cons (.d rfl) (.cons (.d rfl) (.cons (.d rfl) .nil))))))) (.row rfl (.cons (.d rfl) (.cons (.d rfl) (.cons (.d rfl) (.cons (.d rfl) (.cons (.d rfl) (.cons (.d rfl) (.cons (.d rfl) .nil))))))) (.row rfl (.cons (.d rfl) (.cons (.d rfl) (.cons (.d rfl) (.cons (.d rfl) (.cons (.d rfl) (.cons (.d rfl) (.cons (.d rfl) .nil))))))) (.row rfl (.cons (.d rfl) (.cons (.d rfl) (.cons (.d rfl) (.cons (.d rfl) (.cons (.d rfl) (.cons (.d rfl) (.cons (.d rfl) .nil))))))) .nil)))))))))⟩⟩
        · replace hm := iteF hc6 hm
          refine AW.exit ?_
          refine tq_exit ?_
          refine tq_exit ?_
          obtain rfl := Option.some.inj hm
          obtain rfl := Option.some.inj hI2
          replace hm := hk2
          try dsimp only at hm
          refine bq_hit ?_
          refine nq ?_
          refine AW.seqR ?_
          refine AL.s rfl (op_assignD (.e rfl)) ?_
          refine AL.nil ?_
          refine AW.ret ?_
          obtain rfl := Option.some.inj hm
          exact EndQ.d (.tmp (.e rfl) .nil) rfl rfl

end Go.Proofs.Ytgcmhhcopeiomaa.Ab
