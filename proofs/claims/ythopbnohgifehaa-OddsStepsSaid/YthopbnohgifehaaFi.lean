/- The functions do what they are in plain Lean. Conditions: none. -/
import Derived.Test.YthopbnohgifehaaTy
import Derived.Test.YthopbnohgifehaaMi
import Derived.Test.YthopbnohgifehaaFh
set_option maxRecDepth 100000
namespace Go.Proofs.Ythopbnohgifehaa.Ab
open Go
attribute [local irreducible] AL AD AW

set_option maxHeartbeats 20000000 in
theorem m_law28_OddsSteps_ok {n : Nat} {a1 : Int} {a2 : Int} {r : Bool} (hm : m_law28_OddsSteps n a1 a2 = some r) : Fn Try.prog 9 [(.int .i64 a1), (.int .u16 a2)] (.bool r) := by
  unfold m_law28_OddsSteps at hm
  refine Fn.of_AW (fnn := Try.f9) Try.func9 rfl (Nat.le_of_ble_eq_true rfl) (fun g0 w0 hw0 => ?_)
  refine AW.reset 0 [(0, .d (.int .i64 a1)), (1, .d (.int .u16 a2))] [] (WOK.g0 hw0 (by simp)) ⟨[], rfl, rfl, rfl, ⟨(.d rfl), (.d rfl), trivial⟩, trivial, .nil⟩ ?_
  refine AW.seqR ?_
  refine AL.s rfl (op_assignD (.e rfl)) ?_
  refine AL.nil ?_
  refine AW.seq ?_
  refine AW.seqR ?_
  obtain ⟨v3, hv3, hm⟩ := bindE hm
  refine AL.s rfl (op_fn Try.call10 (.e rfl) .nil (m_law28_awake_ok hv3)) ?_
  refine AL.s rfl (op_not (.r rfl)) ?_
  refine AL.nil ?_
  refine AW.cond (b := _) rfl (fun hc1 => ?_) (fun hc1 => ?_)
  · replace hm := iteT hc1 hm
    refine AW.seqR ?_
    refine AL.s rfl (op_assignD (.e rfl)) ?_
    refine AL.nil ?_
    refine AW.ret ?_
    refine tq_ret ?_
    obtain rfl := Option.some.inj hm
    exact EndQ.d (.tmp (.e rfl) .nil) rfl rfl
  · replace hm := iteF hc1 hm
    refine AW.skip ?_
    refine nq ?_
    refine AW.seqR ?_
    refine AL.s rfl (op_moveD (.e rfl)) ?_
    obtain ⟨v4, hv4, hm⟩ := bindE hm
    refine AL.s rfl (op_fn Try.call28 (.e rfl) (.cons (.r rfl) .nil) (m_odds_Of_ok hv4)) ?_
    refine AL.s rfl (op_moveD (.e rfl)) ?_
    refine AL.s rfl (op_extractD (.e rfl) rfl) ?_
    refine AL.s rfl (op_extractD (.e rfl) rfl) ?_
    refine AL.s rfl (op_alloc (n := 0) zr49 rfl) ?_
    refine AL.s rfl (op_store (.e rfl) (.e rfl) rfl rfl rfl ⟨_, rfl, rfl⟩ rfl (Nat.le_of_ble_eq_true rfl)) ?_
    refine AL.s rfl (op_assignD (.e rfl)) ?_
    refine AL.nil ?_
    refine AW.seqR ?_
    refine AL.s rfl (op_moveD (.e rfl)) ?_
    obtain ⟨v5, hv5, hm⟩ := bindE hm
    refine AL.s rfl (op_fn Try.call29 (.e rfl) (.cons (.r rfl) .nil) (m_ref28_Of_ok hv5)) ?_
    refine AL.s rfl (op_moveD (.e rfl)) ?_
    refine AL.s rfl (op_extractD (.e rfl) rfl) ?_
    refine AL.s rfl (op_extractD (.e rfl) rfl) ?_
    refine AL.s rfl (op_alloc (n := 1) zr54 rfl) ?_
    refine AL.s rfl (op_store (.e rfl) (.e rfl) rfl rfl rfl ⟨_, rfl, rfl⟩ rfl (Nat.le_of_ble_eq_true rfl)) ?_
    refine AL.s rfl (op_assignD (.e rfl)) ?_
    refine AL.nil ?_
    refine AW.seq ?_
    refine AW.seqR ?_
    refine AL.s rfl (op_load_ptrA (.e rfl) rfl rfl rfl ag49) ?_
    refine AL.s rfl (op_load_ptrA (.e rfl) rfl rfl rfl ag54) ?_
    refine AL.s rfl (op_neqSt (a := (⟨v4.1.fNum, v4.1.fDen⟩ : SRatio)) (b := (⟨v5.1.fNum, v5.1.fDen⟩ : SRatio)) es54 (.r rfl) (.r rfl)) ?_
    refine AL.s rfl (op_moveD (.e rfl)) ?_
    refine AL.sF rfl rfl rfl rfl (fun g => op_moveD (.e rfl)) ?_
    refine AL.sF rfl rfl rfl rfl (fun g => op_moveD (.e rfl)) ?_
    refine AL.sF rfl rfl rfl rfl (fun g => op_neq (.we (nt g) rfl rfl) (.we (nt g) rfl rfl)) ?_
    refine AL.s rfl (op_or (.r rfl) rfl (fun h => (.we (nt h) rfl rfl))) ?_
    refine AL.nil ?_
    refine AW.cond (b := _) rfl (fun hc2 => ?_) (fun hc2 => ?_)
    · replace hm := iteT hc2 hm
      refine AW.seqR ?_
      refine AL.s rfl (op_assignD (.e rfl)) ?_
      refine AL.nil ?_
      refine AW.ret ?_
      refine tq_ret ?_
      obtain rfl := Option.some.inj hm
      exact EndQ.d (.tmp (.e rfl) .nil) rfl rfl
    · replace hm := iteF hc2 hm
      refine AW.skip ?_
      refine nq ?_
      refine AW.seq ?_
      refine AW.seqR ?_
      refine AL.s rfl (op_moveD (.e rfl)) ?_
      refine AL.s rfl (op_neq (.r rfl) (.r rfl)) ?_
      refine AL.nil ?_
      refine AW.cond (b := _) rfl (fun hc3 => ?_) (fun hc3 => ?_)
      · replace hm := iteT hc3 hm
        refine AW.seqR ?_
        refine AL.s rfl (op_assignD (.e rfl)) ?_
        refine AL.nil ?_
        refine AW.ret ?_
        refine tq_ret ?_
        obtain rfl := Option.some.inj hm
        exact EndQ.d (.tmp (.e rfl) .nil) rfl rfl
      · replace hm := iteF hc3 hm
        refine AW.skip ?_
        refine nq ?_
        refine AW.seqR ?_
        refine AL.s rfl (op_load_ptrA (.e rfl) rfl rfl rfl ag49) ?_
        refine AL.s rfl (op_buildSlice (ds := ([(⟨v4.1.fNum, v4.1.fDen⟩ : SRatio)] : List SRatio).map SRatio.e) sl30 (.cons (.r rfl) rfl (enSRatio.one _) .nil) rfl (by decide)) ?_
        obtain ⟨v6, hv6, hm⟩ := bindE hm
        refine AL.s rfl (op_fn Try.call14 (.e rfl) (.cons (.r rfl) .nil) (m_odds_Weight_ok hv6)) ?_
        refine AL.s rfl (op_moveD (.e rfl)) ?_
        refine AL.s rfl (op_extractD (.e rfl) rfl) ?_
        refine AL.s rfl (op_extractD (.e rfl) rfl) ?_
        refine AL.s rfl (op_assignD (.e rfl)) ?_
        refine AL.s rfl (op_assignD (.e rfl)) ?_
        refine AL.nil ?_
        refine AW.seq ?_
        refine AW.seqR ?_
        refine AL.s rfl (op_moveD (.e rfl)) ?_
        refine AL.s rfl (op_neq (.r rfl) (.r rfl)) ?_
        refine AL.s rfl (op_moveD (.e rfl)) ?_
        refine AL.sF rfl rfl rfl rfl (fun g => op_moveD (.e rfl)) ?_
        refine AL.sF rfl rfl rfl rfl (fun g => op_moveD (.e rfl)) ?_
        refine AL.sF rfl rfl rfl rfl (fun g => op_neq (.we (nt g) rfl rfl) (.we (nt g) rfl rfl)) ?_
        refine AL.s rfl (op_or (.r rfl) rfl (fun h => (.we (nt h) rfl rfl))) ?_
        refine AL.nil ?_
        refine AW.cond (b := _) rfl (fun hc4 => ?_) (fun hc4 => ?_)
        · replace hm := iteT hc4 hm
          refine AW.reset 0 [] [.row [.d (.int .i64 v4.1.fNum), .d (.int .i64 v4.1.fDen)], .row [.d (.int .i64 v5.1.fNum), .d (.int .i64 v5.1.fDen)]] (WOK.g0 hw0 (by simp)) ⟨[0, 1], rfl, rfl, rfl, trivial, trivial, (.row rfl (.cons (.d rfl) (.cons (.d rfl) .nil)) (.row rfl (.cons (.d rfl) (.cons (.d rfl) .nil)) .nil))⟩ ?_
          refine AW.seqR ?_
          refine AL.s rfl (op_assignD (.e rfl)) ?_
          refine AL.nil ?_
          refine AW.ret ?_
          refine tq_ret ?_
          obtain rfl := Option.some.inj hm
          exact EndQ.d (.tmp (.e rfl) .nil) rfl rfl
        · replace hm := iteF hc4 hm
          refine AW.skip ?_
          refine nq ?_
          refine AW.seq ?_
          refine AW.seqR ?_
          refine AL.s rfl (op_assignD (.e rfl)) ?_
          refine AL.nil ?_
          refine AW.block ?_
          obtain ⟨t_1, hI1, hk1⟩ := bindE hm
          refine AW.loopS (σ := Int) (τ := (Bool ⊕ Unit)) 0 (fun x => [(0, .d (.int .i64 a1)), (1, .d (.int .u16 a2)), (5, .ptr 0 0), (11, .d (.int .i64 x))]) (fun x => [.row [.d (.int .i64 v4.1.fNum), .d (.int .i64 v4.1.fDen)], .row [.d (.int .i64 v5.1.fNum), .d (.int .i64 v5.1.fDen)]]) hI1 (WOK.g0 hw0 (by simp)) ⟨[0, 1], rfl, rfl, rfl, ⟨(.d rfl), (.d rfl), (.ptr rfl), (.d rfl), trivial⟩, trivial, (.row rfl (.cons (.d rfl) (.cons (.d rfl) .nil)) (.row rfl (.cons (.d rfl) (.cons (.d rfl) .nil)) .nil))⟩ ?_
          rintro n1 s7 hI1
          obtain ⟨y_1, hm, hI1⟩ := iterS hI1
          replace hm : m_law28_OddsSteps_L1 n _ _ _ s7 = some y_1 := hm
          unfold m_law28_OddsSteps_L1 at hm
          try dsimp only at hm
          refine AW.seq ?_
          refine AW.seqR ?_
          refine AL.s rfl (op_moveD (.e rfl)) ?_
          refine AL.s rfl (op_field_ptr (.e rfl) fd49_1) ?_
          refine AL.s rfl (op_load_ptr1 (.e rfl) rfl rfl sc3) ?_
          refine AL.s rfl (op_lss (.r rfl) (.r rfl)) ?_
          refine AL.nil ?_
          refine AW.cond (b := _) rfl (fun hc5 => ?_) (fun hc5 => ?_)
          · replace hm := iteT hc5 hm
            refine AW.skip ?_
            refine nq ?_
            refine AW.seq ?_
            refine AW.block ?_
            refine AW.seqR ?_
            refine AL.s rfl (op_moveD (.e rfl)) ?_
            refine AL.s rfl (op_conv_int (.r rfl) ⟨_, Try.underlying51⟩ Try.underlying3) ?_
            obtain ⟨v8, hv8, hm⟩ := bindE hm
            refine AL.s rfl (op_remM (.r rfl) (.r rfl) hv8) ?_
            refine AL.s rfl (op_addw (.r rfl) (.r rfl)) ?_
            refine AL.s rfl (op_moveD (.e rfl)) ?_
            refine AL.s rfl (op_build bd49 (.cons (.e rfl) rfl rfl rfl rfl (Nat.le_of_ble_eq_true rfl) (.cons (.e rfl) rfl rfl rfl rfl (Nat.le_of_ble_eq_true rfl) .nil))) ?_
            refine AL.s rfl (op_buildSlice (ds := ([(⟨(IntKind.i64.wrap ((1 : Int) + v8)), s7⟩ : SRatio)] : List SRatio).map SRatio.e) sl30 (.cons (.r rfl) rfl (enSRatio.one _) .nil) rfl (by decide)) ?_
            obtain ⟨v9, hv9, hm⟩ := bindE hm
            refine AL.s rfl (op_fn Try.call14 (.e rfl) (.cons (.r rfl) .nil) (m_odds_Weight_ok hv9)) ?_
            refine AL.s rfl (op_moveD (.e rfl)) ?_
            refine AL.s rfl (op_extractD (.e rfl) rfl) ?_
            refine AL.s rfl (op_extractD (.e rfl) rfl) ?_
            refine AL.s rfl (op_assignD (.e rfl)) ?_
            refine AL.s rfl (op_assignD (.e rfl)) ?_
            refine AL.nil ?_
            refine AW.seqR ?_
            refine AL.s rfl (op_moveD (.e rfl)) ?_
            refine AL.s rfl (op_neq (.r rfl) (.r rfl)) ?_
            refine AL.s rfl (op_moveD (.e rfl)) ?_
            refine AL.sF rfl rfl rfl rfl (fun g => op_moveD (.e rfl)) ?_
            refine AL.sF rfl rfl rfl rfl (fun g => op_moveD (.e rfl)) ?_
            refine AL.sF rfl rfl rfl rfl (fun g => op_eql (.we (nt g) rfl rfl) (.we (nt g) rfl rfl)) ?_
            refine AL.s rfl (op_or (.r rfl) rfl (fun h => (.we (nt h) rfl rfl))) ?_
            refine AL.nil ?_
            refine AW.cond (b := _) rfl (fun hc6 => ?_) (fun hc6 => ?_)
            · replace hm := iteT hc6 hm
              refine AW.seqR ?_
              refine AL.s rfl (op_assignD (.e rfl)) ?_
              refine AL.nil ?_
              refine AW.ret ?_
              refine bq_ret ?_
              refine tq_ret ?_
              refine tq_ret ?_
              obtain rfl := Option.some.inj hm
              obtain rfl := Option.some.inj hI1
              replace hm := hk1
              try dsimp only at hm
              refine bq_ret ?_
              refine tq_ret ?_
              obtain rfl := Option.some.inj hm
              exact EndQ.d (.tmp (.e rfl) .nil) rfl rfl
            · replace hm := iteF hc6 hm
              refine AW.skip ?_
              refine bq_n ?_
              refine nq ?_
              refine AW.region ?_
              refine AL.s rfl (op_moveD (.e rfl)) ?_
              refine AL.s rfl (op_addw (.r rfl) (.r rfl)) ?_
              refine AL.s rfl (op_assignD (.e rfl)) ?_
              refine AL.nil ?_
              obtain rfl := Option.some.inj hm
              exact nq ⟨_, hI1, ⟨[0, 1], rfl, rfl, rfl, ⟨(.d rfl), (.d rfl), (.ptr rfl), (.d rfl), trivial⟩, trivial, (.row rfl (.cons (.d rfl) (.cons (.d rfl) .nil)) (.row rfl (.cons (.d rfl) (.cons (.d rfl) .nil)) .nil))⟩⟩
          · replace hm := iteF hc5 hm
            refine AW.exit ?_
            refine tq_exit ?_
            refine tq_exit ?_
            obtain rfl := Option.some.inj hm
            obtain rfl := Option.some.inj hI1
            replace hm := hk1
            try dsimp only at hm
            refine bq_hit ?_
            refine nq ?_
            refine AW.seqR ?_
            refine AL.s rfl (op_assignD (.e rfl)) ?_
            refine AL.nil ?_
            refine AW.ret ?_
            obtain rfl := Option.some.inj hm
            exact EndQ.d (.tmp (.e rfl) .nil) rfl rfl

end Go.Proofs.Ythopbnohgifehaa.Ab
