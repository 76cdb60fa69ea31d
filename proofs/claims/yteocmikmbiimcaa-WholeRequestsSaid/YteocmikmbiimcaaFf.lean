/- The functions do what they are in plain Lean. Conditions: none. -/
import Derived.Test.YteocmikmbiimcaaTy
import Derived.Test.YteocmikmbiimcaaMi
import Derived.Test.YteocmikmbiimcaaFe
set_option maxRecDepth 100000
namespace Go.Proofs.Yteocmikmbiimcaa.Ab
open Go
attribute [local irreducible] AL AD AW

set_option maxHeartbeats 20000000 in
theorem m_request_Valid_ok {n : Nat} {a1 : SRequest} {r : Bool} (hm : m_request_Valid n a1 = some r) : Fn Try.prog 23 [(SRequest.e a1)] (.bool r) := by
  unfold m_request_Valid at hm
  refine Fn.of_AW (fnn := Try.f23) Try.func23 rfl (Nat.le_of_ble_eq_true rfl) (fun g0 w0 hw0 => ?_)
  refine AW.reset 0 [(0, .d (SRequest.e a1))] [] (WOK.g0 hw0 (by simp)) ⟨[], rfl, rfl, rfl, ⟨(.d rfl), trivial⟩, trivial, .nil⟩ ?_
  refine AW.seqR ?_
  refine AL.s rfl (op_box (n := 0) (.e rfl) rfl rfl rfl) ?_
  refine AL.s rfl (op_assignD (.e rfl)) ?_
  refine AL.nil ?_
  refine AW.seq ?_
  refine AW.seqR ?_
  refine AL.s rfl (op_field_ptr (.e rfl) fd26_0) ?_
  refine AL.s rfl (op_load_ptr1 (.e rfl) rfl rfl sc3) ?_
  obtain ⟨v2, hv2, hm⟩ := bindE hm
  refine AL.s rfl (op_fn Try.call9 (.e rfl) (.cons (.r rfl) (.cons (.r rfl) (.cons (.r rfl) .nil))) (m_request_in_ok hv2)) ?_
  refine AL.s rfl (op_not (.r rfl)) ?_
  refine AL.s rfl (op_moveD (.e rfl)) ?_
  refine AL.sF rfl rfl rfl rfl (fun g => op_field_ptr (.e rfl) fd26_1) ?_
  refine AL.sF rfl rfl rfl rfl (fun g => op_load_ptr1 (.we (nt g) rfl) rfl rfl sc3) ?_
  obtain ⟨v3, hv3, hm⟩ := bindE hm
  refine AL.sF rfl rfl rfl rfl (fun g => op_fn Try.call9 (.e rfl) (.cons (.we (nt g) rfl rfl) (.cons (.r rfl) (.cons (.r rfl) .nil))) (m_request_in_ok (iteT (nt g) hv3))) ?_
  refine AL.sF rfl rfl rfl rfl (fun g => op_not (.we (nt g) rfl rfl)) ?_
  refine AL.s rfl (op_or (.r rfl) rfl (fun h => (.we (nt h) rfl rfl))) ?_
  refine AL.s rfl (op_moveD (.e rfl)) ?_
  refine AL.sF rfl rfl rfl rfl (fun g => op_field_ptr (.e rfl) fd26_2) ?_
  refine AL.sF rfl rfl rfl rfl (fun g => op_load_ptr1 (.we (nt g) rfl) rfl rfl sc9) ?_
  obtain ⟨v4, hv4, hm⟩ := bindE hm
  refine AL.sF rfl rfl rfl rfl (fun g => op_fn Try.call10 (.e rfl) (.cons (.we (nt g) rfl rfl) .nil) (m_request_Name_ok (iteT (nt g) hv4))) ?_
  refine AL.sF rfl rfl rfl rfl (fun g => op_not (.we (nt g) rfl rfl)) ?_
  refine AL.s rfl (op_or (.r rfl) rfl (fun h => (.we (nt h) rfl rfl))) ?_
  refine AL.s rfl (op_moveD (.e rfl)) ?_
  refine AL.sF rfl rfl rfl rfl (fun g => op_field_ptr (.e rfl) fd26_3) ?_
  refine AL.sF rfl rfl rfl rfl (fun g => op_load_ptr1 (.we (nt g) rfl) rfl rfl sc3) ?_
  obtain ⟨v5, hv5, hm⟩ := bindE hm
  refine AL.sF rfl rfl rfl rfl (fun g => op_fn Try.call9 (.e rfl) (.cons (.we (nt g) rfl rfl) (.cons (.r rfl) (.cons (.r rfl) .nil))) (m_request_in_ok (iteT (nt g) hv5))) ?_
  refine AL.sF rfl rfl rfl rfl (fun g => op_not (.we (nt g) rfl rfl)) ?_
  refine AL.s rfl (op_or (.r rfl) rfl (fun h => (.we (nt h) rfl rfl))) ?_
  refine AL.s rfl (op_moveD (.e rfl)) ?_
  refine AL.sF rfl rfl rfl rfl (fun g => op_field_ptr (.e rfl) fd26_4) ?_
  refine AL.sF rfl rfl rfl rfl (fun g => op_load_ptr1 (.we (nt g) rfl) rfl rfl sc3) ?_
  obtain ⟨v6, hv6, hm⟩ := bindE hm
  refine AL.sF rfl rfl rfl rfl (fun g => op_fn Try.call9 (.e rfl) (.cons (.we (nt g) rfl rfl) (.cons (.r rfl) (.cons (.r rfl) .nil))) (m_request_in_ok (iteT (nt g) hv6))) ?_
  refine AL.sF rfl rfl rfl rfl (fun g => op_not (.we (nt g) rfl rfl)) ?_
  refine AL.s rfl (op_or (.r rfl) rfl (fun h => (.we (nt h) rfl rfl))) ?_
  refine AL.s rfl (op_moveD (.e rfl)) ?_
  refine AL.sF rfl rfl rfl rfl (fun g => op_field_ptr (.e rfl) fd26_6) ?_
  refine AL.sF rfl rfl rfl rfl (fun g => op_load_ptr1 (.we (nt g) rfl) rfl rfl sc24) ?_
  refine AL.sF rfl rfl rfl rfl (fun g => op_field_ptr (.e rfl) fd26_2) ?_
  refine AL.sF rfl rfl rfl rfl (fun g => op_load_ptr1 (.we (nt g) rfl) rfl rfl sc9) ?_
  obtain ⟨v7, hv7, hm⟩ := bindE hm
  refine AL.sF rfl rfl rfl rfl (fun g => op_fn Try.call43 (.e rfl) (.cons (.we (nt g) rfl rfl) (.cons (.we (nt g) rfl rfl) .nil)) (m_request_tried_ok (iteT (nt g) hv7))) ?_
  refine AL.sF rfl rfl rfl rfl (fun g => op_not (.we (nt g) rfl rfl)) ?_
  refine AL.s rfl (op_or (.r rfl) rfl (fun h => (.we (nt h) rfl rfl))) ?_
  refine AL.nil ?_
  refine AW.cond (b := _) rfl (fun hc1 => ?_) (fun hc1 => ?_)
  · replace hm := iteT hc1 hm
    refine AW.seqR ?_
    refine AL.s rfl (op_assignD (.e rfl)) ?_
    refine AL.nil ?_
    refine AW.ret ?_
    refine tq_ret ?_
    obtain rfl := Option.some.inj hm
    exact EndQ.d (.tmp (.e rfl) .nil) rfl rfl
  · replace hm := iteF hc1 hm
    refine AW.skip ?_
    refine nq ?_
    obtain ⟨t_j1, hm, hkj1⟩ := bindE hm
    refine AW.cutS (α := Unit) 0 (fun x => (.inr x) = t_j1) (fun x => [(1, .ptr 0 0)]) (fun x => [.row [.d (.int .i64 a1.fID), .d (.int .i64 a1.fWork), .d (.str a1.fLibrary), .d (.int .i64 a1.fState), .d (.int .i64 a1.fTime), .d (.str a1.fLender), .d (.sl (a1.fTried.map D.str)), .d (.int .i64 a1.fDue), .d (.int .i64 a1.fRenewals)]]) (WOK.g0 hw0 (by simp)) ?_ ?_
    · skip
      refine AW.reset 0 [(1, .ptr 0 0)] [.row [.d (.int .i64 a1.fID), .d (.int .i64 a1.fWork), .d (.str a1.fLibrary), .d (.int .i64 a1.fState), .d (.int .i64 a1.fTime), .d (.str a1.fLender), .d (.sl (a1.fTried.map D.str)), .d (.int .i64 a1.fDue), .d (.int .i64 a1.fRenewals)]] (WOK.g0 hw0 (by simp)) ⟨[0], rfl, rfl, rfl, ⟨(.ptr rfl), trivial⟩, trivial, (.row rfl (.cons (.d rfl) (.cons (.d rfl) (.cons (.d rfl) (.cons (.d rfl) (.cons (.d rfl) (.cons (.d rfl) (.cons (.d rfl) (.cons (.d rfl) (.cons (.d rfl) .nil))))))))) .nil)⟩ ?_
      refine AW.seqR ?_
      refine AL.s rfl (op_field_ptr (.e rfl) fd26_3) ?_
      refine AL.s rfl (op_load_ptr1 (.e rfl) rfl rfl sc3) ?_
      obtain ⟨v8, hv8, hm⟩ := bindE hm
      refine AL.s rfl (op_fn Try.call9 (.e rfl) (.cons (.r rfl) (.cons (.r rfl) (.cons (.r rfl) .nil))) (m_request_in_ok hv8)) ?_
      refine AL.nil ?_
      refine AW.cond (b := _) rfl (fun hc2 => ?_) (fun hc2 => ?_)
      · replace hm := iteT hc2 hm
        refine AW.seqR ?_
        refine AL.s rfl (op_field_ptr (.e rfl) fd26_5) ?_
        refine AL.s rfl (op_load_ptr1 (.e rfl) rfl rfl sc9) ?_
        obtain ⟨v9, hv9, hm⟩ := bindE hm
        refine AL.s rfl (op_fn Try.call10 (.e rfl) (.cons (.r rfl) .nil) (m_request_Name_ok hv9)) ?_
        refine AL.s rfl (op_not (.r rfl)) ?_
        refine AL.s rfl (op_moveD (.e rfl)) ?_
        refine AL.sF rfl rfl rfl rfl (fun g => op_field_ptr (.e rfl) fd26_5) ?_
        refine AL.sF rfl rfl rfl rfl (fun g => op_load_ptr1 (.we (nt g) rfl) rfl rfl sc9) ?_
        refine AL.sF rfl rfl rfl rfl (fun g => op_field_ptr (.e rfl) fd26_2) ?_
        refine AL.sF rfl rfl rfl rfl (fun g => op_load_ptr1 (.we (nt g) rfl) rfl rfl sc9) ?_
        refine AL.sF rfl rfl rfl rfl (fun g => op_eqlS (.we (nt g) rfl rfl) (.we (nt g) rfl rfl)) ?_
        refine AL.s rfl (op_or (.r rfl) rfl (fun h => (.we (nt h) rfl rfl))) ?_
        refine AL.s rfl (op_moveD (.e rfl)) ?_
        refine AL.sF rfl rfl rfl rfl (fun g => op_field_ptr (.e rfl) fd26_6) ?_
        refine AL.sF rfl rfl rfl rfl (fun g => op_load_ptr1 (.we (nt g) rfl) rfl rfl sc24) ?_
        refine AL.sF rfl rfl rfl rfl (fun g => op_field_ptr (.e rfl) fd26_5) ?_
        refine AL.sF rfl rfl rfl rfl (fun g => op_load_ptr1 (.we (nt g) rfl) rfl rfl sc9) ?_
        obtain ⟨v10, hv10, hm⟩ := bindE hm
        refine AL.sF rfl rfl rfl rfl (fun g => op_fn Try.call16 (.e rfl) (.cons (.we (nt g) rfl rfl) (.cons (.we (nt g) rfl rfl) .nil)) (m_slices_Contains_string_string_ok (iteT (nt g) hv10))) ?_
        refine AL.s rfl (op_or (.r rfl) rfl (fun h => (.we (nt h) rfl rfl))) ?_
        refine AL.nil ?_
        refine AW.cond (b := _) rfl (fun hc3 => ?_) (fun hc3 => ?_)
        · replace hm := iteT hc3 hm
          refine AW.seqR ?_
          refine AL.s rfl (op_assignD (.e rfl)) ?_
          refine AL.nil ?_
          refine AW.ret ?_
          refine tq_ret ?_
          obtain rfl := Option.some.inj hm
          replace hm := hkj1
          try dsimp only at hm
          obtain rfl := Option.some.inj hm
          exact EndQ.d (.tmp (.e rfl) .nil) rfl rfl
        · replace hm := iteF hc3 hm
          refine AW.skip ?_
          obtain rfl := Option.some.inj hm
          exact nq ⟨_, rfl, ⟨[0], rfl, rfl, rfl, ⟨(.ptr rfl), trivial⟩, trivial, (.row rfl (.cons (.d rfl) (.cons (.d rfl) (.cons (.d rfl) (.cons (.d rfl) (.cons (.d rfl) (.cons (.d rfl) (.cons (.d rfl) (.cons (.d rfl) (.cons (.d rfl) .nil))))))))) .nil)⟩⟩
      · replace hm := iteF hc2 hm
        refine AW.seqR ?_
        refine AL.s rfl (op_field_ptr (.e rfl) fd26_5) ?_
        refine AL.s rfl (op_load_ptr1 (.e rfl) rfl rfl sc9) ?_
        refine AL.s rfl (op_neqS (.r rfl) (.r rfl)) ?_
        refine AL.nil ?_
        refine AW.cond (b := _) rfl (fun hc4 => ?_) (fun hc4 => ?_)
        · replace hm := iteT hc4 hm
          refine AW.seqR ?_
          refine AL.s rfl (op_assignD (.e rfl)) ?_
          refine AL.nil ?_
          refine AW.ret ?_
          refine tq_ret ?_
          obtain rfl := Option.some.inj hm
          replace hm := hkj1
          try dsimp only at hm
          obtain rfl := Option.some.inj hm
          exact EndQ.d (.tmp (.e rfl) .nil) rfl rfl
        · replace hm := iteF hc4 hm
          refine AW.skip ?_
          obtain rfl := Option.some.inj hm
          exact nq ⟨_, rfl, ⟨[0], rfl, rfl, rfl, ⟨(.ptr rfl), trivial⟩, trivial, (.row rfl (.cons (.d rfl) (.cons (.d rfl) (.cons (.d rfl) (.cons (.d rfl) (.cons (.d rfl) (.cons (.d rfl) (.cons (.d rfl) (.cons (.d rfl) (.cons (.d rfl) .nil))))))))) .nil)⟩⟩
    · rintro ⟨⟩ rfl
      replace hm := hkj1
      try dsimp only at hm
      refine AW.seq ?_
      refine AW.seqR ?_
      refine AL.s rfl (op_field_ptr (.e rfl) fd26_3) ?_
      refine AL.s rfl (op_load_ptr1 (.e rfl) rfl rfl sc3) ?_
      obtain ⟨v11, hv11, hm⟩ := bindE hm
      refine AL.s rfl (op_fn Try.call44 (.e rfl) (.cons (.r rfl) .nil) (m_request_lent_ok hv11)) ?_
      refine AL.s rfl (op_not (.r rfl)) ?_
      refine AL.nil ?_
      refine AW.cond (b := _) rfl (fun hc5 => ?_) (fun hc5 => ?_)
      · replace hm := iteT hc5 hm
        refine AW.seqR ?_
        refine AL.s rfl (op_field_ptr (.e rfl) fd26_7) ?_
        refine AL.s rfl (op_load_ptr1 (.e rfl) rfl rfl sc3) ?_
        refine AL.s rfl (op_eql (.r rfl) (.r rfl)) ?_
        refine AL.s rfl (op_moveD (.e rfl)) ?_
        refine AL.sT rfl rfl rfl rfl (fun g => op_field_ptr (.e rfl) fd26_8) ?_
        refine AL.sT rfl rfl rfl rfl (fun g => op_load_ptr1 (.we g rfl) rfl rfl sc3) ?_
        refine AL.sT rfl rfl rfl rfl (fun g => op_eql (.we g rfl rfl) (.r rfl)) ?_
        refine AL.s rfl (op_and (.r rfl) (fun h => (.we h rfl rfl)) rfl) ?_
        refine AL.s rfl (op_assignD (.e rfl)) ?_
        refine AL.nil ?_
        refine AW.ret ?_
        refine tq_ret ?_
        obtain rfl := Option.some.inj hm
        exact EndQ.d (.tmp (.e rfl) .nil) rfl rfl
      · replace hm := iteF hc5 hm
        refine AW.skip ?_
        refine nq ?_
        refine AW.seq ?_
        refine AW.seqR ?_
        refine AL.s rfl (op_field_ptr (.e rfl) fd26_3) ?_
        refine AL.s rfl (op_load_ptr1 (.e rfl) rfl rfl sc3) ?_
        refine AL.s rfl (op_eql (.r rfl) (.r rfl)) ?_
        refine AL.s rfl (op_moveD (.e rfl)) ?_
        refine AL.sF rfl rfl rfl rfl (fun g => op_field_ptr (.e rfl) fd26_3) ?_
        refine AL.sF rfl rfl rfl rfl (fun g => op_load_ptr1 (.we (nt g) rfl) rfl rfl sc3) ?_
        refine AL.sF rfl rfl rfl rfl (fun g => op_eql (.we (nt g) rfl rfl) (.r rfl)) ?_
        refine AL.s rfl (op_or (.r rfl) rfl (fun h => (.we (nt h) rfl rfl))) ?_
        refine AL.s rfl (op_moveD (.e rfl)) ?_
        refine AL.sT rfl rfl rfl rfl (fun g => op_field_ptr (.e rfl) fd26_7) ?_
        refine AL.sT rfl rfl rfl rfl (fun g => op_load_ptr1 (.we g rfl) rfl rfl sc3) ?_
        refine AL.sT rfl rfl rfl rfl (fun g => op_field_ptr (.e rfl) fd26_4) ?_
        refine AL.sT rfl rfl rfl rfl (fun g => op_load_ptr1 (.we g rfl) rfl rfl sc3) ?_
        refine AL.sT rfl rfl rfl rfl (fun g => op_lss (.we g rfl rfl) (.we g rfl rfl)) ?_
        refine AL.s rfl (op_and (.r rfl) (fun h => (.we h rfl rfl)) rfl) ?_
        refine AL.nil ?_
        refine AW.cond (b := _) rfl (fun hc6 => ?_) (fun hc6 => ?_)
        · replace hm := iteT hc6 hm
          refine AW.seqR ?_
          refine AL.s rfl (op_assignD (.e rfl)) ?_
          refine AL.nil ?_
          refine AW.ret ?_
          refine tq_ret ?_
          obtain rfl := Option.some.inj hm
          exact EndQ.d (.tmp (.e rfl) .nil) rfl rfl
        · replace hm := iteF hc6 hm
          refine AW.skip ?_
          refine nq ?_
          refine AW.seqR ?_
          refine AL.s rfl (op_field_ptr (.e rfl) fd26_7) ?_
          refine AL.s rfl (op_load_ptr1 (.e rfl) rfl rfl sc3) ?_
          obtain ⟨v12, hv12, hm⟩ := bindE hm
          refine AL.s rfl (op_fn Try.call9 (.e rfl) (.cons (.r rfl) (.cons (.r rfl) (.cons (.r rfl) .nil))) (m_request_in_ok hv12)) ?_
          refine AL.s rfl (op_moveD (.e rfl)) ?_
          refine AL.sT rfl rfl rfl rfl (fun g => op_field_ptr (.e rfl) fd26_8) ?_
          refine AL.sT rfl rfl rfl rfl (fun g => op_load_ptr1 (.we g rfl) rfl rfl sc3) ?_
          obtain ⟨v13, hv13, hm⟩ := bindE hm
          refine AL.sT rfl rfl rfl rfl (fun g => op_fn Try.call9 (.e rfl) (.cons (.we g rfl rfl) (.cons (.r rfl) (.cons (.r rfl) .nil))) (m_request_in_ok (iteT g hv13))) ?_
          refine AL.s rfl (op_and (.r rfl) (fun h => (.we h rfl rfl)) rfl) ?_
          refine AL.s rfl (op_assignD (.e rfl)) ?_
          refine AL.nil ?_
          refine AW.ret ?_
          obtain rfl := Option.some.inj hm
          exact EndQ.d (.tmp (.e rfl) .nil) rfl rfl

set_option maxHeartbeats 20000000 in
theorem m_request_Kinds_ok {n : Nat} {a1 : Int} {r : (List Int)} (hm : m_request_Kinds n a1 = some r) : Fn Try.prog 25 [(.int .i64 a1)] (.sl (r.map D.i)) := by
  unfold m_request_Kinds at hm
  refine Fn.of_AW (fnn := Try.f25) Try.func25 rfl (Nat.le_of_ble_eq_true rfl) (fun g0 w0 hw0 => ?_)
  refine AW.seqR ?_
  refine AL.s rfl (op_assignN (.e rfl)) ?_
  refine AL.nil ?_
  refine AW.seq ?_
  refine AW.seqR ?_
  refine AL.s rfl (op_moveD (.e rfl)) ?_
  obtain ⟨v2, hv2, hm⟩ := bindE hm
  refine AL.s rfl (op_fn Try.call9 (.e rfl) (.cons (.r rfl) (.cons (.r rfl) (.cons (.r rfl) .nil))) (m_request_in_ok hv2)) ?_
  refine AL.s rfl (op_not (.r rfl)) ?_
  refine AL.nil ?_
  refine AW.cond (b := _) rfl (fun hc1 => ?_) (fun hc1 => ?_)
  · replace hm := iteT hc1 hm
    refine AW.seqR ?_
    refine AL.s rfl (op_assignN (.e rfl)) ?_
    refine AL.nil ?_
    refine AW.ret ?_
    refine tq_ret ?_
    obtain rfl := Option.some.inj hm
    exact EndQ.d (.tmp (.e rfl) .nil) rfl rfl
  · replace hm := iteF hc1 hm
    refine AW.skip ?_
    refine nq ?_
    refine AW.seqR ?_
    refine AL.s rfl (op_buildSlice (ds := ([(1 : Int), (9 : Int), (10 : Int)] : List Int).map D.i) sl34 (.cons (.r rfl) rfl (En.i.one _) (.cons (.r rfl) rfl (En.i.one _) (.cons (.r rfl) rfl (En.i.one _) .nil))) rfl (by decide)) ?_
    refine AL.s rfl (op_buildSlice (ds := ([(2 : Int), (3 : Int), (9 : Int)] : List Int).map D.i) sl34 (.cons (.r rfl) rfl (En.i.one _) (.cons (.r rfl) rfl (En.i.one _) (.cons (.r rfl) rfl (En.i.one _) .nil))) rfl (by decide)) ?_
    refine AL.s rfl (op_buildSlice (ds := ([(4 : Int)] : List Int).map D.i) sl34 (.cons (.r rfl) rfl (En.i.one _) .nil) rfl (by decide)) ?_
    refine AL.s rfl (op_buildSlice (ds := ([(5 : Int), (6 : Int), (7 : Int)] : List Int).map D.i) sl34 (.cons (.r rfl) rfl (En.i.one _) (.cons (.r rfl) rfl (En.i.one _) (.cons (.r rfl) rfl (En.i.one _) .nil))) rfl (by decide)) ?_
    refine AL.s rfl (op_buildSlice (ds := ([(7 : Int)] : List Int).map D.i) sl34 (.cons (.r rfl) rfl (En.i.one _) .nil) rfl (by decide)) ?_
    refine AL.s rfl (op_buildSlice (ds := ([(8 : Int)] : List Int).map D.i) sl34 (.cons (.r rfl) rfl (En.i.one _) .nil) rfl (by decide)) ?_
    refine AL.s rfl (op_buildArr ba85 (.cons (.e rfl) rfl rfl rfl rfl (Nat.le_of_ble_eq_true rfl) (.cons (.e rfl) rfl rfl rfl rfl (Nat.le_of_ble_eq_true rfl) (.cons (.e rfl) rfl rfl rfl rfl (Nat.le_of_ble_eq_true rfl) (.cons (.e rfl) rfl rfl rfl rfl (Nat.le_of_ble_eq_true rfl) (.cons (.e rfl) rfl rfl rfl rfl (Nat.le_of_ble_eq_true rfl) (.cons (.e rfl) rfl rfl rfl rfl (Nat.le_of_ble_eq_true rfl) (.cons (.e rfl) rfl rfl rfl rfl (Nat.le_of_ble_eq_true rfl) .nil)))))))) ?_
    refine AL.s rfl (op_alloc (n := 0) zr85 rfl) ?_
    refine AL.s rfl (op_storeA (.e rfl) (.e rfl) rfl rfl ⟨_, rfl, rfl⟩ rfl (Nat.le_of_ble_eq_true rfl)) ?_
    refine AL.nil ?_
    refine AW.seqR ?_
    refine AL.s rfl (op_moveD (.e rfl)) ?_
    obtain ⟨v3, hv3, hm⟩ := bindE hm
    refine AL.s rfl (op_indexAddr_dyn (.e rfl) (.r rfl) hv3 rfl Try.underlying85 ⟨_, rfl, rfl⟩) ?_
    refine AL.s rfl (op_load_dyn (off := 0) (f := (esl D.i)) (l := ([[], ([(1 : Int), (9 : Int), (10 : Int)] : List Int), ([(2 : Int), (3 : Int), (9 : Int)] : List Int), ([(4 : Int)] : List Int), ([(5 : Int), (6 : Int), (7 : Int)] : List Int), ([(7 : Int)] : List Int), ([(8 : Int)] : List Int), [], [], []] : List (List Int))) (.e rfl) rfl rfl hv3 sc34) ?_
    refine AL.s rfl (op_assignD (.e rfl)) ?_
    refine AL.nil ?_
    refine AW.ret ?_
    obtain rfl := Option.some.inj hm
    exact EndQ.d (.tmp (.e rfl) .nil) rfl rfl

set_option maxHeartbeats 20000000 in
theorem m_slices_Index_int_int_ok {n : Nat} {a1 : (List Int)} {a2 : Int} {r : Int} (hm : m_slices_Index_int_int n a1 a2 = some r) : Fn Try.prog 45 [(.sl (a1.map D.i)), (.int .i64 a2)] (.int .i64 r) := by
  unfold m_slices_Index_int_int at hm
  refine Fn.of_AW (fnn := Try.f45) Try.func45 rfl (Nat.le_of_ble_eq_true rfl) (fun g0 w0 hw0 => ?_)
  refine AW.reset 0 [(0, .d (.sl (a1.map D.i))), (1, .d (.int .i64 a2))] [] (WOK.g0 hw0 (by simp)) ⟨[], rfl, rfl, rfl, ⟨(.d rfl), (.d rfl), trivial⟩, trivial, .nil⟩ ?_
  refine AW.seqR ?_
  refine AL.s rfl (op_assignD (.e rfl)) ?_
  refine AL.nil ?_
  refine AW.seq ?_
  refine AW.seqR ?_
  refine AL.s rfl (op_moveD (.e rfl)) ?_
  refine AL.s rfl (op_lenM (f := D.i) (.r rfl) sl34) ?_
  refine AL.s rfl (op_moveD (.e rfl)) ?_
  refine AL.nil ?_
  refine AW.block ?_
  obtain ⟨t_1, hI1, hk1⟩ := bindE hm
  refine AW.loopS (σ := Int) (τ := (Int ⊕ Unit)) 0 (fun x => [(0, .d (.sl (a1.map D.i))), (1, .d (.int .i64 a2)), (7, .d (.int .i64 (a1.length : Int))), (8, .d (.int .i64 x))]) (fun x => []) hI1 (WOK.g0 hw0 (by simp)) ⟨[], rfl, rfl, rfl, ⟨(.d rfl), (.d rfl), (.d rfl), (.d rfl), trivial⟩, trivial, .nil⟩ ?_
  rintro n1 s3 hI1
  obtain ⟨y_1, hm, hI1⟩ := iterS hI1
  replace hm : m_slices_Index_int_int_L1 n _ _ s3 = some y_1 := hm
  unfold m_slices_Index_int_int_L1 at hm
  try dsimp only at hm
  refine AW.seqR ?_
  refine AL.s rfl (op_lss (.r rfl) (.r rfl)) ?_
  refine AL.nil ?_
  refine AW.seq ?_
  refine AW.cond (b := _) rfl (fun hc1 => ?_) (fun hc1 => ?_)
  · replace hm := iteT hc1 hm
    refine AW.skip ?_
    refine nq ?_
    refine AW.seq ?_
    refine AW.block ?_
    refine AW.seqR ?_
    refine AL.s rfl (op_moveD (.e rfl)) ?_
    refine AL.s rfl (op_assignD (.e rfl)) ?_
    refine AL.nil ?_
    refine AW.seqR ?_
    refine AL.s rfl (op_moveD (.e rfl)) ?_
    refine AL.s rfl (op_moveD (.e rfl)) ?_
    refine AL.s rfl (op_moveD (.e rfl)) ?_
    obtain ⟨v4, hv4, hm⟩ := bindE hm
    refine AL.s rfl (op_indexAddrM (f := D.i) (.r rfl) (.r rfl) hv4 En.i sl34) ?_
    refine AL.s rfl (op_load_vp1 (.e rfl) rfl sc3) ?_
    refine AL.s rfl (op_eql (.r rfl) (.r rfl)) ?_
    refine AL.nil ?_
    refine AW.cond (b := _) rfl (fun hc2 => ?_) (fun hc2 => ?_)
    · replace hm := iteT hc2 hm
      refine AW.seqR ?_
      refine AL.s rfl (op_moveD (.e rfl)) ?_
      refine AL.s rfl (op_assignD (.e rfl)) ?_
      refine AL.nil ?_
      refine AW.ret ?_
      refine bq_ret ?_
      refine tq_ret ?_
      refine tq_ret ?_
      obtain rfl := Option.some.inj hm
      obtain rfl := Option.some.inj hI1
      replace hm := hk1
      try dsimp only at hm
      refine bq_ret ?_
      refine tq_ret ?_
      obtain rfl := Option.some.inj hm
      exact EndQ.d (.tmp (.e rfl) .nil) rfl rfl
    · replace hm := iteF hc2 hm
      refine AW.skip ?_
      refine bq_n ?_
      refine nq ?_
      refine AW.region ?_
      refine AL.s rfl (op_addw (.r rfl) (.r rfl)) ?_
      refine AL.s rfl (op_moveD (.e rfl)) ?_
      refine AL.nil ?_
      obtain rfl := Option.some.inj hm
      exact nq ⟨_, hI1, ⟨[], rfl, rfl, rfl, ⟨(.d rfl), (.d rfl), (.d rfl), (.d rfl), trivial⟩, trivial, .nil⟩⟩
  · replace hm := iteF hc1 hm
    refine AW.exit ?_
    refine tq_exit ?_
    refine tq_exit ?_
    obtain rfl := Option.some.inj hm
    obtain rfl := Option.some.inj hI1
    replace hm := hk1
    try dsimp only at hm
    refine bq_hit ?_
    refine nq ?_
    refine AW.seqR ?_
    refine AL.s rfl (op_assignD (.e rfl)) ?_
    refine AL.nil ?_
    refine AW.ret ?_
    obtain rfl := Option.some.inj hm
    exact EndQ.d (.tmp (.e rfl) .nil) rfl rfl

set_option maxHeartbeats 20000000 in
theorem m_slices_Contains_int_int_ok {n : Nat} {a1 : (List Int)} {a2 : Int} {r : Bool} (hm : m_slices_Contains_int_int n a1 a2 = some r) : Fn Try.prog 24 [(.sl (a1.map D.i)), (.int .i64 a2)] (.bool r) := by
  unfold m_slices_Contains_int_int at hm
  refine Fn.of_AW (fnn := Try.f24) Try.func24 rfl (Nat.le_of_ble_eq_true rfl) (fun g0 w0 hw0 => ?_)
  refine AW.seqR ?_
  refine AL.s rfl (op_assignD (.e rfl)) ?_
  refine AL.nil ?_
  refine AW.seqR ?_
  refine AL.s rfl (op_moveD (.e rfl)) ?_
  refine AL.s rfl (op_moveD (.e rfl)) ?_
  obtain ⟨v3, hv3, hm⟩ := bindE hm
  refine AL.s rfl (op_fn Try.call45 (.e rfl) (.cons (.r rfl) (.cons (.r rfl) .nil)) (m_slices_Index_int_int_ok hv3)) ?_
  refine AL.s rfl (op_geq (.r rfl) (.r rfl)) ?_
  refine AL.s rfl (op_assignD (.e rfl)) ?_
  refine AL.nil ?_
  refine AW.ret ?_
  obtain rfl := Option.some.inj hm
  exact EndQ.d (.tmp (.e rfl) .nil) rfl rfl

set_option maxHeartbeats 20000000 in
theorem m_request_refused_ok {n : Nat} {a1 : SRequest} {a2 : SStep} {r : Int} (hm : m_request_refused n a1 a2 = some r) : Fn Try.prog 26 [(SRequest.e a1), (SStep.e a2)] (.int .i64 r) := by
  unfold m_request_refused at hm
  refine Fn.of_AW (fnn := Try.f26) Try.func26 rfl (Nat.le_of_ble_eq_true rfl) (fun g0 w0 hw0 => ?_)
  refine AW.reset 0 [(0, .d (SRequest.e a1)), (1, .d (SStep.e a2))] [] (WOK.g0 hw0 (by simp)) ⟨[], rfl, rfl, rfl, ⟨(.d rfl), (.d rfl), trivial⟩, trivial, .nil⟩ ?_
  refine AW.seqR ?_
  refine AL.s rfl (op_box (n := 0) (.e rfl) rfl rfl rfl) ?_
  refine AL.s rfl (op_box (n := 1) (.e rfl) rfl rfl rfl) ?_
  refine AL.s rfl (op_assignD (.e rfl)) ?_
  refine AL.nil ?_
  obtain ⟨t_j1, hm, hkj1⟩ := bindE hm
  refine AW.cutS (α := Unit) 0 (fun x => (.inr x) = t_j1) (fun x => []) (fun x => [.row [.d (.int .i64 a1.fID), .d (.int .i64 a1.fWork), .d (.str a1.fLibrary), .d (.int .i64 a1.fState), .d (.int .i64 a1.fTime), .d (.str a1.fLender), .d (.sl (a1.fTried.map D.str)), .d (.int .i64 a1.fDue), .d (.int .i64 a1.fRenewals)], .row [.d (.int .i64 a2.fKind), .d (.int .i64 a2.fTime), .d (.str a2.fLender), .d (.int .i64 a2.fDue)]]) (WOK.g0 hw0 (by simp)) ?_ ?_
  · skip
    refine AW.reset 0 [(2, .ptr 0 0), (3, .ptr 1 0)] [.row [.d (.int .i64 a1.fID), .d (.int .i64 a1.fWork), .d (.str a1.fLibrary), .d (.int .i64 a1.fState), .d (.int .i64 a1.fTime), .d (.str a1.fLender), .d (.sl (a1.fTried.map D.str)), .d (.int .i64 a1.fDue), .d (.int .i64 a1.fRenewals)], .row [.d (.int .i64 a2.fKind), .d (.int .i64 a2.fTime), .d (.str a2.fLender), .d (.int .i64 a2.fDue)]] (WOK.g0 hw0 (by simp)) ⟨[0, 1], rfl, rfl, rfl, ⟨(.ptr rfl), (.ptr rfl), trivial⟩, trivial, (.row rfl (.cons (.d rfl) (.cons (.d rfl) (.cons (.d rfl) (.cons (.d rfl) (.cons (.d rfl) (.cons (.d rfl) (.cons (.d rfl) (.cons (.d rfl) (.cons (.d rfl) .nil))))))))) (.row rfl (.cons (.d rfl) (.cons (.d rfl) (.cons (.d rfl) (.cons (.d rfl) .nil)))) .nil))⟩ ?_
    refine AW.seqR ?_
    refine AL.s rfl (op_field_ptr (.e rfl) fd47_0) ?_
    refine AL.s rfl (op_load_ptr1 (.e rfl) rfl rfl sc3) ?_
    refine AL.nil ?_
    refine AW.block ?_
    refine AW.seqR ?_
    refine AL.s rfl (op_eql (.r rfl) (.r rfl)) ?_
    refine AL.s rfl (op_assignD (.e rfl)) ?_
    refine AL.nil ?_
    refine AW.cond (b := _) rfl (fun hc1 => ?_) (fun hc1 => ?_)
    · replace hm := iteT hc1 hm
      refine AW.seq ?_
      refine AW.seqR ?_
      refine AL.s rfl (op_field_ptr (.e rfl) fd47_2) ?_
      refine AL.s rfl (op_load_ptr1 (.e rfl) rfl rfl sc9) ?_
      obtain ⟨v3, hv3, hm⟩ := bindE hm
      refine AL.s rfl (op_fn Try.call10 (.e rfl) (.cons (.r rfl) .nil) (m_request_Name_ok hv3)) ?_
      refine AL.s rfl (op_not (.r rfl)) ?_
      refine AL.s rfl (op_moveD (.e rfl)) ?_
      refine AL.sF rfl rfl rfl rfl (fun g => op_field_ptr (.e rfl) fd47_2) ?_
      refine AL.sF rfl rfl rfl rfl (fun g => op_load_ptr1 (.we (nt g) rfl) rfl rfl sc9) ?_
      refine AL.sF rfl rfl rfl rfl (fun g => op_field_ptr (.e rfl) fd26_2) ?_
      refine AL.sF rfl rfl rfl rfl (fun g => op_load_ptr1 (.we (nt g) rfl) rfl rfl sc9) ?_
      refine AL.sF rfl rfl rfl rfl (fun g => op_eqlS (.we (nt g) rfl rfl) (.we (nt g) rfl rfl)) ?_
      refine AL.s rfl (op_or (.r rfl) rfl (fun h => (.we (nt h) rfl rfl))) ?_
      refine AL.nil ?_
      refine AW.cond (b := _) rfl (fun hc2 => ?_) (fun hc2 => ?_)
      · replace hm := iteT hc2 hm
        refine AW.seqR ?_
        refine AL.s rfl (op_assignD (.e rfl)) ?_
        refine AL.nil ?_
        refine AW.ret ?_
        refine tq_ret ?_
        refine bq_ret ?_
        refine tq_ret ?_
        obtain rfl := Option.some.inj hm
        replace hm := hkj1
        try dsimp only at hm
        obtain rfl := Option.some.inj hm
        exact EndQ.d (.tmp (.e rfl) .nil) rfl rfl
      · replace hm := iteF hc2 hm
        refine AW.skip ?_
        refine nq ?_
        refine AW.seqR ?_
        refine AL.s rfl (op_field_ptr (.e rfl) fd26_6) ?_
        refine AL.s rfl (op_load_ptr1 (.e rfl) rfl rfl sc24) ?_
        refine AL.s rfl (op_field_ptr (.e rfl) fd47_2) ?_
        refine AL.s rfl (op_load_ptr1 (.e rfl) rfl rfl sc9) ?_
        obtain ⟨v4, hv4, hm⟩ := bindE hm
        refine AL.s rfl (op_fn Try.call16 (.e rfl) (.cons (.r rfl) (.cons (.r rfl) .nil)) (m_slices_Contains_string_string_ok hv4)) ?_
        refine AL.nil ?_
        refine AW.cond (b := _) rfl (fun hc3 => ?_) (fun hc3 => ?_)
        · replace hm := iteT hc3 hm
          refine AW.seqR ?_
          refine AL.s rfl (op_assignD (.e rfl)) ?_
          refine AL.nil ?_
          refine AW.ret ?_
          refine bq_ret ?_
          refine tq_ret ?_
          obtain rfl := Option.some.inj hm
          replace hm := hkj1
          try dsimp only at hm
          obtain rfl := Option.some.inj hm
          exact EndQ.d (.tmp (.e rfl) .nil) rfl rfl
        · replace hm := iteF hc3 hm
          refine AW.skip ?_
          refine bq_n ?_
          obtain rfl := Option.some.inj hm
          exact nq ⟨_, rfl, ⟨[0, 1], rfl, rfl, rfl, trivial, trivial, (.row rfl (.cons (.d rfl) (.cons (.d rfl) (.cons (.d rfl) (.cons (.d rfl) (.cons (.d rfl) (.cons (.d rfl) (.cons (.d rfl) (.cons (.d rfl) (.cons (.d rfl) .nil))))))))) (.row rfl (.cons (.d rfl) (.cons (.d rfl) (.cons (.d rfl) (.cons (.d rfl) .nil)))) .nil))⟩⟩
    · replace hm := iteF hc1 hm
      refine AW.seqR ?_
      refine AL.s rfl (op_eql (.r rfl) (.r rfl)) ?_
      refine AL.s rfl (op_assignD (.e rfl)) ?_
      refine AL.nil ?_
      refine AW.cond (b := _) rfl (fun hc4 => ?_) (fun hc4 => ?_)
      · replace hm := iteT hc4 hm
        refine AW.seqR ?_
        refine AL.s rfl (op_field_ptr (.e rfl) fd26_6) ?_
        refine AL.s rfl (op_load_ptr1 (.e rfl) rfl rfl sc24) ?_
        refine AL.s rfl (op_lenM (f := D.str) (.r rfl) sl24) ?_
        refine AL.s rfl (op_eql (.r rfl) (.r rfl)) ?_
        refine AL.nil ?_
        refine AW.cond (b := _) rfl (fun hc5 => ?_) (fun hc5 => ?_)
        · replace hm := iteT hc5 hm
          refine AW.seqR ?_
          refine AL.s rfl (op_assignD (.e rfl)) ?_
          refine AL.nil ?_
          refine AW.ret ?_
          refine bq_ret ?_
          refine tq_ret ?_
          obtain rfl := Option.some.inj hm
          replace hm := hkj1
          try dsimp only at hm
          obtain rfl := Option.some.inj hm
          exact EndQ.d (.tmp (.e rfl) .nil) rfl rfl
        · replace hm := iteF hc5 hm
          refine AW.skip ?_
          refine bq_n ?_
          obtain rfl := Option.some.inj hm
          exact nq ⟨_, rfl, ⟨[0, 1], rfl, rfl, rfl, trivial, trivial, (.row rfl (.cons (.d rfl) (.cons (.d rfl) (.cons (.d rfl) (.cons (.d rfl) (.cons (.d rfl) (.cons (.d rfl) (.cons (.d rfl) (.cons (.d rfl) (.cons (.d rfl) .nil))))))))) (.row rfl (.cons (.d rfl) (.cons (.d rfl) (.cons (.d rfl) (.cons (.d rfl) .nil)))) .nil))⟩⟩
      · replace hm := iteF hc4 hm
        obtain ⟨t_j2, hm, hkj2⟩ := bindE hm
        refine AW.cutS (α := Bool) 0 (fun x => x = t_j2) (fun x => [(2, .ptr 0 0), (3, .ptr 1 0), (6, .d (.int .i64 a2.fKind)), (31, .d (.bool x))]) (fun x => [.row [.d (.int .i64 a1.fID), .d (.int .i64 a1.fWork), .d (.str a1.fLibrary), .d (.int .i64 a1.fState), .d (.int .i64 a1.fTime), .d (.str a1.fLender), .d (.sl (a1.fTried.map D.str)), .d (.int .i64 a1.fDue), .d (.int .i64 a1.fRenewals)], .row [.d (.int .i64 a2.fKind), .d (.int .i64 a2.fTime), .d (.str a2.fLender), .d (.int .i64 a2.fDue)]]) (WOK.g0 hw0 (by simp)) ?_ ?_
        · skip
          refine AW.seqR ?_
          refine AL.s rfl (op_eql (.r rfl) (.r rfl)) ?_
          refine AL.s rfl (op_assignD (.e rfl)) ?_
          refine AL.nil ?_
          refine AW.cond (b := _) rfl (fun hc6 => ?_) (fun hc6 => ?_)
          · replace hm := iteT hc6 hm
            refine AW.skip ?_
            obtain rfl := Option.some.inj hm
            exact nq ⟨_, rfl, ⟨[0, 1], rfl, rfl, rfl, ⟨(.ptr rfl), (.ptr rfl), (.d rfl), (.d rfl), trivial⟩, trivial, (.row rfl (.cons (.d rfl) (.cons (.d rfl) (.cons (.d rfl) (.cons (.d rfl) (.cons (.d rfl) (.cons (.d rfl) (.cons (.d rfl) (.cons (.d rfl) (.cons (.d rfl) .nil))))))))) (.row rfl (.cons (.d rfl) (.cons (.d rfl) (.cons (.d rfl) (.cons (.d rfl) .nil)))) .nil))⟩⟩
          · replace hm := iteF hc6 hm
            refine AW.region ?_
            refine AL.s rfl (op_eql (.r rfl) (.r rfl)) ?_
            refine AL.s rfl (op_assignD (.e rfl)) ?_
            refine AL.nil ?_
            obtain rfl := Option.some.inj hm
            exact nq ⟨_, rfl, ⟨[0, 1], rfl, rfl, rfl, ⟨(.ptr rfl), (.ptr rfl), (.d rfl), (.d rfl), trivial⟩, trivial, (.row rfl (.cons (.d rfl) (.cons (.d rfl) (.cons (.d rfl) (.cons (.d rfl) (.cons (.d rfl) (.cons (.d rfl) (.cons (.d rfl) (.cons (.d rfl) (.cons (.d rfl) .nil))))))))) (.row rfl (.cons (.d rfl) (.cons (.d rfl) (.cons (.d rfl) (.cons (.d rfl) .nil)))) .nil))⟩⟩
        · rintro s5 rfl
          replace hm := hkj2
          try dsimp only at hm
          refine AW.cond (b := _) rfl (fun hc7 => ?_) (fun hc7 => ?_)
          · replace hm := iteT hc7 hm
            refine AW.seq ?_
            refine AW.seqR ?_
            refine AL.s rfl (op_field_ptr (.e rfl) fd47_0) ?_
            refine AL.s rfl (op_load_ptr1 (.e rfl) rfl rfl sc3) ?_
            refine AL.s rfl (op_eql (.r rfl) (.r rfl)) ?_
            refine AL.s rfl (op_moveD (.e rfl)) ?_
            refine AL.sT rfl rfl rfl rfl (fun g => op_field_ptr (.e rfl) fd26_8) ?_
            refine AL.sT rfl rfl rfl rfl (fun g => op_load_ptr1 (.we g rfl) rfl rfl sc3) ?_
            refine AL.sT rfl rfl rfl rfl (fun g => op_eql (.we g rfl rfl) (.r rfl)) ?_
            refine AL.s rfl (op_and (.r rfl) (fun h => (.we h rfl rfl)) rfl) ?_
            refine AL.nil ?_
            refine AW.cond (b := _) rfl (fun hc8 => ?_) (fun hc8 => ?_)
            · replace hm := iteT hc8 hm
              refine AW.seqR ?_
              refine AL.s rfl (op_assignD (.e rfl)) ?_
              refine AL.nil ?_
              refine AW.ret ?_
              refine tq_ret ?_
              refine bq_ret ?_
              refine tq_ret ?_
              obtain rfl := Option.some.inj hm
              replace hm := hkj1
              try dsimp only at hm
              obtain rfl := Option.some.inj hm
              exact EndQ.d (.tmp (.e rfl) .nil) rfl rfl
            · replace hm := iteF hc8 hm
              refine AW.skip ?_
              refine nq ?_
              refine AW.seqR ?_
              refine AL.s rfl (op_field_ptr (.e rfl) fd47_3) ?_
              refine AL.s rfl (op_load_ptr1 (.e rfl) rfl rfl sc3) ?_
              refine AL.s rfl (op_field_ptr (.e rfl) fd47_1) ?_
              refine AL.s rfl (op_load_ptr1 (.e rfl) rfl rfl sc3) ?_
              refine AL.s rfl (op_leq (.r rfl) (.r rfl)) ?_
              refine AL.s rfl (op_moveD (.e rfl)) ?_
              refine AL.sF rfl rfl rfl rfl (fun g => op_field_ptr (.e rfl) fd47_3) ?_
              refine AL.sF rfl rfl rfl rfl (fun g => op_load_ptr1 (.we (nt g) rfl) rfl rfl sc3) ?_
              refine AL.sF rfl rfl rfl rfl (fun g => op_gtr (.we (nt g) rfl rfl) (.r rfl)) ?_
              refine AL.s rfl (op_or (.r rfl) rfl (fun h => (.we (nt h) rfl rfl))) ?_
              refine AL.s rfl (op_moveD (.e rfl)) ?_
              refine AL.sF rfl rfl rfl rfl (fun g => op_field_ptr (.e rfl) fd47_0) ?_
              refine AL.sF rfl rfl rfl rfl (fun g => op_load_ptr1 (.we (nt g) rfl) rfl rfl sc3) ?_
              refine AL.sF rfl rfl rfl rfl (fun g => op_eql (.we (nt g) rfl rfl) (.r rfl)) ?_
              refine AL.sF rfl rfl rfl rfl (fun g => op_moveD (.we (nt g) rfl)) ?_
              refine AL.sTT rfl rfl rfl rfl (fun gp g => op_field_ptr (.e rfl) fd47_3) ?_
              refine AL.sTT rfl rfl rfl rfl (fun gp g => op_load_ptr1 (.we (an gp g) rfl) rfl rfl sc3) ?_
              refine AL.sTT rfl rfl rfl rfl (fun gp g => op_field_ptr (.e rfl) fd26_7) ?_
              refine AL.sTT rfl rfl rfl rfl (fun gp g => op_load_ptr1 (.we (an gp g) rfl) rfl rfl sc3) ?_
              refine AL.sTT rfl rfl rfl rfl (fun gp g => op_leq (.we (an gp g) rfl rfl) (.we (an gp g) rfl rfl)) ?_
              refine AL.sF rfl rfl rfl rfl (fun g => op_and (.we (nt g) rfl rfl) (fun h => (.we (an (nt g) h) rfl rfl)) rfl) ?_
              refine AL.s rfl (op_or (.r rfl) rfl (fun h => (.we (nt h) rfl rfl))) ?_
              refine AL.nil ?_
              refine AW.cond (b := _) rfl (fun hc9 => ?_) (fun hc9 => ?_)
              · replace hm := iteT hc9 hm
                refine AW.seqR ?_
                refine AL.s rfl (op_assignD (.e rfl)) ?_
                refine AL.nil ?_
                refine AW.ret ?_
                refine bq_ret ?_
                refine tq_ret ?_
                obtain rfl := Option.some.inj hm
                replace hm := hkj1
                try dsimp only at hm
                obtain rfl := Option.some.inj hm
                exact EndQ.d (.tmp (.e rfl) .nil) rfl rfl
              · replace hm := iteF hc9 hm
                refine AW.skip ?_
                refine bq_n ?_
                obtain rfl := Option.some.inj hm
                exact nq ⟨_, rfl, ⟨[0, 1], rfl, rfl, rfl, trivial, trivial, (.row rfl (.cons (.d rfl) (.cons (.d rfl) (.cons (.d rfl) (.cons (.d rfl) (.cons (.d rfl) (.cons (.d rfl) (.cons (.d rfl) (.cons (.d rfl) (.cons (.d rfl) .nil))))))))) (.row rfl (.cons (.d rfl) (.cons (.d rfl) (.cons (.d rfl) (.cons (.d rfl) .nil)))) .nil))⟩⟩
          · replace hm := iteF hc7 hm
            refine AW.seqR ?_
            refine AL.s rfl (op_eql (.r rfl) (.r rfl)) ?_
            refine AL.s rfl (op_assignD (.e rfl)) ?_
            refine AL.nil ?_
            refine AW.cond (b := _) rfl (fun hc10 => ?_) (fun hc10 => ?_)
            · replace hm := iteT hc10 hm
              refine AW.seqR ?_
              refine AL.s rfl (op_field_ptr (.e rfl) fd26_7) ?_
              refine AL.s rfl (op_load_ptr1 (.e rfl) rfl rfl sc3) ?_
              refine AL.s rfl (op_field_ptr (.e rfl) fd47_1) ?_
              refine AL.s rfl (op_load_ptr1 (.e rfl) rfl rfl sc3) ?_
              refine AL.s rfl (op_lss (.r rfl) (.r rfl)) ?_
              refine AL.nil ?_
              refine AW.cond (b := _) rfl (fun hc11 => ?_) (fun hc11 => ?_)
              · replace hm := iteT hc11 hm
                refine AW.seqR ?_
                refine AL.s rfl (op_assignD (.e rfl)) ?_
                refine AL.nil ?_
                refine AW.ret ?_
                refine bq_ret ?_
                refine tq_ret ?_
                obtain rfl := Option.some.inj hm
                replace hm := hkj1
                try dsimp only at hm
                obtain rfl := Option.some.inj hm
                exact EndQ.d (.tmp (.e rfl) .nil) rfl rfl
              · replace hm := iteF hc11 hm
                refine AW.skip ?_
                refine bq_n ?_
                obtain rfl := Option.some.inj hm
                exact nq ⟨_, rfl, ⟨[0, 1], rfl, rfl, rfl, trivial, trivial, (.row rfl (.cons (.d rfl) (.cons (.d rfl) (.cons (.d rfl) (.cons (.d rfl) (.cons (.d rfl) (.cons (.d rfl) (.cons (.d rfl) (.cons (.d rfl) (.cons (.d rfl) .nil))))))))) (.row rfl (.cons (.d rfl) (.cons (.d rfl) (.cons (.d rfl) (.cons (.d rfl) .nil)))) .nil))⟩⟩
            · replace hm := iteF hc10 hm
              refine AW.skip ?_
              refine bq_n ?_
              obtain rfl := Option.some.inj hm
              exact nq ⟨_, rfl, ⟨[0, 1], rfl, rfl, rfl, trivial, trivial, (.row rfl (.cons (.d rfl) (.cons (.d rfl) (.cons (.d rfl) (.cons (.d rfl) (.cons (.d rfl) (.cons (.d rfl) (.cons (.d rfl) (.cons (.d rfl) (.cons (.d rfl) .nil))))))))) (.row rfl (.cons (.d rfl) (.cons (.d rfl) (.cons (.d rfl) (.cons (.d rfl) .nil)))) .nil))⟩⟩
  · rintro ⟨⟩ rfl
    replace hm := hkj1
    try dsimp only at hm
    refine AW.seqR ?_
    refine AL.s rfl (op_assignD (.e rfl)) ?_
    refine AL.nil ?_
    refine AW.ret ?_
    obtain rfl := Option.some.inj hm
    exact EndQ.d (.tmp (.e rfl) .nil) rfl rfl

set_option maxHeartbeats 20000000 in
theorem m_slices_Clone_string_string_ok {n : Nat} {a1 : (List (List UInt8))} {r : (List (List UInt8))} (hm : m_slices_Clone_string_string n a1 = some r) : ACall Try.prog 27 [.d (.sl (a1.map D.str))] [] fun r' H' => r' = resOf [.hs 0 0 r.length 1] ∧ H' = [.lst (r.map D.str) 9 1] := by
  unfold m_slices_Clone_string_string at hm
  refine ACall.of_AWG (fnn := Try.f27) Try.func27 rfl (Nat.le_of_ble_eq_true rfl) (fun g0 w0 hw0 => ?_)
  refine AW.seqR ?_
  refine AL.s rfl (op_assignN (.e rfl)) ?_
  refine AL.nil ?_
  refine AW.seq ?_
  refine AW.seqR ?_
  refine AL.s rfl (op_moveD (.e rfl)) ?_
  refine AL.sE rfl (op_nilS (.r rfl) rfl sl24) ?_
  rintro _ ⟨b0, rfl, hb0⟩
  refine AL.nil ?_
  refine AW.cond (b := _) rfl (fun hc0 => ?_) (fun hc0 => ?_)
  · have hm : some ([] : (List (List UInt8))) = some r := by have ha := hb0 hc0; simp only [List.map_eq_nil_iff] at ha; subst ha; simpa [app] using hm
    refine AW.seqR ?_
    refine AL.s rfl (op_assignN (.e rfl)) ?_
    refine AL.nil ?_
    refine AW.lstize (n := 0) 2 9 1 rfl rfl ?_
    refine AW.ret ?_
    refine tq_ret ?_
    obtain rfl := Option.some.inj hm
    exact ⟨_, [0], (.tmp (.e rfl) .nil), rfl, rfl, (.cons (.hs rfl rfl) .nil), (.lst rfl .nil)⟩
  · skip
    refine AW.skip ?_
    refine nq ?_
    refine AW.seqR ?_
    refine AL.s rfl (op_buildSlice (ds := ([] : List (List UInt8)).map D.str) sl24 .nil rfl (by decide)) ?_
    refine AL.s rfl (op_moveD (.e rfl)) ?_
    obtain ⟨v2, hv2, hm⟩ := bindE hm
    refine AL.s rfl (op_appendEH (n := 0) (f := D.str) (l' := a1) sl24 (.e rfl) (.r rfl) rfl En.str hv2) ?_
    refine AL.s rfl (op_assignH (.e rfl)) ?_
    refine AL.nil ?_
    refine AW.ret ?_
    obtain rfl := Option.some.inj hm
    exact ⟨_, [1], (.tmp (.e rfl) .nil), rfl, rfl, (.cons (.hs rfl rfl) .nil), (.lst rfl .nil)⟩

set_option maxHeartbeats 20000000 in
theorem m_request_Do_ok {n : Nat} {a1 : SRequest} {a2 : SStep} {r : (SRequest × Int)} (hm : m_request_Do n a1 a2 = some r) : Fn Try.prog 8 [(SRequest.e a1), (SStep.e a2)] (.tup [(SRequest.e r.1), (.int .i64 r.2)]) := by
  unfold m_request_Do at hm
  refine Fn.of_AW (fnn := Try.f8) Try.func8 rfl (Nat.le_of_ble_eq_true rfl) (fun g0 w0 hw0 => ?_)
  refine AW.reset 0 [(0, .d (SRequest.e a1)), (1, .d (SStep.e a2))] [] (WOK.g0 hw0 (by simp)) ⟨[], rfl, rfl, rfl, ⟨(.d rfl), (.d rfl), trivial⟩, trivial, .nil⟩ ?_
  refine AW.seqR ?_
  refine AL.s rfl (op_box (n := 0) (.e rfl) rfl rfl rfl) ?_
  refine AL.s rfl (op_box (n := 1) (.e rfl) rfl rfl rfl) ?_
  refine AL.s rfl (op_alloc (n := 2) zr26 rfl) ?_
  refine AL.s rfl (op_assignD (.e rfl)) ?_
  refine AL.nil ?_
  refine AW.seqR ?_
  refine AL.s rfl (op_field_ptr (.e rfl) fd47_0) ?_
  refine AL.s rfl (op_load_ptr1 (.e rfl) rfl rfl sc3) ?_
  refine AL.s rfl (op_eql (.r rfl) (.r rfl)) ?_
  refine AL.s rfl (op_moveD (.e rfl)) ?_
  refine AL.sF rfl rfl rfl rfl (fun g => op_field_ptr (.e rfl) fd47_0) ?_
  refine AL.sF rfl rfl rfl rfl (fun g => op_load_ptr1 (.we (nt g) rfl) rfl rfl sc3) ?_
  refine AL.sF rfl rfl rfl rfl (fun g => op_eql (.we (nt g) rfl rfl) (.r rfl)) ?_
  refine AL.s rfl (op_or (.r rfl) rfl (fun h => (.we (nt h) rfl rfl))) ?_
  refine AL.s rfl (op_assignD (.e rfl)) ?_
  refine AL.nil ?_
  refine AW.seq ?_
  refine AW.block ?_
  refine AW.seqR ?_
  refine AL.s rfl (op_load_ptrA (.e rfl) rfl rfl rfl ag26) ?_
  obtain ⟨v3, hv3, hm⟩ := bindE hm
  refine AL.s rfl (op_fn Try.call23 (.e rfl) (.cons (.r rfl) .nil) (m_request_Valid_ok hv3)) ?_
  refine AL.s rfl (op_not (.r rfl)) ?_
  refine AL.s rfl (op_moveD (.e rfl)) ?_
  refine AL.sF rfl rfl rfl rfl (fun g => op_field_ptr (.e rfl) fd47_0) ?_
  refine AL.sF rfl rfl rfl rfl (fun g => op_load_ptr1 (.we (nt g) rfl) rfl rfl sc3) ?_
  obtain ⟨v4, hv4, hm⟩ := bindE hm
  refine AL.sF rfl rfl rfl rfl (fun g => op_fn Try.call9 (.e rfl) (.cons (.we (nt g) rfl rfl) (.cons (.r rfl) (.cons (.r rfl) .nil))) (m_request_in_ok (iteT (nt g) hv4))) ?_
  refine AL.sF rfl rfl rfl rfl (fun g => op_not (.we (nt g) rfl rfl)) ?_
  refine AL.s rfl (op_or (.r rfl) rfl (fun h => (.we (nt h) rfl rfl))) ?_
  refine AL.s rfl (op_moveD (.e rfl)) ?_
  refine AL.sF rfl rfl rfl rfl (fun g => op_field_ptr (.e rfl) fd47_0) ?_
  refine AL.sF rfl rfl rfl rfl (fun g => op_load_ptr1 (.we (nt g) rfl) rfl rfl sc3) ?_
  refine AL.sF rfl rfl rfl rfl (fun g => op_neq (.we (nt g) rfl rfl) (.r rfl)) ?_
  refine AL.sF rfl rfl rfl rfl (fun g => op_moveD (.we (nt g) rfl)) ?_
  refine AL.sTT rfl rfl rfl rfl (fun gp g => op_field_ptr (.e rfl) fd47_2) ?_
  refine AL.sTT rfl rfl rfl rfl (fun gp g => op_load_ptr1 (.we (an gp g) rfl) rfl rfl sc9) ?_
  refine AL.sTT rfl rfl rfl rfl (fun gp g => op_neqS (.we (an gp g) rfl rfl) (.r rfl)) ?_
  refine AL.sF rfl rfl rfl rfl (fun g => op_and (.we (nt g) rfl rfl) (fun h => (.we (an (nt g) h) rfl rfl)) rfl) ?_
  refine AL.s rfl (op_or (.r rfl) rfl (fun h => (.we (nt h) rfl rfl))) ?_
  refine AL.s rfl (op_moveD (.e rfl)) ?_
  refine AL.sF rfl rfl rfl rfl (fun g => op_moveD (.e rfl)) ?_
  refine AL.sF rfl rfl rfl rfl (fun g => op_not (.we (nt g) rfl rfl)) ?_
  refine AL.sF rfl rfl rfl rfl (fun g => op_moveD (.we (nt g) rfl)) ?_
  refine AL.sTT rfl rfl rfl rfl (fun gp g => op_field_ptr (.e rfl) fd47_3) ?_
  refine AL.sTT rfl rfl rfl rfl (fun gp g => op_load_ptr1 (.we (an gp g) rfl) rfl rfl sc3) ?_
  refine AL.sTT rfl rfl rfl rfl (fun gp g => op_neq (.we (an gp g) rfl rfl) (.r rfl)) ?_
  refine AL.sF rfl rfl rfl rfl (fun g => op_and (.we (nt g) rfl rfl) (fun h => (.we (an (nt g) h) rfl rfl)) rfl) ?_
  refine AL.s rfl (op_or (.r rfl) rfl (fun h => (.we (nt h) rfl rfl))) ?_
  refine AL.s rfl (op_assignD (.e rfl)) ?_
  refine AL.nil ?_
  refine AW.cond (b := _) rfl (fun hc1 => ?_) (fun hc1 => ?_)
  · replace hm := iteT hc1 hm
    refine AW.seqR ?_
    refine AL.s rfl (op_build bd26 .nil) ?_
    refine AL.s rfl (op_storeA (.e rfl) (.e rfl) rfl rfl ⟨_, rfl, rfl⟩ rfl (Nat.le_of_ble_eq_true rfl)) ?_
    refine AL.s rfl (op_assignD (.e rfl)) ?_
    refine AL.nil ?_
    refine AW.ret ?_
    refine bq_ret ?_
    refine tq_ret ?_
    obtain rfl := Option.some.inj hm
    exact EndQ.d (.cellA (.e rfl) rfl rfl rfl ag26 (.tmp (.e rfl) .nil)) rfl rfl
  · replace hm := iteF hc1 hm
    refine AW.reset 0 [(2, .ptr 0 0), (3, .ptr 1 0), (4, .ptr 2 0)] [.row [.d (.int .i64 a1.fID), .d (.int .i64 a1.fWork), .d (.str a1.fLibrary), .d (.int .i64 a1.fState), .d (.int .i64 a1.fTime), .d (.str a1.fLender), .d (.sl (a1.fTried.map D.str)), .d (.int .i64 a1.fDue), .d (.int .i64 a1.fRenewals)], .row [.d (.int .i64 a2.fKind), .d (.int .i64 a2.fTime), .d (.str a2.fLender), .d (.int .i64 a2.fDue)], .row [.d (.int .i64 (0 : Int)), .d (.int .i64 (0 : Int)), .d (.str ([] : List UInt8)), .d (.int .i64 (0 : Int)), .d (.int .i64 (0 : Int)), .d (.str ([] : List UInt8)), .ex ([].map D.str), .d (.int .i64 (0 : Int)), .d (.int .i64 (0 : Int))]] (WOK.g0 hw0 (by simp)) ⟨[0, 1, 2], rfl, rfl, rfl, ⟨(.ptr rfl), (.ptr rfl), (.ptr rfl), trivial⟩, trivial, (.row rfl (.cons (.d rfl) (.cons (.d rfl) (.cons (.d rfl) (.cons (.d rfl) (.cons (.d rfl) (.cons (.d rfl) (.cons (.d rfl) (.cons (.d rfl) (.cons (.d rfl) .nil))))))))) (.row rfl (.cons (.d rfl) (.cons (.d rfl) (.cons (.d rfl) (.cons (.d rfl) .nil)))) (.row rfl (.cons (.d rfl) (.cons (.d rfl) (.cons (.d rfl) (.cons (.d rfl) (.cons (.d rfl) (.cons (.d rfl) (.cons .ex (.cons (.d rfl) (.cons (.d rfl) .nil))))))))) .nil)))⟩ ?_
    refine AW.seqD [([], []), ([0], []), ([], []), ([], []), ([1], []), ([], []), ([], []), ([], [])] mo (by decide +kernel) ?_
    refine AD.s (ws := []) rfl rfl (fun H' _ hH => op_field_ptr (.e rfl) fd26_3) ?_
    refine AD.s (ws := []) rfl rfl (fun H' _ hH => op_load_ptr1 (.e rfl) ((hH _ (by simp)).trans rfl) rfl sc3) ?_
    obtain ⟨v5, hv5, hm⟩ := bindE hm
    refine AD.s (ws := []) rfl rfl (fun H' _ hH => op_fn Try.call25 (.e rfl) (.cons (.r rfl) .nil) (m_request_Kinds_ok hv5)) ?_
    refine AD.s (ws := []) rfl rfl (fun H' _ hH => op_field_ptr (.e rfl) fd47_0) ?_
    refine AD.s (ws := []) rfl rfl (fun H' _ hH => op_load_ptr1 (.e rfl) ((hH _ (by simp)).trans rfl) rfl sc3) ?_
    obtain ⟨v6, hv6, hm⟩ := bindE hm
    refine AD.s (ws := []) rfl rfl (fun H' _ hH => op_fn Try.call24 (.e rfl) (.cons (.r rfl) (.cons (.r rfl) .nil)) (m_slices_Contains_int_int_ok hv6)) ?_
    refine AD.s (ws := []) rfl rfl (fun H' _ hH => op_not (.r rfl)) ?_
    refine AD.s (ws := []) rfl rfl (fun H' _ hH => op_assignD (.e rfl)) ?_
    refine AD.nil ?_
    refine AW.cond (b := _) rfl (fun hc2 => ?_) (fun hc2 => ?_)
    · replace hm := iteT hc2 hm
      refine AW.seqR ?_
      refine AL.s rfl (op_build bd26 .nil) ?_
      refine AL.s rfl (op_storeA (.e rfl) (.e rfl) rfl rfl ⟨_, rfl, rfl⟩ rfl (Nat.le_of_ble_eq_true rfl)) ?_
      refine AL.s rfl (op_assignD (.e rfl)) ?_
      refine AL.nil ?_
      refine AW.ret ?_
      refine bq_ret ?_
      refine tq_ret ?_
      obtain rfl := Option.some.inj hm
      exact EndQ.d (.cellA (.e rfl) rfl rfl rfl ag26 (.tmp (.e rfl) .nil)) rfl rfl
    · replace hm := iteF hc2 hm
      refine AW.seqR ?_
      refine AL.s rfl (op_field_ptr (.e rfl) fd47_1) ?_
      refine AL.s rfl (op_load_ptr1 (.e rfl) rfl rfl sc3) ?_
      refine AL.s rfl (op_field_ptr (.e rfl) fd26_4) ?_
      refine AL.s rfl (op_load_ptr1 (.e rfl) rfl rfl sc3) ?_
      refine AL.s rfl (op_lss (.r rfl) (.r rfl)) ?_
      refine AL.s rfl (op_moveD (.e rfl)) ?_
      refine AL.sF rfl rfl rfl rfl (fun g => op_field_ptr (.e rfl) fd47_1) ?_
      refine AL.sF rfl rfl rfl rfl (fun g => op_load_ptr1 (.we (nt g) rfl) rfl rfl sc3) ?_
      refine AL.sF rfl rfl rfl rfl (fun g => op_gtr (.we (nt g) rfl rfl) (.r rfl)) ?_
      refine AL.s rfl (op_or (.r rfl) rfl (fun h => (.we (nt h) rfl rfl))) ?_
      refine AL.s rfl (op_assignD (.e rfl)) ?_
      refine AL.nil ?_
      refine AW.cond (b := _) rfl (fun hc3 => ?_) (fun hc3 => ?_)
      · replace hm := iteT hc3 hm
        refine AW.seqR ?_
        refine AL.s rfl (op_build bd26 .nil) ?_
        refine AL.s rfl (op_storeA (.e rfl) (.e rfl) rfl rfl ⟨_, rfl, rfl⟩ rfl (Nat.le_of_ble_eq_true rfl)) ?_
        refine AL.s rfl (op_assignD (.e rfl)) ?_
        refine AL.nil ?_
        refine AW.ret ?_
        refine bq_ret ?_
        refine tq_ret ?_
        obtain rfl := Option.some.inj hm
        exact EndQ.d (.cellA (.e rfl) rfl rfl rfl ag26 (.tmp (.e rfl) .nil)) rfl rfl
      · replace hm := iteF hc3 hm
        refine AW.skip ?_
        refine bq_n ?_
        refine nq ?_
        refine AW.seq ?_
        refine AW.seqR ?_
        refine AL.s rfl (op_load_ptrA (.e rfl) rfl rfl rfl ag26) ?_
        refine AL.s rfl (op_load_ptrA (.e rfl) rfl rfl rfl ag47) ?_
        obtain ⟨v7, hv7, hm⟩ := bindE hm
        refine AL.s rfl (op_fn Try.call26 (.e rfl) (.cons (.r rfl) (.cons (.r rfl) .nil)) (m_request_refused_ok hv7)) ?_
        refine AL.s rfl (op_assignD (.e rfl)) ?_
        refine AL.nil ?_
        refine AW.seqR ?_
        refine AL.s rfl (op_moveD (.e rfl)) ?_
        refine AL.s rfl (op_neq (.r rfl) (.r rfl)) ?_
        refine AL.nil ?_
        refine AW.cond (b := _) rfl (fun hc4 => ?_) (fun hc4 => ?_)
        · replace hm := iteT hc4 hm
          refine AW.seqR ?_
          refine AL.s rfl (op_build bd26 .nil) ?_
          refine AL.s rfl (op_moveD (.e rfl)) ?_
          refine AL.s rfl (op_storeA (.e rfl) (.e rfl) rfl rfl ⟨_, rfl, rfl⟩ rfl (Nat.le_of_ble_eq_true rfl)) ?_
          refine AL.s rfl (op_assignD (.e rfl)) ?_
          refine AL.nil ?_
          refine AW.ret ?_
          refine tq_ret ?_
          obtain rfl := Option.some.inj hm
          exact EndQ.d (.cellA (.e rfl) rfl rfl rfl ag26 (.tmp (.e rfl) .nil)) rfl rfl
        · replace hm := iteF hc4 hm
          refine AW.skip ?_
          refine nq ?_
          refine AW.seqR ?_
          refine AL.s rfl (op_field_ptr (.e rfl) fd26_6) ?_
          refine AL.s rfl (op_load_ptr1 (.e rfl) rfl rfl sc24) ?_
          obtain ⟨v8, hv8, hm⟩ := bindE hm
          refine AL.s rfl (op_callF (v := .hs 3 0 v8.length 1) (H' := [.row [.d (.int .i64 a1.fID), .d (.int .i64 a1.fWork), .d (.str a1.fLibrary), .d (.int .i64 a1.fState), .d (.int .i64 a1.fTime), .d (.str a1.fLender), .d (.sl (a1.fTried.map D.str)), .d (.int .i64 a1.fDue), .d (.int .i64 a1.fRenewals)], .row [.d (.int .i64 a2.fKind), .d (.int .i64 a2.fTime), .d (.str a2.fLender), .d (.int .i64 a2.fDue)], .row [.d (.int .i64 (0 : Int)), .d (.int .i64 (0 : Int)), .d (.str ([] : List UInt8)), .d (.int .i64 (0 : Int)), .d (.int .i64 (0 : Int)), .d (.str ([] : List UInt8)), .ex ([].map D.str), .d (.int .i64 (0 : Int)), .d (.int .i64 (0 : Int))], .lst (v8.map D.str) 9 1]) [] Try.call27 (.e rfl) (.cons (.e rfl) .nil) (m_slices_Clone_string_string_ok hv8) rfl .nil rfl rfl rfl rfl rfl rfl rfl rfl) ?_
          refine AL.s rfl (op_field_ptr (.e rfl) fd26_6) ?_
          refine AL.s rfl (op_store (.e rfl) (.e rfl) rfl rfl rfl ⟨_, rfl, rfl⟩ rfl (Nat.le_of_ble_eq_true rfl)) ?_
          refine AL.nil ?_
          refine AW.seqR ?_
          refine AL.s rfl (op_field_ptr (.e rfl) fd47_1) ?_
          refine AL.s rfl (op_load_ptr1 (.e rfl) rfl rfl sc3) ?_
          refine AL.s rfl (op_field_ptr (.e rfl) fd26_4) ?_
          refine AL.s rfl (op_storeD (.e rfl) (.e rfl) rfl rfl rfl ⟨_, rfl, rfl⟩ (Nat.le_of_ble_eq_true rfl)) ?_
          refine AL.nil ?_
          obtain ⟨t_j1, hm, hkj1⟩ := bindE hm
          refine AW.cutS (α := (Int × (List UInt8) × Int × Int × (List (List UInt8)))) 0 (fun x => x = t_j1) (fun x => [(2, .ptr 0 0), (4, .ptr 2 0)]) (fun x => [.row [.d (.int .i64 a1.fID), .d (.int .i64 a1.fWork), .d (.str a1.fLibrary), .d (.int .i64 x.1), .d (.int .i64 a2.fTime), .d (.str x.2.1), .hs 3 0 x.2.2.2.2.length 1, .d (.int .i64 x.2.2.1), .d (.int .i64 x.2.2.2.1)], .row [.d (.int .i64 a2.fKind), .d (.int .i64 a2.fTime), .d (.str a2.fLender), .d (.int .i64 a2.fDue)], .row [.d (.int .i64 (0 : Int)), .d (.int .i64 (0 : Int)), .d (.str ([] : List UInt8)), .d (.int .i64 (0 : Int)), .d (.int .i64 (0 : Int)), .d (.str ([] : List UInt8)), .ex ([].map D.str), .d (.int .i64 (0 : Int)), .d (.int .i64 (0 : Int))], .lst (x.2.2.2.2.map D.str) 9 1]) (WOK.g0 hw0 (by simp)) ?_ ?_
          · skip
            refine AW.reset 0 [(2, .ptr 0 0), (3, .ptr 1 0), (4, .ptr 2 0)] [.row [.d (.int .i64 a1.fID), .d (.int .i64 a1.fWork), .d (.str a1.fLibrary), .d (.int .i64 a1.fState), .d (.int .i64 a2.fTime), .d (.str a1.fLender), .hs 3 0 v8.length 1, .d (.int .i64 a1.fDue), .d (.int .i64 a1.fRenewals)], .row [.d (.int .i64 a2.fKind), .d (.int .i64 a2.fTime), .d (.str a2.fLender), .d (.int .i64 a2.fDue)], .row [.d (.int .i64 (0 : Int)), .d (.int .i64 (0 : Int)), .d (.str ([] : List UInt8)), .d (.int .i64 (0 : Int)), .d (.int .i64 (0 : Int)), .d (.str ([] : List UInt8)), .ex ([].map D.str), .d (.int .i64 (0 : Int)), .d (.int .i64 (0 : Int))], .lst (v8.map D.str) 9 1] (WOK.g0 hw0 (by simp)) ⟨[0, 1, 2, 3], rfl, rfl, rfl, ⟨(.ptr rfl), (.ptr rfl), (.ptr rfl), trivial⟩, trivial, (.row rfl (.cons (.d rfl) (.cons (.d rfl) (.cons (.d rfl) (.cons (.d rfl) (.cons (.d rfl) (.cons (.d rfl) (.cons (.hs rfl rfl) (.cons (.d rfl) (.cons (.d rfl) .nil))))))))) (.row rfl (.cons (.d rfl) (.cons (.d rfl) (.cons (.d rfl) (.cons (.d rfl) .nil)))) (.row rfl (.cons (.d rfl) (.cons (.d rfl) (.cons (.d rfl) (.cons (.d rfl) (.cons (.d rfl) (.cons (.d rfl) (.cons .ex (.cons (.d rfl) (.cons (.d rfl) .nil))))))))) (.lst rfl .nil))))⟩ ?_
            refine AW.seqR ?_
            refine AL.s rfl (op_field_ptr (.e rfl) fd47_0) ?_
            refine AL.s rfl (op_load_ptr1 (.e rfl) rfl rfl sc3) ?_
            refine AL.nil ?_
            refine AW.block ?_
            refine AW.seqR ?_
            refine AL.s rfl (op_eql (.r rfl) (.r rfl)) ?_
            refine AL.s rfl (op_assignD (.e rfl)) ?_
            refine AL.nil ?_
            refine AW.cond (b := _) rfl (fun hc5 => ?_) (fun hc5 => ?_)
            · replace hm := iteT hc5 hm
              refine AW.drawn [([], []), ([1], []), ([], []), ([0], [0]), ([], []), ([0], [0])] mo (by decide +kernel) ?_
              refine AD.s (ws := []) rfl rfl (fun H' _ hH => op_field_ptr (.e rfl) fd47_2) ?_
              refine AD.s (ws := []) rfl rfl (fun H' _ hH => op_load_ptr1 (.e rfl) ((hH _ (by simp)).trans rfl) rfl sc9) ?_
              refine AD.s (ws := []) rfl rfl (fun H' _ hH => op_field_ptr (.e rfl) fd26_3) ?_
              refine AD.s (ws := [(0, _)]) rfl rfl (fun H' _ hH => op_storeD (.e rfl) (.e rfl) ((hH _ (by simp)).trans rfl) rfl rfl ⟨_, rfl, rfl⟩ (Nat.le_of_ble_eq_true rfl)) ?_
              refine AD.s (ws := []) rfl rfl (fun H' _ hH => op_field_ptr (.e rfl) fd26_5) ?_
              refine AD.s (ws := [(0, _)]) rfl rfl (fun H' _ hH => op_storeD (.e rfl) (.e rfl) ((hH _ (by simp)).trans rfl) rfl rfl ⟨_, rfl, rfl⟩ (Nat.le_of_ble_eq_true rfl)) ?_
              refine AD.nil ?_
              refine bq_n ?_
              obtain rfl := Option.some.inj hm
              exact nq ⟨_, rfl, ⟨[0, 1, 2, 3], rfl, rfl, rfl, ⟨(.ptr rfl), (.ptr rfl), trivial⟩, trivial, (.row rfl (.cons (.d rfl) (.cons (.d rfl) (.cons (.d rfl) (.cons (.d rfl) (.cons (.d rfl) (.cons (.d rfl) (.cons (.hs rfl rfl) (.cons (.d rfl) (.cons (.d rfl) .nil))))))))) (.row rfl (.cons (.d rfl) (.cons (.d rfl) (.cons (.d rfl) (.cons (.d rfl) .nil)))) (.row rfl (.cons (.d rfl) (.cons (.d rfl) (.cons (.d rfl) (.cons (.d rfl) (.cons (.d rfl) (.cons (.d rfl) (.cons .ex (.cons (.d rfl) (.cons (.d rfl) .nil))))))))) (.lst rfl .nil))))⟩⟩
            · replace hm := iteF hc5 hm
              refine AW.seqR ?_
              refine AL.s rfl (op_eql (.r rfl) (.r rfl)) ?_
              refine AL.s rfl (op_assignD (.e rfl)) ?_
              refine AL.nil ?_
              refine AW.cond (b := _) rfl (fun hc6 => ?_) (fun hc6 => ?_)
              · replace hm := iteT hc6 hm
                refine AW.region ?_
                refine AL.s rfl (op_field_ptr (.e rfl) fd26_6) ?_
                refine AL.s rfl (op_load_ptr1 (.e rfl) rfl rfl sc24) ?_
                refine AL.s rfl (op_field_ptr (.e rfl) fd26_5) ?_
                refine AL.s rfl (op_load_ptr1 (.e rfl) rfl rfl sc9) ?_
                refine AL.s rfl (op_buildSlice (ds := ([a1.fLender] : List (List UInt8)).map D.str) sl24 (.cons (.r rfl) rfl (En.str.one _) .nil) rfl (by decide)) ?_
                obtain ⟨v9, hv9, hm⟩ := bindE hm
                refine AL.s rfl (op_appendHM (n := 4) (f := D.str) (l := v8) (l' := ([a1.fLender] : List (List UInt8))) sl24 (.e rfl) (.r rfl) rfl rfl rfl En.str hv9) ?_
                refine AL.s rfl (op_field_ptr (.e rfl) fd26_3) ?_
                refine AL.s rfl (op_storeD (.e rfl) (.e rfl) rfl rfl rfl ⟨_, rfl, rfl⟩ (Nat.le_of_ble_eq_true rfl)) ?_
                refine AL.s rfl (op_field_ptr (.e rfl) fd26_6) ?_
                refine AL.s rfl (op_store (.e rfl) (.e rfl) rfl rfl rfl ⟨_, rfl, rfl⟩ rfl (Nat.le_of_ble_eq_true rfl)) ?_
                refine AL.s rfl (op_field_ptr (.e rfl) fd26_5) ?_
                refine AL.s rfl (op_storeD (.e rfl) (.e rfl) rfl rfl rfl ⟨_, rfl, rfl⟩ (Nat.le_of_ble_eq_true rfl)) ?_
                refine AL.nil ?_
                refine bq_n ?_
                obtain rfl := Option.some.inj hm
                exact nq ⟨_, rfl, ⟨[0, 1, 2, 4], rfl, rfl, rfl, ⟨(.ptr rfl), (.ptr rfl), trivial⟩, trivial, (.row rfl (.cons (.d rfl) (.cons (.d rfl) (.cons (.d rfl) (.cons (.d rfl) (.cons (.d rfl) (.cons (.d rfl) (.cons (.hs rfl rfl) (.cons (.d rfl) (.cons (.d rfl) .nil))))))))) (.row rfl (.cons (.d rfl) (.cons (.d rfl) (.cons (.d rfl) (.cons (.d rfl) .nil)))) (.row rfl (.cons (.d rfl) (.cons (.d rfl) (.cons (.d rfl) (.cons (.d rfl) (.cons (.d rfl) (.cons (.d rfl) (.cons .ex (.cons (.d rfl) (.cons (.d rfl) .nil))))))))) (.lst rfl .nil))))⟩⟩
              · replace hm := iteF hc6 hm
                refine AW.seqR ?_
                refine AL.s rfl (op_eql (.r rfl) (.r rfl)) ?_
                refine AL.s rfl (op_assignD (.e rfl)) ?_
                refine AL.nil ?_
                refine AW.cond (b := _) rfl (fun hc7 => ?_) (fun hc7 => ?_)
                · replace hm := iteT hc7 hm
                  refine AW.region ?_
                  refine AL.s rfl (op_field_ptr (.e rfl) fd26_3) ?_
                  refine AL.s rfl (op_storeD (.e rfl) (.e rfl) rfl rfl rfl ⟨_, rfl, rfl⟩ (Nat.le_of_ble_eq_true rfl)) ?_
                  refine AL.nil ?_
                  refine bq_n ?_
                  obtain rfl := Option.some.inj hm
                  exact nq ⟨_, rfl, ⟨[0, 1, 2, 3], rfl, rfl, rfl, ⟨(.ptr rfl), (.ptr rfl), trivial⟩, trivial, (.row rfl (.cons (.d rfl) (.cons (.d rfl) (.cons (.d rfl) (.cons (.d rfl) (.cons (.d rfl) (.cons (.d rfl) (.cons (.hs rfl rfl) (.cons (.d rfl) (.cons (.d rfl) .nil))))))))) (.row rfl (.cons (.d rfl) (.cons (.d rfl) (.cons (.d rfl) (.cons (.d rfl) .nil)))) (.row rfl (.cons (.d rfl) (.cons (.d rfl) (.cons (.d rfl) (.cons (.d rfl) (.cons (.d rfl) (.cons (.d rfl) (.cons .ex (.cons (.d rfl) (.cons (.d rfl) .nil))))))))) (.lst rfl .nil))))⟩⟩
                · replace hm := iteF hc7 hm
                  refine AW.seqR ?_
                  refine AL.s rfl (op_eql (.r rfl) (.r rfl)) ?_
                  refine AL.s rfl (op_assignD (.e rfl)) ?_
                  refine AL.nil ?_
                  refine AW.cond (b := _) rfl (fun hc8 => ?_) (fun hc8 => ?_)
                  · replace hm := iteT hc8 hm
                    refine AW.drawn [([], []), ([1], []), ([], []), ([0], [0]), ([], []), ([0], [0])] mo (by decide +kernel) ?_
                    refine AD.s (ws := []) rfl rfl (fun H' _ hH => op_field_ptr (.e rfl) fd47_3) ?_
                    refine AD.s (ws := []) rfl rfl (fun H' _ hH => op_load_ptr1 (.e rfl) ((hH _ (by simp)).trans rfl) rfl sc3) ?_
                    refine AD.s (ws := []) rfl rfl (fun H' _ hH => op_field_ptr (.e rfl) fd26_3) ?_
                    refine AD.s (ws := [(0, _)]) rfl rfl (fun H' _ hH => op_storeD (.e rfl) (.e rfl) ((hH _ (by simp)).trans rfl) rfl rfl ⟨_, rfl, rfl⟩ (Nat.le_of_ble_eq_true rfl)) ?_
                    refine AD.s (ws := []) rfl rfl (fun H' _ hH => op_field_ptr (.e rfl) fd26_7) ?_
                    refine AD.s (ws := [(0, _)]) rfl rfl (fun H' _ hH => op_storeD (.e rfl) (.e rfl) ((hH _ (by simp)).trans rfl) rfl rfl ⟨_, rfl, rfl⟩ (Nat.le_of_ble_eq_true rfl)) ?_
                    refine AD.nil ?_
                    refine bq_n ?_
                    obtain rfl := Option.some.inj hm
                    exact nq ⟨_, rfl, ⟨[0, 1, 2, 3], rfl, rfl, rfl, ⟨(.ptr rfl), (.ptr rfl), trivial⟩, trivial, (.row rfl (.cons (.d rfl) (.cons (.d rfl) (.cons (.d rfl) (.cons (.d rfl) (.cons (.d rfl) (.cons (.d rfl) (.cons (.hs rfl rfl) (.cons (.d rfl) (.cons (.d rfl) .nil))))))))) (.row rfl (.cons (.d rfl) (.cons (.d rfl) (.cons (.d rfl) (.cons (.d rfl) .nil)))) (.row rfl (.cons (.d rfl) (.cons (.d rfl) (.cons (.d rfl) (.cons (.d rfl) (.cons (.d rfl) (.cons (.d rfl) (.cons .ex (.cons (.d rfl) (.cons (.d rfl) .nil))))))))) (.lst rfl .nil))))⟩⟩
                  · replace hm := iteF hc8 hm
                    refine AW.seqR ?_
                    refine AL.s rfl (op_eql (.r rfl) (.r rfl)) ?_
                    refine AL.s rfl (op_assignD (.e rfl)) ?_
                    refine AL.nil ?_
                    refine AW.cond (b := _) rfl (fun hc9 => ?_) (fun hc9 => ?_)
                    · replace hm := iteT hc9 hm
                      refine AW.seqR ?_
                      refine AL.s rfl (op_field_ptr (.e rfl) fd47_3) ?_
                      refine AL.s rfl (op_load_ptr1 (.e rfl) rfl rfl sc3) ?_
                      refine AL.s rfl (op_field_ptr (.e rfl) fd26_7) ?_
                      refine AL.s rfl (op_storeD (.e rfl) (.e rfl) rfl rfl rfl ⟨_, rfl, rfl⟩ (Nat.le_of_ble_eq_true rfl)) ?_
                      refine AL.nil ?_
                      refine AW.region ?_
                      refine AL.s rfl (op_field_ptr (.e rfl) fd26_8) ?_
                      refine AL.s rfl (op_load_ptr1 (.e rfl) rfl rfl sc3) ?_
                      refine AL.s rfl (op_addw (.r rfl) (.r rfl)) ?_
                      refine AL.s rfl (op_field_ptr (.e rfl) fd26_8) ?_
                      refine AL.s rfl (op_storeD (.e rfl) (.e rfl) rfl rfl rfl ⟨_, rfl, rfl⟩ (Nat.le_of_ble_eq_true rfl)) ?_
                      refine AL.nil ?_
                      refine bq_n ?_
                      obtain rfl := Option.some.inj hm
                      exact nq ⟨_, rfl, ⟨[0, 1, 2, 3], rfl, rfl, rfl, ⟨(.ptr rfl), (.ptr rfl), trivial⟩, trivial, (.row rfl (.cons (.d rfl) (.cons (.d rfl) (.cons (.d rfl) (.cons (.d rfl) (.cons (.d rfl) (.cons (.d rfl) (.cons (.hs rfl rfl) (.cons (.d rfl) (.cons (.d rfl) .nil))))))))) (.row rfl (.cons (.d rfl) (.cons (.d rfl) (.cons (.d rfl) (.cons (.d rfl) .nil)))) (.row rfl (.cons (.d rfl) (.cons (.d rfl) (.cons (.d rfl) (.cons (.d rfl) (.cons (.d rfl) (.cons (.d rfl) (.cons .ex (.cons (.d rfl) (.cons (.d rfl) .nil))))))))) (.lst rfl .nil))))⟩⟩
                    · replace hm := iteF hc9 hm
                      refine AW.reset 0 [(2, .ptr 0 0), (3, .ptr 1 0), (4, .ptr 2 0), (82, .d (.int .i64 a2.fKind))] [.row [.d (.int .i64 a1.fID), .d (.int .i64 a1.fWork), .d (.str a1.fLibrary), .d (.int .i64 a1.fState), .d (.int .i64 a2.fTime), .d (.str a1.fLender), .hs 3 0 v8.length 1, .d (.int .i64 a1.fDue), .d (.int .i64 a1.fRenewals)], .row [.d (.int .i64 a2.fKind), .d (.int .i64 a2.fTime), .d (.str a2.fLender), .d (.int .i64 a2.fDue)], .row [.d (.int .i64 (0 : Int)), .d (.int .i64 (0 : Int)), .d (.str ([] : List UInt8)), .d (.int .i64 (0 : Int)), .d (.int .i64 (0 : Int)), .d (.str ([] : List UInt8)), .ex ([].map D.str), .d (.int .i64 (0 : Int)), .d (.int .i64 (0 : Int))], .lst (v8.map D.str) 9 1] (WOK.g0 hw0 (by simp)) ⟨[0, 1, 2, 3], rfl, rfl, rfl, ⟨(.ptr rfl), (.ptr rfl), (.ptr rfl), (.d rfl), trivial⟩, trivial, (.row rfl (.cons (.d rfl) (.cons (.d rfl) (.cons (.d rfl) (.cons (.d rfl) (.cons (.d rfl) (.cons (.d rfl) (.cons (.hs rfl rfl) (.cons (.d rfl) (.cons (.d rfl) .nil))))))))) (.row rfl (.cons (.d rfl) (.cons (.d rfl) (.cons (.d rfl) (.cons (.d rfl) .nil)))) (.row rfl (.cons (.d rfl) (.cons (.d rfl) (.cons (.d rfl) (.cons (.d rfl) (.cons (.d rfl) (.cons (.d rfl) (.cons .ex (.cons (.d rfl) (.cons (.d rfl) .nil))))))))) (.lst rfl .nil))))⟩ ?_
                      refine AW.seqR ?_
                      refine AL.s rfl (op_eql (.r rfl) (.r rfl)) ?_
                      refine AL.s rfl (op_assignD (.e rfl)) ?_
                      refine AL.nil ?_
                      refine AW.cond (b := _) rfl (fun hc10 => ?_) (fun hc10 => ?_)
                      · replace hm := iteT hc10 hm
                        refine AW.drawn [([], []), ([0], []), ([], []), ([1], []), ([], []), ([], []), ([], []), ([0], [0]), ([], []), ([0], [0])] mo (by decide +kernel) ?_
                        refine AD.s (ws := []) rfl rfl (fun H' _ hH => op_field_ptr (.e rfl) fd26_7) ?_
                        refine AD.s (ws := []) rfl rfl (fun H' _ hH => op_load_ptr1 (.e rfl) ((hH _ (by simp)).trans rfl) rfl sc3) ?_
                        refine AD.s (ws := []) rfl rfl (fun H' _ hH => op_field_ptr (.e rfl) fd47_1) ?_
                        refine AD.s (ws := []) rfl rfl (fun H' _ hH => op_load_ptr1 (.e rfl) ((hH _ (by simp)).trans rfl) rfl sc3) ?_
                        refine AD.s (ws := []) rfl rfl (fun H' _ hH => op_addw (.r rfl) (.r rfl)) ?_
                        refine AD.s (ws := []) rfl rfl (fun H' _ hH => op_min (.r rfl) (.r rfl)) ?_
                        refine AD.s (ws := []) rfl rfl (fun H' _ hH => op_field_ptr (.e rfl) fd26_3) ?_
                        refine AD.s (ws := [(0, _)]) rfl rfl (fun H' _ hH => op_storeD (.e rfl) (.e rfl) ((hH _ (by simp)).trans rfl) rfl rfl ⟨_, rfl, rfl⟩ (Nat.le_of_ble_eq_true rfl)) ?_
                        refine AD.s (ws := []) rfl rfl (fun H' _ hH => op_field_ptr (.e rfl) fd26_7) ?_
                        refine AD.s (ws := [(0, _)]) rfl rfl (fun H' _ hH => op_storeD (.e rfl) (.e rfl) ((hH _ (by simp)).trans rfl) rfl rfl ⟨_, rfl, rfl⟩ (Nat.le_of_ble_eq_true rfl)) ?_
                        refine AD.nil ?_
                        refine bq_n ?_
                        obtain rfl := Option.some.inj hm
                        exact nq ⟨_, rfl, ⟨[0, 1, 2, 3], rfl, rfl, rfl, ⟨(.ptr rfl), (.ptr rfl), trivial⟩, trivial, (.row rfl (.cons (.d rfl) (.cons (.d rfl) (.cons (.d rfl) (.cons (.d rfl) (.cons (.d rfl) (.cons (.d rfl) (.cons (.hs rfl rfl) (.cons (.d rfl) (.cons (.d rfl) .nil))))))))) (.row rfl (.cons (.d rfl) (.cons (.d rfl) (.cons (.d rfl) (.cons (.d rfl) .nil)))) (.row rfl (.cons (.d rfl) (.cons (.d rfl) (.cons (.d rfl) (.cons (.d rfl) (.cons (.d rfl) (.cons (.d rfl) (.cons .ex (.cons (.d rfl) (.cons (.d rfl) .nil))))))))) (.lst rfl .nil))))⟩⟩
                      · replace hm := iteF hc10 hm
                        refine AW.seqR ?_
                        refine AL.s rfl (op_eql (.r rfl) (.r rfl)) ?_
                        refine AL.s rfl (op_assignD (.e rfl)) ?_
                        refine AL.nil ?_
                        refine AW.cond (b := _) rfl (fun hc11 => ?_) (fun hc11 => ?_)
                        · replace hm := iteT hc11 hm
                          refine AW.region ?_
                          refine AL.s rfl (op_field_ptr (.e rfl) fd26_3) ?_
                          refine AL.s rfl (op_storeD (.e rfl) (.e rfl) rfl rfl rfl ⟨_, rfl, rfl⟩ (Nat.le_of_ble_eq_true rfl)) ?_
                          refine AL.nil ?_
                          refine bq_n ?_
                          obtain rfl := Option.some.inj hm
                          exact nq ⟨_, rfl, ⟨[0, 1, 2, 3], rfl, rfl, rfl, ⟨(.ptr rfl), (.ptr rfl), trivial⟩, trivial, (.row rfl (.cons (.d rfl) (.cons (.d rfl) (.cons (.d rfl) (.cons (.d rfl) (.cons (.d rfl) (.cons (.d rfl) (.cons (.hs rfl rfl) (.cons (.d rfl) (.cons (.d rfl) .nil))))))))) (.row rfl (.cons (.d rfl) (.cons (.d rfl) (.cons (.d rfl) (.cons (.d rfl) .nil)))) (.row rfl (.cons (.d rfl) (.cons (.d rfl) (.cons (.d rfl) (.cons (.d rfl) (.cons (.d rfl) (.cons (.d rfl) (.cons .ex (.cons (.d rfl) (.cons (.d rfl) .nil))))))))) (.lst rfl .nil))))⟩⟩
                        · replace hm := iteF hc11 hm
                          refine AW.seqR ?_
                          refine AL.s rfl (op_eql (.r rfl) (.r rfl)) ?_
                          refine AL.s rfl (op_assignD (.e rfl)) ?_
                          refine AL.nil ?_
                          refine AW.cond (b := _) rfl (fun hc12 => ?_) (fun hc12 => ?_)
                          · replace hm := iteT hc12 hm
                            refine AW.region ?_
                            refine AL.s rfl (op_field_ptr (.e rfl) fd26_3) ?_
                            refine AL.s rfl (op_storeD (.e rfl) (.e rfl) rfl rfl rfl ⟨_, rfl, rfl⟩ (Nat.le_of_ble_eq_true rfl)) ?_
                            refine AL.nil ?_
                            refine bq_n ?_
                            obtain rfl := Option.some.inj hm
                            exact nq ⟨_, rfl, ⟨[0, 1, 2, 3], rfl, rfl, rfl, ⟨(.ptr rfl), (.ptr rfl), trivial⟩, trivial, (.row rfl (.cons (.d rfl) (.cons (.d rfl) (.cons (.d rfl) (.cons (.d rfl) (.cons (.d rfl) (.cons (.d rfl) (.cons (.hs rfl rfl) (.cons (.d rfl) (.cons (.d rfl) .nil))))))))) (.row rfl (.cons (.d rfl) (.cons (.d rfl) (.cons (.d rfl) (.cons (.d rfl) .nil)))) (.row rfl (.cons (.d rfl) (.cons (.d rfl) (.cons (.d rfl) (.cons (.d rfl) (.cons (.d rfl) (.cons (.d rfl) (.cons .ex (.cons (.d rfl) (.cons (.d rfl) .nil))))))))) (.lst rfl .nil))))⟩⟩
                          · replace hm := iteF hc12 hm
                            refine AW.seqR ?_
                            refine AL.s rfl (op_eql (.r rfl) (.r rfl)) ?_
                            refine AL.s rfl (op_assignD (.e rfl)) ?_
                            refine AL.nil ?_
                            refine AW.cond (b := _) rfl (fun hc13 => ?_) (fun hc13 => ?_)
                            · replace hm := iteT hc13 hm
                              refine AW.region ?_
                              refine AL.s rfl (op_field_ptr (.e rfl) fd26_3) ?_
                              refine AL.s rfl (op_storeD (.e rfl) (.e rfl) rfl rfl rfl ⟨_, rfl, rfl⟩ (Nat.le_of_ble_eq_true rfl)) ?_
                              refine AL.s rfl (op_field_ptr (.e rfl) fd26_5) ?_
                              refine AL.s rfl (op_storeD (.e rfl) (.e rfl) rfl rfl rfl ⟨_, rfl, rfl⟩ (Nat.le_of_ble_eq_true rfl)) ?_
                              refine AL.nil ?_
                              refine bq_n ?_
                              obtain rfl := Option.some.inj hm
                              exact nq ⟨_, rfl, ⟨[0, 1, 2, 3], rfl, rfl, rfl, ⟨(.ptr rfl), (.ptr rfl), trivial⟩, trivial, (.row rfl (.cons (.d rfl) (.cons (.d rfl) (.cons (.d rfl) (.cons (.d rfl) (.cons (.d rfl) (.cons (.d rfl) (.cons (.hs rfl rfl) (.cons (.d rfl) (.cons (.d rfl) .nil))))))))) (.row rfl (.cons (.d rfl) (.cons (.d rfl) (.cons (.d rfl) (.cons (.d rfl) .nil)))) (.row rfl (.cons (.d rfl) (.cons (.d rfl) (.cons (.d rfl) (.cons (.d rfl) (.cons (.d rfl) (.cons (.d rfl) (.cons .ex (.cons (.d rfl) (.cons (.d rfl) .nil))))))))) (.lst rfl .nil))))⟩⟩
                            · replace hm := iteF hc13 hm
                              refine AW.seqR ?_
                              refine AL.s rfl (op_eql (.r rfl) (.r rfl)) ?_
                              refine AL.s rfl (op_assignD (.e rfl)) ?_
                              refine AL.nil ?_
                              refine AW.cond (b := _) rfl (fun hc14 => ?_) (fun hc14 => ?_)
                              · replace hm := iteT hc14 hm
                                refine AW.region ?_
                                refine AL.s rfl (op_field_ptr (.e rfl) fd26_3) ?_
                                refine AL.s rfl (op_storeD (.e rfl) (.e rfl) rfl rfl rfl ⟨_, rfl, rfl⟩ (Nat.le_of_ble_eq_true rfl)) ?_
                                refine AL.nil ?_
                                refine bq_n ?_
                                obtain rfl := Option.some.inj hm
                                exact nq ⟨_, rfl, ⟨[0, 1, 2, 3], rfl, rfl, rfl, ⟨(.ptr rfl), (.ptr rfl), trivial⟩, trivial, (.row rfl (.cons (.d rfl) (.cons (.d rfl) (.cons (.d rfl) (.cons (.d rfl) (.cons (.d rfl) (.cons (.d rfl) (.cons (.hs rfl rfl) (.cons (.d rfl) (.cons (.d rfl) .nil))))))))) (.row rfl (.cons (.d rfl) (.cons (.d rfl) (.cons (.d rfl) (.cons (.d rfl) .nil)))) (.row rfl (.cons (.d rfl) (.cons (.d rfl) (.cons (.d rfl) (.cons (.d rfl) (.cons (.d rfl) (.cons (.d rfl) (.cons .ex (.cons (.d rfl) (.cons (.d rfl) .nil))))))))) (.lst rfl .nil))))⟩⟩
                              · replace hm := iteF hc14 hm
                                refine AW.skip ?_
                                refine bq_n ?_
                                obtain rfl := Option.some.inj hm
                                exact nq ⟨_, rfl, ⟨[0, 1, 2, 3], rfl, rfl, rfl, ⟨(.ptr rfl), (.ptr rfl), trivial⟩, trivial, (.row rfl (.cons (.d rfl) (.cons (.d rfl) (.cons (.d rfl) (.cons (.d rfl) (.cons (.d rfl) (.cons (.d rfl) (.cons (.hs rfl rfl) (.cons (.d rfl) (.cons (.d rfl) .nil))))))))) (.row rfl (.cons (.d rfl) (.cons (.d rfl) (.cons (.d rfl) (.cons (.d rfl) .nil)))) (.row rfl (.cons (.d rfl) (.cons (.d rfl) (.cons (.d rfl) (.cons (.d rfl) (.cons (.d rfl) (.cons (.d rfl) (.cons .ex (.cons (.d rfl) (.cons (.d rfl) .nil))))))))) (.lst rfl .nil))))⟩⟩
          · rintro ⟨s10, s11, s12, s13, s14⟩ rfl
            replace hm := hkj1
            try dsimp only at hm
            refine AW.seqR ?_
            refine AL.s rfl (op_load_ptrA (.e rfl) rfl rfl rfl ag26) ?_
            refine AL.s rfl (op_storeA (.e rfl) (.e rfl) rfl rfl ⟨_, rfl, rfl⟩ rfl (Nat.le_of_ble_eq_true rfl)) ?_
            refine AL.s rfl (op_assignD (.e rfl)) ?_
            refine AL.nil ?_
            refine AW.freezeC2 (f := D.str) (l := s14) 3 [] 0 6 2 6 rfl rfl En.str trivial rfl rfl rfl rfl rfl ?_
            refine AW.ret ?_
            obtain rfl := Option.some.inj hm
            exact EndQ.d (.cellA (.e rfl) rfl rfl rfl ag26 (.tmp (.e rfl) .nil)) rfl rfl

set_option maxHeartbeats 20000000 in
theorem m_bookplatetop_WholeRequests_ok {n : Nat} {a1 : (List UInt8)} {a2 : A2} {a3 : (List SLender)} {r : Bool} (hm : m_bookplatetop_WholeRequests n a1 a2 a3 = some r) : Fn Try.prog 3 [(.str a1), (A2.e a2), (.sl (a3.map SLender.e))] (.bool r) := by
  unfold m_bookplatetop_WholeRequests at hm
  refine Fn.of_AW (fnn := Try.f3) Try.func3 rfl (Nat.le_of_ble_eq_true rfl) (fun g0 w0 hw0 => ?_)
  refine AW.reset 0 [(0, .d (.str a1)), (1, .d (A2.e a2)), (2, .d (.sl (a3.map SLender.e)))] [] (WOK.g0 hw0 (by simp)) ⟨[], rfl, rfl, rfl, ⟨(.d rfl), (.d rfl), (.d rfl), trivial⟩, trivial, .nil⟩ ?_
  refine AW.seqR ?_
  refine AL.s rfl (op_box (n := 0) (.e rfl) rfl rfl rfl) ?_
  refine AL.s rfl (op_assignD (.e rfl)) ?_
  refine AL.nil ?_
  refine AW.seqR ?_
  obtain ⟨v4, hv4, hm⟩ := bindE hm
  refine AL.s rfl (op_fn Try.call4 (.e rfl) (.cons (.r rfl) (.cons (.r rfl) (.cons (.r rfl) (.cons (.r rfl) .nil)))) (m_request_New_ok hv4)) ?_
  refine AL.s rfl (op_moveD (.e rfl)) ?_
  refine AL.s rfl (op_extractD (.e rfl) rfl) ?_
  refine AL.s rfl (op_extractD (.e rfl) rfl) ?_
  refine AL.s rfl (op_alloc (n := 1) zr26 rfl) ?_
  refine AL.s rfl (op_store (.e rfl) (.e rfl) rfl rfl rfl ⟨_, rfl, rfl⟩ rfl (Nat.le_of_ble_eq_true rfl)) ?_
  refine AL.s rfl (op_assignD (.e rfl)) ?_
  refine AL.nil ?_
  refine AW.seq ?_
  refine AW.seqR ?_
  refine AL.s rfl (op_moveD (.e rfl)) ?_
  refine AL.s rfl (op_neq (.r rfl) (.r rfl)) ?_
  refine AL.s rfl (op_moveD (.e rfl)) ?_
  refine AL.sF rfl rfl rfl rfl (fun g => op_field_ptr (.e rfl) fd26_3) ?_
  refine AL.sF rfl rfl rfl rfl (fun g => op_load_ptr1 (.we (nt g) rfl) rfl rfl sc3) ?_
  refine AL.sF rfl rfl rfl rfl (fun g => op_neq (.we (nt g) rfl rfl) (.r rfl)) ?_
  refine AL.s rfl (op_or (.r rfl) rfl (fun h => (.we (nt h) rfl rfl))) ?_
  refine AL.nil ?_
  refine AW.cond (b := _) rfl (fun hc1 => ?_) (fun hc1 => ?_)
  · replace hm := iteT hc1 hm
    refine AW.seqR ?_
    refine AL.s rfl (op_assignD (.e rfl)) ?_
    refine AL.nil ?_
    refine AW.ret ?_
    refine tq_ret ?_
    obtain rfl := Option.some.inj hm
    exact EndQ.d (.tmp (.e rfl) .nil) rfl rfl
  · replace hm := iteF hc1 hm
    refine AW.skip ?_
    refine nq ?_
    refine AW.seq ?_
    refine AW.seqR ?_
    refine AL.s rfl (op_moveD (.e rfl)) ?_
    refine AL.s rfl (op_lenM (f := SLender.e) (.r rfl) sl23) ?_
    refine AL.s rfl (op_gtr (.r rfl) (.r rfl)) ?_
    refine AL.s rfl (op_moveD (.e rfl)) ?_
    refine AL.sF rfl rfl rfl rfl (fun g => op_moveD (.e rfl)) ?_
    refine AL.sF rfl rfl rfl rfl (fun g => op_lenS (.we (nt g) rfl rfl) Try.underlying9) ?_
    refine AL.sF rfl rfl rfl rfl (fun g => op_gtr (.we (nt g) rfl rfl) (.r rfl)) ?_
    refine AL.s rfl (op_or (.r rfl) rfl (fun h => (.we (nt h) rfl rfl))) ?_
    refine AL.nil ?_
    refine AW.cond (b := _) rfl (fun hc2 => ?_) (fun hc2 => ?_)
    · replace hm := iteT hc2 hm
      refine AW.seqR ?_
      refine AL.s rfl (op_assignD (.e rfl)) ?_
      refine AL.nil ?_
      refine AW.ret ?_
      refine tq_ret ?_
      obtain rfl := Option.some.inj hm
      exact EndQ.d (.tmp (.e rfl) .nil) rfl rfl
    · replace hm := iteF hc2 hm
      refine AW.skip ?_
      refine nq ?_
      refine AW.seqR ?_
      refine AL.s rfl (op_assignN (.e rfl)) ?_
      refine AL.nil ?_
      refine AW.seq ?_
      refine AW.seqR ?_
      refine AL.s rfl (op_moveD (.e rfl)) ?_
      refine AL.s rfl (op_lenM (f := SLender.e) (.r rfl) sl23) ?_
      refine AL.s rfl (op_moveD (.e rfl)) ?_
      refine AL.nil ?_
      refine AW.block ?_
      refine AW.tokenize (n := 2) 9 33 4 rfl rfl (by simp) ?_
      obtain ⟨t_1, hI1, hk1⟩ := bindE hm
      refine AW.loopS (σ := ((List SLender) × Int)) (τ := (Bool ⊕ (List SLender))) 0 (fun x => [(0, .d (.str a1)), (2, .d (.sl (a3.map SLender.e))), (4, .ptr 0 0), (7, .ptr 1 0), (9, .tk 2 (x.1.map SLender.e)), (41, .d (.sl (a3.map SLender.e))), (42, .d (.int .i64 (a3.length : Int))), (43, .d (.int .i64 x.2))]) (fun x => [.row [.d (.int .i64 a2.e0), .d (.int .i64 a2.e1)], .row [.d (.int .i64 v4.1.fID), .d (.int .i64 v4.1.fWork), .d (.str v4.1.fLibrary), .d (.int .i64 v4.1.fState), .d (.int .i64 v4.1.fTime), .d (.str v4.1.fLender), .d (.sl (v4.1.fTried.map D.str)), .d (.int .i64 v4.1.fDue), .d (.int .i64 v4.1.fRenewals)], .tok x.1.length 33 4]) hI1 (WOK.g0 hw0 (by simp)) ⟨[0, 1, 2], rfl, rfl, rfl, ⟨(.d rfl), (.d rfl), (.ptr rfl), (.ptr rfl), (.tk rfl), (.d rfl), (.d rfl), (.d rfl), trivial⟩, trivial, (.row rfl (.cons (.d rfl) (.cons (.d rfl) .nil)) (.row rfl (.cons (.d rfl) (.cons (.d rfl) (.cons (.d rfl) (.cons (.d rfl) (.cons (.d rfl) (.cons (.d rfl) (.cons (.d rfl) (.cons (.d rfl) (.cons (.d rfl) .nil))))))))) (.tok rfl .nil)))⟩ ?_
      rintro n1 ⟨s5, s6⟩ hI1
      obtain ⟨y_1, hm, hI1⟩ := iterS hI1
      replace hm : m_bookplatetop_WholeRequests_L1 n _ s5 s6 = some y_1 := hm
      unfold m_bookplatetop_WholeRequests_L1 at hm
      try dsimp only at hm
      refine AW.seqR ?_
      refine AL.s rfl (op_lss (.r rfl) (.r rfl)) ?_
      refine AL.nil ?_
      refine AW.seq ?_
      refine AW.cond (b := _) rfl (fun hc3 => ?_) (fun hc3 => ?_)
      · replace hm := iteT hc3 hm
        refine AW.skip ?_
        refine nq ?_
        refine AW.seq ?_
        refine AW.block ?_
        refine AW.seqR ?_
        obtain ⟨v7, hv7, hm⟩ := bindE hm
        refine AL.s rfl (op_indexAddrM (f := SLender.e) (.r rfl) (.r rfl) hv7 enSLender sl23) ?_
        refine AL.s rfl (op_loadA (.e rfl) rfl ag32) ?_
        refine AL.s rfl (op_alloc (n := 3) zr32 rfl) ?_
        refine AL.s rfl (op_store (.e rfl) (.e rfl) rfl rfl rfl ⟨_, rfl, rfl⟩ rfl (Nat.le_of_ble_eq_true rfl)) ?_
        refine AL.nil ?_
        refine AW.seqR ?_
        refine AL.s rfl (op_moveT (.e rfl)) ?_
        refine AL.s rfl (op_load_ptrA (.e rfl) rfl rfl rfl ag32) ?_
        refine AL.s rfl (op_buildSlice (ds := ([(⟨v7.fLibrary, (⟨v7.fPlace.e0, v7.fPlace.e1⟩ : A2), v7.fLoad⟩ : SLender)] : List SLender).map SLender.e) sl30 (.cons (.r rfl) rfl (enSLender.one _) .nil) rfl (by decide)) ?_
        obtain ⟨v8, hv8, hm⟩ := bindE hm
        refine AL.s rfl (op_appendM (f := SLender.e) (l' := ([(⟨v7.fLibrary, (⟨v7.fPlace.e0, v7.fPlace.e1⟩ : A2), v7.fLoad⟩ : SLender)] : List SLender)) sl30 (.e rfl) (.r rfl) rfl rfl enSLender hv8) ?_
        refine AL.s rfl (op_assignT (.e rfl)) ?_
        refine AL.nil ?_
        refine AW.seqR ?_
        refine AL.s rfl (op_field_ptr (.e rfl) fd32_0) ?_
        refine AL.s rfl (op_load_ptr1 (.e rfl) rfl rfl sc9) ?_
        refine AL.s rfl (op_lenS (.r rfl) Try.underlying9) ?_
        refine AL.s rfl (op_gtr (.r rfl) (.r rfl)) ?_
        refine AL.nil ?_
        refine AW.cond (b := _) rfl (fun hc4 => ?_) (fun hc4 => ?_)
        · replace hm := iteT hc4 hm
          refine AW.seqR ?_
          refine AL.s rfl (op_assignD (.e rfl)) ?_
          refine AL.nil ?_
          refine AW.ret ?_
          refine bq_ret ?_
          refine tq_ret ?_
          refine tq_ret ?_
          obtain rfl := Option.some.inj hm
          obtain rfl := Option.some.inj hI1
          replace hm := hk1
          try dsimp only at hm
          refine bq_ret ?_
          refine tq_ret ?_
          obtain rfl := Option.some.inj hm
          exact EndQ.d (.tmp (.e rfl) .nil) rfl rfl
        · replace hm := iteF hc4 hm
          refine AW.skip ?_
          refine bq_n ?_
          refine nq ?_
          refine AW.region ?_
          refine AL.s rfl (op_addw (.r rfl) (.r rfl)) ?_
          refine AL.s rfl (op_moveD (.e rfl)) ?_
          refine AL.nil ?_
          obtain rfl := Option.some.inj hm
          exact nq ⟨_, hI1, ⟨[0, 1, 2], rfl, rfl, rfl, ⟨(.d rfl), (.d rfl), (.ptr rfl), (.ptr rfl), (.tk rfl), (.d rfl), (.d rfl), (.d rfl), trivial⟩, trivial, (.row rfl (.cons (.d rfl) (.cons (.d rfl) .nil)) (.row rfl (.cons (.d rfl) (.cons (.d rfl) (.cons (.d rfl) (.cons (.d rfl) (.cons (.d rfl) (.cons (.d rfl) (.cons (.d rfl) (.cons (.d rfl) (.cons (.d rfl) .nil))))))))) (.tok rfl .nil)))⟩⟩
      · replace hm := iteF hc3 hm
        refine AW.exit ?_
        refine tq_exit ?_
        refine tq_exit ?_
        obtain rfl := Option.some.inj hm
        obtain rfl := Option.some.inj hI1
        replace hm := hk1
        try dsimp only at hm
        refine bq_hit ?_
        refine nq ?_
        refine AW.seqR ?_
        refine AL.s rfl (op_moveD (.e rfl)) ?_
        obtain ⟨v9, hv9, hm⟩ := bindE hm
        refine AL.s rfl (op_fn Try.call4 (.e rfl) (.cons (.r rfl) (.cons (.r rfl) (.cons (.r rfl) (.cons (.r rfl) .nil)))) (m_request_New_ok hv9)) ?_
        refine AL.s rfl (op_moveD (.e rfl)) ?_
        refine AL.s rfl (op_extractD (.e rfl) rfl) ?_
        refine AL.s rfl (op_extractD (.e rfl) rfl) ?_
        refine AL.s rfl (op_store (.e rfl) (.e rfl) rfl rfl rfl ⟨_, rfl, rfl⟩ rfl (Nat.le_of_ble_eq_true rfl)) ?_
        refine AL.s rfl (op_assignD (.e rfl)) ?_
        refine AL.nil ?_
        refine AW.seq ?_
        refine AW.seqR ?_
        refine AL.s rfl (op_moveD (.e rfl)) ?_
        refine AL.s rfl (op_load_ptrA (.e rfl) rfl rfl rfl ag22) ?_
        refine AL.s rfl (op_moveT (.e rfl)) ?_
        obtain ⟨v10, hv10, hm⟩ := bindE hm
        refine AL.s rfl (op_fn Try.call5 (.e rfl) (.cons (.r rfl) (.cons (.r rfl) (.cons (.r rfl) (.cons (.r rfl) .nil)))) (m_route_Row_ok hv10)) ?_
        refine AL.s rfl (op_moveD (.e rfl)) ?_
        refine AL.s rfl (op_extractD (.e rfl) rfl) ?_
        refine AL.s rfl (op_extractD (.e rfl) rfl) ?_
        refine AL.s rfl (op_assignD (.e rfl)) ?_
        refine AL.s rfl (op_assignD (.e rfl)) ?_
        refine AL.nil ?_
        refine AW.seqR ?_
        refine AL.s rfl (op_moveD (.e rfl)) ?_
        refine AL.s rfl (op_neq (.r rfl) (.r rfl)) ?_
        refine AL.s rfl (op_moveD (.e rfl)) ?_
        refine AL.sF rfl rfl rfl rfl (fun g => op_moveD (.e rfl)) ?_
        refine AL.sF rfl rfl rfl rfl (fun g => op_neq (.we (nt g) rfl rfl) (.r rfl)) ?_
        refine AL.s rfl (op_or (.r rfl) rfl (fun h => (.we (nt h) rfl rfl))) ?_
        refine AL.nil ?_
        refine AW.cond (b := _) rfl (fun hc5 => ?_) (fun hc5 => ?_)
        · replace hm := iteT hc5 hm
          refine AW.seqR ?_
          refine AL.s rfl (op_assignD (.e rfl)) ?_
          refine AL.nil ?_
          refine AW.ret ?_
          refine tq_ret ?_
          obtain rfl := Option.some.inj hm
          exact EndQ.d (.tmp (.e rfl) .nil) rfl rfl
        · replace hm := iteF hc5 hm
          refine AW.skip ?_
          refine nq ?_
          refine AW.seq ?_
          refine AW.seqR ?_
          refine AL.s rfl (op_moveD (.e rfl)) ?_
          refine AL.s rfl (op_lenM (f := SLender.e) (.r rfl) sl23) ?_
          refine AL.s rfl (op_addw (.r rfl) (.r rfl)) ?_
          refine AL.s rfl (op_moveD (.e rfl)) ?_
          refine AL.nil ?_
          refine AW.block ?_
          obtain ⟨t_2, hI2, hk2⟩ := bindE hm
          refine AW.loopS (σ := (Int × Int × Int × (List UInt8) × Int × Int × (List UInt8) × (List (List UInt8)) × Int × Int)) (τ := (Bool ⊕ (Int × Int × (List UInt8) × Int × Int × (List UInt8) × (List (List UInt8)) × Int × Int))) 0 (fun x => [(0, .d (.str a1)), (4, .ptr 0 0), (7, .ptr 1 0), (9, .tk 2 (s5.map SLender.e)), (76, .d (.int .i64 (IntKind.i64.wrap ((a3.length : Int) + (1 : Int))))), (77, .d (.int .i64 x.1))]) (fun x => [.row [.d (.int .i64 a2.e0), .d (.int .i64 a2.e1)], .row [.d (.int .i64 x.2.1), .d (.int .i64 x.2.2.1), .d (.str x.2.2.2.1), .d (.int .i64 x.2.2.2.2.1), .d (.int .i64 x.2.2.2.2.2.1), .d (.str x.2.2.2.2.2.2.1), .d (.sl (x.2.2.2.2.2.2.2.1.map D.str)), .d (.int .i64 x.2.2.2.2.2.2.2.2.1), .d (.int .i64 x.2.2.2.2.2.2.2.2.2)], .tok s5.length 33 4]) hI2 (WOK.g0 hw0 (by simp)) ⟨[0, 1, 2], rfl, rfl, rfl, ⟨(.d rfl), (.ptr rfl), (.ptr rfl), (.tk rfl), (.d rfl), (.d rfl), trivial⟩, trivial, (.row rfl (.cons (.d rfl) (.cons (.d rfl) .nil)) (.row rfl (.cons (.d rfl) (.cons (.d rfl) (.cons (.d rfl) (.cons (.d rfl) (.cons (.d rfl) (.cons (.d rfl) (.cons (.d rfl) (.cons (.d rfl) (.cons (.d rfl) .nil))))))))) (.tok rfl .nil)))⟩ ?_
          rintro n2 ⟨s11, s12, s13, s14, s15, s16, s17, s18, s19, s20⟩ hI2
          obtain ⟨y_2, hm, hI2⟩ := iterS hI2
          replace hm : m_bookplatetop_WholeRequests_L2 n _ _ _ _ s11 s12 s13 s14 s15 s16 s17 s18 s19 s20 = some y_2 := hm
          unfold m_bookplatetop_WholeRequests_L2 at hm
          try dsimp only at hm
          refine AW.seqR ?_
          refine AL.s rfl (op_lss (.r rfl) (.r rfl)) ?_
          refine AL.nil ?_
          refine AW.seq ?_
          refine AW.cond (b := _) rfl (fun hc6 => ?_) (fun hc6 => ?_)
          · replace hm := iteT hc6 hm
            refine AW.skip ?_
            refine nq ?_
            refine AW.seq ?_
            refine AW.block ?_
            refine AW.seqR ?_
            refine AL.s rfl (op_moveD (.e rfl)) ?_
            refine AL.s rfl (op_load_ptrA (.e rfl) rfl rfl rfl ag22) ?_
            refine AL.s rfl (op_field_ptr (.e rfl) fd26_6) ?_
            refine AL.s rfl (op_load_ptr1 (.e rfl) rfl rfl sc24) ?_
            refine AL.s rfl (op_moveT (.e rfl)) ?_
            obtain ⟨v21, hv21, hm⟩ := bindE hm
            refine AL.s rfl (op_fn Try.call5 (.e rfl) (.cons (.r rfl) (.cons (.r rfl) (.cons (.r rfl) (.cons (.r rfl) .nil)))) (m_route_Row_ok hv21)) ?_
            refine AL.s rfl (op_moveD (.e rfl)) ?_
            refine AL.s rfl (op_extractD (.e rfl) rfl) ?_
            refine AL.s rfl (op_extractD (.e rfl) rfl) ?_
            refine AL.s rfl (op_assignD (.e rfl)) ?_
            refine AL.s rfl (op_assignD (.e rfl)) ?_
            refine AL.nil ?_
            refine AW.seqR ?_
            refine AL.s rfl (op_assignN (.e rfl)) ?_
            refine AL.nil ?_
            refine AW.seq ?_
            refine AW.seqR ?_
            refine AL.s rfl (op_moveT (.e rfl)) ?_
            refine AL.s rfl (op_lenM (f := SLender.e) (.r rfl) sl30) ?_
            refine AL.s rfl (op_moveD (.e rfl)) ?_
            refine AL.nil ?_
            refine AW.block ?_
            refine AW.tokenize (n := 3) 16 3 1 rfl rfl (by simp) ?_
            obtain ⟨t_3, hI3, hk3⟩ := bindE hm
            refine AW.loopS (σ := ((List Int) × Int)) (τ := (List Int)) 0 (fun x => [(0, .d (.str a1)), (4, .ptr 0 0), (7, .ptr 1 0), (9, .tk 2 (s5.map SLender.e)), (14, .d (.sl (v21.1.map D.i))), (15, .d (.int .i64 v21.2)), (16, .tk 3 (x.1.map D.i)), (76, .d (.int .i64 (IntKind.i64.wrap ((a3.length : Int) + (1 : Int))))), (77, .d (.int .i64 s11)), (89, .d (.int .i64 (s5.length : Int))), (90, .d (.int .i64 x.2))]) (fun x => [.row [.d (.int .i64 a2.e0), .d (.int .i64 a2.e1)], .row [.d (.int .i64 s12), .d (.int .i64 s13), .d (.str s14), .d (.int .i64 s15), .d (.int .i64 s16), .d (.str s17), .d (.sl (s18.map D.str)), .d (.int .i64 s19), .d (.int .i64 s20)], .tok s5.length 33 4, .tok x.1.length 3 1]) hI3 (WOK.g0 hw0 (by simp)) ⟨[0, 1, 2, 3], rfl, rfl, rfl, ⟨(.d rfl), (.ptr rfl), (.ptr rfl), (.tk rfl), (.d rfl), (.d rfl), (.tk rfl), (.d rfl), (.d rfl), (.d rfl), (.d rfl), trivial⟩, trivial, (.row rfl (.cons (.d rfl) (.cons (.d rfl) .nil)) (.row rfl (.cons (.d rfl) (.cons (.d rfl) (.cons (.d rfl) (.cons (.d rfl) (.cons (.d rfl) (.cons (.d rfl) (.cons (.d rfl) (.cons (.d rfl) (.cons (.d rfl) .nil))))))))) (.tok rfl (.tok rfl .nil))))⟩ ?_
            rintro n3 ⟨s22, s23⟩ hI3
            obtain ⟨y_3, hm, hI3⟩ := iterS hI3
            replace hm : m_bookplatetop_WholeRequests_L3 n _ s22 s23 = some y_3 := hm
            unfold m_bookplatetop_WholeRequests_L3 at hm
            try dsimp only at hm
            refine AW.seqR ?_
            refine AL.s rfl (op_lss (.r rfl) (.r rfl)) ?_
            refine AL.nil ?_
            refine AW.seq ?_
            refine AW.cond (b := _) rfl (fun hc7 => ?_) (fun hc7 => ?_)
            · replace hm := iteT hc7 hm
              refine AW.skip ?_
              refine nq ?_
              refine AW.seq ?_
              refine AW.block ?_
              refine AW.region ?_
              refine AL.s rfl (op_moveT (.e rfl)) ?_
              refine AL.s rfl (op_buildSlice (ds := ([(1 : Int)] : List Int).map D.i) sl34 (.cons (.r rfl) rfl (En.i.one _) .nil) rfl (by decide)) ?_
              obtain ⟨v24, hv24, hm⟩ := bindE hm
              refine AL.s rfl (op_appendM (f := D.i) (l' := ([(1 : Int)] : List Int)) sl34 (.e rfl) (.r rfl) rfl rfl En.i hv24) ?_
              refine AL.s rfl (op_assignT (.e rfl)) ?_
              refine AL.nil ?_
              refine bq_n ?_
              refine nq ?_
              refine AW.region ?_
              refine AL.s rfl (op_addw (.r rfl) (.r rfl)) ?_
              refine AL.s rfl (op_moveD (.e rfl)) ?_
              refine AL.nil ?_
              obtain rfl := Option.some.inj hm
              exact nq ⟨_, hI3, ⟨[0, 1, 2, 3], rfl, rfl, rfl, ⟨(.d rfl), (.ptr rfl), (.ptr rfl), (.tk rfl), (.d rfl), (.d rfl), (.tk rfl), (.d rfl), (.d rfl), (.d rfl), (.d rfl), trivial⟩, trivial, (.row rfl (.cons (.d rfl) (.cons (.d rfl) .nil)) (.row rfl (.cons (.d rfl) (.cons (.d rfl) (.cons (.d rfl) (.cons (.d rfl) (.cons (.d rfl) (.cons (.d rfl) (.cons (.d rfl) (.cons (.d rfl) (.cons (.d rfl) .nil))))))))) (.tok rfl (.tok rfl .nil))))⟩⟩
            · replace hm := iteF hc7 hm
              refine AW.exit ?_
              refine tq_exit ?_
              refine tq_exit ?_
              obtain rfl := Option.some.inj hm
              obtain rfl := Option.some.inj hI3
              replace hm := hk3
              try dsimp only at hm
              refine bq_hit ?_
              refine nq ?_
              refine AW.seqR ?_
              refine AL.s rfl (op_moveD (.e rfl)) ?_
              refine AL.s rfl (op_buildSlice (ds := ([v21.1] : List (List Int)).map (esl D.i)) sl41 (.cons (.r rfl) rfl (En.sl.one _) .nil) rfl (by decide)) ?_
              refine AL.s rfl (op_moveT (.e rfl)) ?_
              refine AL.s rfl (op_build bd43 (.cons (.e rfl) rfl rfl rfl rfl (Nat.le_of_ble_eq_true rfl) (.cons (.e rfl) rfl rfl rfl rfl (Nat.le_of_ble_eq_true rfl) (.cons (.e rfl) rfl rfl rfl rfl (Nat.le_of_ble_eq_true rfl) .nil)))) ?_
              obtain ⟨v25, hv25, hm⟩ := bindE hm
              refine AL.s rfl (op_fn Try.call6 (.e rfl) (.cons (.r rfl) .nil) (m_route_Solve_ok hv25)) ?_
              refine AL.s rfl (op_moveD (.e rfl)) ?_
              refine AL.s rfl (op_extractD (.e rfl) rfl) ?_
              refine AL.s rfl (op_extractD (.e rfl) rfl) ?_
              refine AL.s rfl (op_extractD (.e rfl) rfl) ?_
              refine AL.s rfl (op_alloc (n := 4) zr38 rfl) ?_
              refine AL.s rfl (op_assignD (.e rfl)) ?_
              refine AL.s rfl (op_store (.e rfl) (.e rfl) rfl rfl rfl ⟨_, rfl, rfl⟩ rfl (Nat.le_of_ble_eq_true rfl)) ?_
              refine AL.s rfl (op_assignD (.e rfl)) ?_
              refine AL.nil ?_
              refine AW.seq ?_
              refine AW.seqR ?_
              refine AL.s rfl (op_moveD (.e rfl)) ?_
              refine AL.s rfl (op_neq (.r rfl) (.r rfl)) ?_
              refine AL.s rfl (op_moveD (.e rfl)) ?_
              refine AL.sF rfl rfl rfl rfl (fun g => op_moveD (.e rfl)) ?_
              refine AL.sF rfl rfl rfl rfl (fun g => op_neq (.we (nt g) rfl rfl) (.r rfl)) ?_
              refine AL.s rfl (op_or (.r rfl) rfl (fun h => (.we (nt h) rfl rfl))) ?_
              refine AL.s rfl (op_moveD (.e rfl)) ?_
              refine AL.sF rfl rfl rfl rfl (fun g => op_moveD (.e rfl)) ?_
              refine AL.sF rfl rfl rfl rfl (fun g => op_lenM (f := D.i) (.we (nt g) rfl rfl) sl34) ?_
              refine AL.sF rfl rfl rfl rfl (fun g => op_neq (.we (nt g) rfl rfl) (.r rfl)) ?_
              refine AL.s rfl (op_or (.r rfl) rfl (fun h => (.we (nt h) rfl rfl))) ?_
              refine AL.s rfl (op_moveD (.e rfl)) ?_
              refine AL.sF rfl rfl rfl rfl (fun g => op_moveD (.e rfl)) ?_
              obtain ⟨v26, hv26, hm⟩ := bindE hm
              refine AL.sF rfl rfl rfl rfl (fun g => op_indexAddrM (f := D.i) (.we (nt g) rfl rfl) (.r rfl) (iteT (nt g) hv26) En.i sl34) ?_
              refine AL.sF rfl rfl rfl rfl (fun g => op_load_vp1 (.we (nt g) rfl) rfl sc3) ?_
              refine AL.sF rfl rfl rfl rfl (fun g => op_moveT (.e rfl)) ?_
              refine AL.sF rfl rfl rfl rfl (fun g => op_lenM (f := SLender.e) (.we (nt g) rfl rfl) sl30) ?_
              refine AL.sF rfl rfl rfl rfl (fun g => op_geq (.we (nt g) rfl rfl) (.we (nt g) rfl rfl)) ?_
              refine AL.s rfl (op_or (.r rfl) rfl (fun h => (.we (nt h) rfl rfl))) ?_
              refine AL.s rfl (op_moveD (.e rfl)) ?_
              refine AL.sF rfl rfl rfl rfl (fun g => op_moveD (.e rfl)) ?_
              refine AL.sF rfl rfl rfl rfl (fun g => op_buildSlice (ds := ([v21.1] : List (List Int)).map (esl D.i)) sl41 (.cons (.we (nt g) rfl rfl) rfl (En.sl.one _) .nil) rfl (by decide)) ?_
              refine AL.sF rfl rfl rfl rfl (fun g => op_moveT (.e rfl)) ?_
              refine AL.sF rfl rfl rfl rfl (fun g => op_build bd43 (.cons (.we (nt g) rfl) rfl rfl rfl rfl (Nat.le_of_ble_eq_true rfl) (.cons (.we (nt g) rfl) rfl rfl rfl rfl (Nat.le_of_ble_eq_true rfl) (.cons (.e rfl) rfl rfl rfl rfl (Nat.le_of_ble_eq_true rfl) .nil)))) ?_
              refine AL.sF rfl rfl rfl rfl (fun g => op_moveD (.e rfl)) ?_
              refine AL.sF rfl rfl rfl rfl (fun g => op_load_ptrA (.e rfl) rfl rfl rfl ag38) ?_
              obtain ⟨v27, hv27, hm⟩ := bindE hm
              refine AL.sF rfl rfl rfl rfl (fun g => op_fn Try.call7 (.e rfl) (.cons (.we (nt g) rfl rfl) (.cons (.we (nt g) rfl rfl) (.cons (.we (nt g) rfl rfl) .nil))) (m_route_Check_ok (iteT (nt g) hv27))) ?_
              refine AL.sF rfl rfl rfl rfl (fun g => op_neq (.we (nt g) rfl rfl) (.r rfl)) ?_
              refine AL.s rfl (op_or (.r rfl) rfl (fun h => (.we (nt h) rfl rfl))) ?_
              refine AL.nil ?_
              refine AW.cond (b := _) rfl (fun hc8 => ?_) (fun hc8 => ?_)
              · replace hm := iteT hc8 hm
                refine AW.reset 0 [] [.row [.d (.int .i64 a2.e0), .d (.int .i64 a2.e1)], .row [.d (.int .i64 s12), .d (.int .i64 s13), .d (.str s14), .d (.int .i64 s15), .d (.int .i64 s16), .d (.str s17), .d (.sl (s18.map D.str)), .d (.int .i64 s19), .d (.int .i64 s20)], .tok s5.length 33 4, .tok s22.length 3 1, .row [.d (.sl (v25.2.1.fAsks.map D.i)), .d (.sl (v25.2.1.fLenders.map D.i))]] (WOK.g0 hw0 (by simp)) ⟨[0, 1, 2, 3, 4], rfl, rfl, rfl, trivial, trivial, (.row rfl (.cons (.d rfl) (.cons (.d rfl) .nil)) (.row rfl (.cons (.d rfl) (.cons (.d rfl) (.cons (.d rfl) (.cons (.d rfl) (.cons (.d rfl) (.cons (.d rfl) (.cons (.d rfl) (.cons (.d rfl) (.cons (.d rfl) .nil))))))))) (.tok rfl (.tok rfl (.row rfl (.cons (.d rfl) (.cons (.d rfl) .nil)) .nil)))))⟩ ?_
                refine AW.seqR ?_
                refine AL.s rfl (op_assignD (.e rfl)) ?_
                refine AL.nil ?_
                refine AW.ret ?_
                refine tq_ret ?_
                refine bq_ret ?_
                refine tq_ret ?_
                refine tq_ret ?_
                obtain rfl := Option.some.inj hm
                obtain rfl := Option.some.inj hI2
                replace hm := hk2
                try dsimp only at hm
                refine bq_ret ?_
                refine tq_ret ?_
                obtain rfl := Option.some.inj hm
                exact EndQ.d (.tmp (.e rfl) .nil) rfl rfl
              · replace hm := iteF hc8 hm
                refine AW.skip ?_
                refine nq ?_
                refine AW.seq ?_
                refine AW.seqR ?_
                refine AL.s rfl (op_moveD (.e rfl)) ?_
                obtain ⟨v28, hv28, hm⟩ := bindE hm
                refine AL.s rfl (op_indexAddrM (f := D.i) (.r rfl) (.r rfl) hv28 En.i sl34) ?_
                refine AL.s rfl (op_load_vp1 (.e rfl) rfl sc3) ?_
                refine AL.s rfl (op_lss (.r rfl) (.r rfl)) ?_
                refine AL.nil ?_
                refine AW.cond (b := _) rfl (fun hc9 => ?_) (fun hc9 => ?_)
                · replace hm := iteT hc9 hm
                  refine AW.seq ?_
                  refine AW.seqR ?_
                  refine AL.s rfl (op_moveD (.e rfl)) ?_
                  refine AL.s rfl (op_lenM (f := D.i) (.r rfl) sl34) ?_
                  refine AL.s rfl (op_moveD (.e rfl)) ?_
                  refine AL.nil ?_
                  refine AW.block ?_
                  obtain ⟨t_4, hI4, hk4⟩ := bindE hm
                  refine AW.loopS (σ := Int) (τ := (Bool ⊕ Unit)) 0 (fun x => [(7, .ptr 1 0), (138, .d (.sl (v21.1.map D.i))), (139, .d (.int .i64 (v21.1.length : Int))), (140, .d (.int .i64 x))]) (fun x => [.row [.d (.int .i64 a2.e0), .d (.int .i64 a2.e1)], .row [.d (.int .i64 s12), .d (.int .i64 s13), .d (.str s14), .d (.int .i64 s15), .d (.int .i64 s16), .d (.str s17), .d (.sl (s18.map D.str)), .d (.int .i64 s19), .d (.int .i64 s20)], .tok s5.length 33 4, .tok s22.length 3 1, .row [.d (.sl (v25.2.1.fAsks.map D.i)), .d (.sl (v25.2.1.fLenders.map D.i))]]) hI4 (WOK.g0 hw0 (by simp)) ⟨[0, 1, 2, 3, 4], rfl, rfl, rfl, ⟨(.ptr rfl), (.d rfl), (.d rfl), (.d rfl), trivial⟩, trivial, (.row rfl (.cons (.d rfl) (.cons (.d rfl) .nil)) (.row rfl (.cons (.d rfl) (.cons (.d rfl) (.cons (.d rfl) (.cons (.d rfl) (.cons (.d rfl) (.cons (.d rfl) (.cons (.d rfl) (.cons (.d rfl) (.cons (.d rfl) .nil))))))))) (.tok rfl (.tok rfl (.row rfl (.cons (.d rfl) (.cons (.d rfl) .nil)) .nil)))))⟩ ?_
                  rintro n4 s29 hI4
                  obtain ⟨y_4, hm, hI4⟩ := iterS hI4
                  replace hm : m_bookplatetop_WholeRequests_L4 n _ s29 = some y_4 := hm
                  unfold m_bookplatetop_WholeRequests_L4 at hm
                  try dsimp only at hm
                  refine AW.seqR ?_
                  refine AL.s rfl (op_lss (.r rfl) (.r rfl)) ?_
                  refine AL.nil ?_
                  refine AW.seq ?_
                  refine AW.cond (b := _) rfl (fun hc10 => ?_) (fun hc10 => ?_)
                  · replace hm := iteT hc10 hm
                    refine AW.skip ?_
                    refine nq ?_
                    refine AW.seq ?_
                    refine AW.block ?_
                    refine AW.seqR ?_
                    obtain ⟨v30, hv30, hm⟩ := bindE hm
                    refine AL.s rfl (op_indexAddrM (f := D.i) (.r rfl) (.r rfl) hv30 En.i sl34) ?_
                    refine AL.s rfl (op_load_vp1 (.e rfl) rfl sc3) ?_
                    refine AL.s rfl (op_assignD (.e rfl)) ?_
                    refine AL.nil ?_
                    refine AW.seqR ?_
                    refine AL.s rfl (op_moveD (.e rfl)) ?_
                    refine AL.s rfl (op_neq (.r rfl) (.r rfl)) ?_
                    refine AL.nil ?_
                    refine AW.cond (b := _) rfl (fun hc11 => ?_) (fun hc11 => ?_)
                    · replace hm := iteT hc11 hm
                      refine AW.seqR ?_
                      refine AL.s rfl (op_assignD (.e rfl)) ?_
                      refine AL.nil ?_
                      refine AW.ret ?_
                      refine bq_ret ?_
                      refine tq_ret ?_
                      refine tq_ret ?_
                      obtain rfl := Option.some.inj hm
                      obtain rfl := Option.some.inj hI4
                      replace hm := hk4
                      try dsimp only at hm
                      refine bq_ret ?_
                      refine tq_ret ?_
                      refine tq_ret ?_
                      refine bq_ret ?_
                      refine tq_ret ?_
                      refine tq_ret ?_
                      obtain rfl := Option.some.inj hm
                      obtain rfl := Option.some.inj hI2
                      replace hm := hk2
                      try dsimp only at hm
                      refine bq_ret ?_
                      refine tq_ret ?_
                      obtain rfl := Option.some.inj hm
                      exact EndQ.d (.tmp (.e rfl) .nil) rfl rfl
                    · replace hm := iteF hc11 hm
                      refine AW.skip ?_
                      refine bq_n ?_
                      refine nq ?_
                      refine AW.region ?_
                      refine AL.s rfl (op_addw (.r rfl) (.r rfl)) ?_
                      refine AL.s rfl (op_moveD (.e rfl)) ?_
                      refine AL.nil ?_
                      obtain rfl := Option.some.inj hm
                      exact nq ⟨_, hI4, ⟨[0, 1, 2, 3, 4], rfl, rfl, rfl, ⟨(.ptr rfl), (.d rfl), (.d rfl), (.d rfl), trivial⟩, trivial, (.row rfl (.cons (.d rfl) (.cons (.d rfl) .nil)) (.row rfl (.cons (.d rfl) (.cons (.d rfl) (.cons (.d rfl) (.cons (.d rfl) (.cons (.d rfl) (.cons (.d rfl) (.cons (.d rfl) (.cons (.d rfl) (.cons (.d rfl) .nil))))))))) (.tok rfl (.tok rfl (.row rfl (.cons (.d rfl) (.cons (.d rfl) .nil)) .nil)))))⟩⟩
                  · replace hm := iteF hc10 hm
                    refine AW.exit ?_
                    refine tq_exit ?_
                    refine tq_exit ?_
                    obtain rfl := Option.some.inj hm
                    obtain rfl := Option.some.inj hI4
                    replace hm := hk4
                    try dsimp only at hm
                    refine bq_hit ?_
                    refine nq ?_
                    refine AW.seqR ?_
                    refine AL.s rfl (op_load_ptrA (.e rfl) rfl rfl rfl ag26) ?_
                    refine AL.s rfl (op_field_ptr (.e rfl) fd26_4) ?_
                    refine AL.s rfl (op_load_ptr1 (.e rfl) rfl rfl sc3) ?_
                    refine AL.s rfl (op_build bd47 (.cons (.e rfl) rfl rfl rfl rfl (Nat.le_of_ble_eq_true rfl) (.cons (.e rfl) rfl rfl rfl rfl (Nat.le_of_ble_eq_true rfl) .nil))) ?_
                    obtain ⟨v31, hv31, hm⟩ := bindE hm
                    refine AL.s rfl (op_fn Try.call8 (.e rfl) (.cons (.r rfl) (.cons (.r rfl) .nil)) (m_request_Do_ok hv31)) ?_
                    refine AL.s rfl (op_moveD (.e rfl)) ?_
                    refine AL.s rfl (op_extractD (.e rfl) rfl) ?_
                    refine AL.s rfl (op_extractD (.e rfl) rfl) ?_
                    refine AL.s rfl (op_store (.e rfl) (.e rfl) rfl rfl rfl ⟨_, rfl, rfl⟩ rfl (Nat.le_of_ble_eq_true rfl)) ?_
                    refine AL.s rfl (op_assignD (.e rfl)) ?_
                    refine AL.nil ?_
                    refine AW.seqR ?_
                    refine AL.s rfl (op_moveD (.e rfl)) ?_
                    refine AL.s rfl (op_eql (.r rfl) (.r rfl)) ?_
                    refine AL.s rfl (op_moveD (.e rfl)) ?_
                    refine AL.sT rfl rfl rfl rfl (fun g => op_field_ptr (.e rfl) fd26_3) ?_
                    refine AL.sT rfl rfl rfl rfl (fun g => op_load_ptr1 (.we g rfl) rfl rfl sc3) ?_
                    refine AL.sT rfl rfl rfl rfl (fun g => op_eql (.we g rfl rfl) (.r rfl)) ?_
                    refine AL.s rfl (op_and (.r rfl) (fun h => (.we h rfl rfl)) rfl) ?_
                    refine AL.s rfl (op_assignD (.e rfl)) ?_
                    refine AL.nil ?_
                    refine AW.ret ?_
                    refine tq_ret ?_
                    refine bq_ret ?_
                    refine tq_ret ?_
                    refine tq_ret ?_
                    obtain rfl := Option.some.inj hm
                    obtain rfl := Option.some.inj hI2
                    replace hm := hk2
                    try dsimp only at hm
                    refine bq_ret ?_
                    refine tq_ret ?_
                    obtain rfl := Option.some.inj hm
                    exact EndQ.d (.tmp (.e rfl) .nil) rfl rfl
                · replace hm := iteF hc9 hm
                  refine AW.skip ?_
                  refine nq ?_
                  refine AW.seqD [([1], []), ([], []), ([1], []), ([], []), ([], []), ([], []), ([], []), ([], []), ([], []), ([], []), ([], []), ([], []), ([], []), ([], []), ([], []), ([1], [1]), ([], [])] mo (by decide +kernel) ?_
                  refine AD.s (ws := []) rfl rfl (fun H' _ hH => op_load_ptrA (.e rfl) ((hH _ (by simp)).trans rfl) rfl rfl ag26) ?_
                  refine AD.s (ws := []) rfl rfl (fun H' _ hH => op_field_ptr (.e rfl) fd26_4) ?_
                  refine AD.s (ws := []) rfl rfl (fun H' _ hH => op_load_ptr1 (.e rfl) ((hH _ (by simp)).trans rfl) rfl sc3) ?_
                  refine AD.s (ws := []) rfl rfl (fun H' _ hH => op_moveT (.e rfl)) ?_
                  refine AD.s (ws := []) rfl rfl (fun H' _ hH => op_moveD (.e rfl)) ?_
                  obtain ⟨v32, hv32, hm⟩ := bindE hm
                  refine AD.s (ws := []) rfl rfl (fun H' _ hH => op_indexAddrM (f := D.i) (.r rfl) (.r rfl) hv32 En.i sl34) ?_
                  refine AD.s (ws := []) rfl rfl (fun H' _ hH => op_load_vp1 (.e rfl) rfl sc3) ?_
                  obtain ⟨v33, hv33, hm⟩ := bindE hm
                  refine AD.s (ws := []) rfl rfl (fun H' _ hH => op_indexAddrM (f := SLender.e) (.r rfl) (.r rfl) hv33 enSLender sl30) ?_
                  refine AD.s (ws := []) rfl rfl (fun H' _ hH => op_field_vp (.e rfl) fd33_0) ?_
                  refine AD.s (ws := []) rfl rfl (fun H' _ hH => op_load_vp1 (.e rfl) rfl sc9) ?_
                  refine AD.s (ws := []) rfl rfl (fun H' _ hH => op_build bd47 (.cons (.e rfl) rfl rfl rfl rfl (Nat.le_of_ble_eq_true rfl) (.cons (.e rfl) rfl rfl rfl rfl (Nat.le_of_ble_eq_true rfl) (.cons (.e rfl) rfl rfl rfl rfl (Nat.le_of_ble_eq_true rfl) .nil)))) ?_
                  obtain ⟨v34, hv34, hm⟩ := bindE hm
                  refine AD.s (ws := []) rfl rfl (fun H' _ hH => op_fn Try.call8 (.e rfl) (.cons (.r rfl) (.cons (.r rfl) .nil)) (m_request_Do_ok hv34)) ?_
                  refine AD.s (ws := []) rfl rfl (fun H' _ hH => op_moveD (.e rfl)) ?_
                  refine AD.s (ws := []) rfl rfl (fun H' _ hH => op_extractD (.e rfl) rfl) ?_
                  refine AD.s (ws := []) rfl rfl (fun H' _ hH => op_extractD (.e rfl) rfl) ?_
                  refine AD.s (ws := [(1, _)]) rfl rfl (fun H' _ hH => op_store (.e rfl) (.e rfl) ((hH _ (by simp)).trans rfl) rfl rfl ⟨_, rfl, rfl⟩ rfl (Nat.le_of_ble_eq_true rfl)) ?_
                  refine AD.s (ws := []) rfl rfl (fun H' _ hH => op_assignD (.e rfl)) ?_
                  refine AD.nil ?_
                  refine AW.seq ?_
                  refine AW.reset 0 [(0, .d (.str a1)), (4, .ptr 0 0), (7, .ptr 1 0), (9, .tk 2 (s5.map SLender.e)), (15, .d (.int .i64 v34.2)), (76, .d (.int .i64 (IntKind.i64.wrap ((a3.length : Int) + (1 : Int))))), (77, .d (.int .i64 s11))] [.row [.d (.int .i64 a2.e0), .d (.int .i64 a2.e1)], .row [.d (.int .i64 v34.1.fID), .d (.int .i64 v34.1.fWork), .d (.str v34.1.fLibrary), .d (.int .i64 v34.1.fState), .d (.int .i64 v34.1.fTime), .d (.str v34.1.fLender), .d (.sl (v34.1.fTried.map D.str)), .d (.int .i64 v34.1.fDue), .d (.int .i64 v34.1.fRenewals)], .tok s5.length 33 4, .tok s22.length 3 1, .row [.d (.sl (v25.2.1.fAsks.map D.i)), .d (.sl (v25.2.1.fLenders.map D.i))]] (WOK.g0 hw0 (by simp)) ⟨[0, 1, 2, 3, 4], rfl, rfl, rfl, ⟨(.d rfl), (.ptr rfl), (.ptr rfl), (.tk rfl), (.d rfl), (.d rfl), (.d rfl), trivial⟩, trivial, (.row rfl (.cons (.d rfl) (.cons (.d rfl) .nil)) (.row rfl (.cons (.d rfl) (.cons (.d rfl) (.cons (.d rfl) (.cons (.d rfl) (.cons (.d rfl) (.cons (.d rfl) (.cons (.d rfl) (.cons (.d rfl) (.cons (.d rfl) .nil))))))))) (.tok rfl (.tok rfl (.row rfl (.cons (.d rfl) (.cons (.d rfl) .nil)) .nil)))))⟩ ?_
                  refine AW.seqR ?_
                  refine AL.s rfl (op_moveD (.e rfl)) ?_
                  refine AL.s rfl (op_neq (.r rfl) (.r rfl)) ?_
                  refine AL.nil ?_
                  refine AW.cond (b := _) rfl (fun hc12 => ?_) (fun hc12 => ?_)
                  · replace hm := iteT hc12 hm
                    refine AW.seqR ?_
                    refine AL.s rfl (op_assignD (.e rfl)) ?_
                    refine AL.nil ?_
                    refine AW.ret ?_
                    refine tq_ret ?_
                    refine bq_ret ?_
                    refine tq_ret ?_
                    refine tq_ret ?_
                    obtain rfl := Option.some.inj hm
                    obtain rfl := Option.some.inj hI2
                    replace hm := hk2
                    try dsimp only at hm
                    refine bq_ret ?_
                    refine tq_ret ?_
                    obtain rfl := Option.some.inj hm
                    exact EndQ.d (.tmp (.e rfl) .nil) rfl rfl
                  · replace hm := iteF hc12 hm
                    refine AW.skip ?_
                    refine nq ?_
                    refine AW.seqR ?_
                    refine AL.s rfl (op_load_ptrA (.e rfl) rfl rfl rfl ag26) ?_
                    refine AL.s rfl (op_field_ptr (.e rfl) fd26_4) ?_
                    refine AL.s rfl (op_load_ptr1 (.e rfl) rfl rfl sc3) ?_
                    refine AL.s rfl (op_build bd47 (.cons (.e rfl) rfl rfl rfl rfl (Nat.le_of_ble_eq_true rfl) (.cons (.e rfl) rfl rfl rfl rfl (Nat.le_of_ble_eq_true rfl) .nil))) ?_
                    obtain ⟨v35, hv35, hm⟩ := bindE hm
                    refine AL.s rfl (op_fn Try.call8 (.e rfl) (.cons (.r rfl) (.cons (.r rfl) .nil)) (m_request_Do_ok hv35)) ?_
                    refine AL.s rfl (op_moveD (.e rfl)) ?_
                    refine AL.s rfl (op_extractD (.e rfl) rfl) ?_
                    refine AL.s rfl (op_extractD (.e rfl) rfl) ?_
                    refine AL.s rfl (op_store (.e rfl) (.e rfl) rfl rfl rfl ⟨_, rfl, rfl⟩ rfl (Nat.le_of_ble_eq_true rfl)) ?_
                    refine AL.s rfl (op_assignD (.e rfl)) ?_
                    refine AL.nil ?_
                    refine AW.seqR ?_
                    refine AL.s rfl (op_moveD (.e rfl)) ?_
                    refine AL.s rfl (op_neq (.r rfl) (.r rfl)) ?_
                    refine AL.nil ?_
                    refine AW.cond (b := _) rfl (fun hc13 => ?_) (fun hc13 => ?_)
                    · replace hm := iteT hc13 hm
                      refine AW.seqR ?_
                      refine AL.s rfl (op_assignD (.e rfl)) ?_
                      refine AL.nil ?_
                      refine AW.ret ?_
                      refine bq_ret ?_
                      refine tq_ret ?_
                      refine tq_ret ?_
                      obtain rfl := Option.some.inj hm
                      obtain rfl := Option.some.inj hI2
                      replace hm := hk2
                      try dsimp only at hm
                      refine bq_ret ?_
                      refine tq_ret ?_
                      obtain rfl := Option.some.inj hm
                      exact EndQ.d (.tmp (.e rfl) .nil) rfl rfl
                    · replace hm := iteF hc13 hm
                      refine AW.skip ?_
                      refine bq_n ?_
                      refine nq ?_
                      refine AW.region ?_
                      refine AL.s rfl (op_addw (.r rfl) (.r rfl)) ?_
                      refine AL.s rfl (op_moveD (.e rfl)) ?_
                      refine AL.nil ?_
                      obtain rfl := Option.some.inj hm
                      exact nq ⟨_, hI2, ⟨[0, 1, 2], rfl, rfl, rfl, ⟨(.d rfl), (.ptr rfl), (.ptr rfl), (.tk rfl), (.d rfl), (.d rfl), trivial⟩, trivial, (.row rfl (.cons (.d rfl) (.cons (.d rfl) .nil)) (.row rfl (.cons (.d rfl) (.cons (.d rfl) (.cons (.d rfl) (.cons (.d rfl) (.cons (.d rfl) (.cons (.d rfl) (.cons (.d rfl) (.cons (.d rfl) (.cons (.d rfl) .nil))))))))) (.tok rfl .nil)))⟩⟩
          · replace hm := iteF hc6 hm
            refine AW.exit ?_
            refine tq_exit ?_
            refine tq_exit ?_
            obtain rfl := Option.some.inj hm
            obtain rfl := Option.some.inj hI2
            replace hm := hk2
            try dsimp only at hm
            refine bq_hit ?_
            refine nq ?_
            refine AW.seqR ?_
            refine AL.s rfl (op_assignD (.e rfl)) ?_
            refine AL.nil ?_
            refine AW.ret ?_
            obtain rfl := Option.some.inj hm
            exact EndQ.d (.tmp (.e rfl) .nil) rfl rfl

end Go.Proofs.Yteocmikmbiimcaa.Ab
