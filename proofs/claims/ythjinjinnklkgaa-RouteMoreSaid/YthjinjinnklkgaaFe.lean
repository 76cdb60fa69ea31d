/- The functions do what they are in plain Lean. Conditions: none. -/
import Derived.Test.YthjinjinnklkgaaTy
import Derived.Test.YthjinjinnklkgaaMi
import Derived.Test.YthjinjinnklkgaaFd
set_option maxRecDepth 100000
namespace Go.Proofs.Ythjinjinnklkgaa.Ab
open Go
attribute [local irreducible] AL AD AW nlO nlV nlD

set_option maxHeartbeats 20000000 in
theorem m_route_Problem_least_ok {n : Nat} {a1 : SProblem} {a2 : Int} {a3 : (List Int)} {r : Int} (hm : m_route_Problem_least n a1 a2 a3 = some r) : Fn Try.prog 36 [(SProblem.e a1), (.int .i64 a2), (.sl (a3.map D.i))] (.int .i64 r) := by
  unfold m_route_Problem_least at hm
  refine Fn.of_AW (fnn := Try.f36) Try.func36 rfl (Nat.le_of_ble_eq_true rfl) (fun g0 w0 hw0 => ?_)
  refine AW.reset 0 [(0, .d (SProblem.e a1)), (1, .d (.int .i64 a2)), (2, .d (.sl (a3.map D.i)))] [] (WOK.g0 hw0 (by simp)) ⟨[], rfl, rfl, rfl, ⟨(.d rfl), (.d rfl), (.d rfl), trivial⟩, trivial, .nil⟩ ?_
  refine AW.seqR ?_
  refine AL.s rfl (op_box (n := 0) (.e rfl) rfl rfl rfl) ?_
  refine AL.s rfl (op_assignD (.e rfl)) ?_
  refine AL.nil ?_
  refine AW.free ?_
  refine AW.free ?_
  refine AW.seqD [([0], []), ([], []), ([], []), ([], []), ([0], []), ([], []), ([], [1]), ([], []), ([], []), ([], [2]), ([], [])] mo (by decide +kernel) ?_
  refine AD.s (ws := []) rfl rfl (fun H' _ hH => op_load_ptrA (.e rfl) ((hH _ (by simp)).trans rfl) rfl rfl ag30) ?_
  refine AD.s (ws := []) rfl rfl (fun H' _ hH => op_moveD (.e rfl)) ?_
  refine AD.s (ws := []) rfl rfl (fun H' _ hH => op_buildSlice (ds := ([(-1 : Int)] : List Int).map D.i) sl23 (.cons (.r rfl) rfl (En.i.one _) .nil) rfl (by decide)) ?_
  refine AD.s (ws := []) rfl rfl (fun H' _ hH => op_field_ptr (.e rfl) fd30_0) ?_
  refine AD.s (ws := []) rfl rfl (fun H' _ hH => op_load_ptr1 (.e rfl) ((hH _ (by simp)).trans rfl) rfl sc22) ?_
  refine AD.s (ws := []) rfl rfl (fun H' _ hH => op_lenM (f := (esl D.i)) (.r rfl) sl22) ?_
  obtain ⟨v4, hv4, hm⟩ := bindE hm
  refine AD.s (ws := [(1, _)]) rfl rfl (fun H' _ hH => op_callNew (res := 1) Try.call50 (.e rfl) (.cons (.r rfl) (.cons (.r rfl) .nil)) (m_slices_Repeat_int_int_ok hv4) ((hH _ (by simp)).trans rfl)) ?_
  refine AD.s (ws := []) rfl rfl (fun H' _ hH => op_moveD (.e rfl)) ?_
  refine AD.s (ws := []) rfl rfl (fun H' _ hH => op_build bd88 (.cons (.e rfl) rfl rfl rfl rfl (Nat.le_of_ble_eq_true rfl) (.cons (.e rfl) rfl rfl rfl rfl (Nat.le_of_ble_eq_true rfl) (.cons (.e rfl) rfl rfl rfl rfl (Nat.le_of_ble_eq_true rfl) (.cons (.e rfl) rfl rfl rfl rfl (Nat.le_of_ble_eq_true rfl) .nil))))) ?_
  refine AD.s (ws := [(2, _)]) rfl rfl (fun H' _ hH => op_boxR (res := 2) (.e rfl) rfl rfl ((hH _ (by simp)).trans rfl)) ?_
  refine AD.s (ws := []) rfl rfl (fun H' _ hH => op_assignP (.e rfl)) ?_
  refine AD.nil ?_
  refine AW.seq ?_
  refine AW.seqR ?_
  refine AL.s rfl (op_moveD (.e rfl)) ?_
  refine AL.s rfl (op_assignD (.e rfl)) ?_
  refine AL.nil ?_
  refine AW.block ?_
  obtain ⟨t_1, hI1, hk1⟩ := bindE hm
  refine AW.loopS (σ := (Int × (List Int) × (List (List Int)) × (List Int) × Int × (List Int) × Int)) (τ := ((List Int) × (List (List Int)) × (List Int) × Int × (List Int) × Int)) 0 (fun x => [(1, .d (.int .i64 a2)), (3, .ptr 0 0), (7, .ptr 2 0), (8, .d (.int .i64 x.1))]) (fun x => [.row [.d (.sl (a1.fCosts.map (esl D.i))), .d (.sl (a1.fRoom.map D.i)), .d (.int .i64 a1.fPenalty)], .lst (x.2.1.map D.i) 3 1, .row [.d (.sl (x.2.2.1.map (esl D.i))), .d (.sl (x.2.2.2.1.map D.i)), .d (.int .i64 x.2.2.2.2.1), .d (.sl (x.2.2.2.2.2.1.map D.i)), .hs 1 0 x.2.1.length 1, .d (.int .i64 x.2.2.2.2.2.2)]]) hI1 (WOK.g0 hw0 (by simp)) ⟨[0, 1, 2], rfl, rfl, rfl, ⟨(.d rfl), (.ptr rfl), (.ptr rfl), (.d rfl), trivial⟩, trivial, (.row rfl (.cons (.d rfl) (.cons (.d rfl) (.cons (.d rfl) .nil))) (.lst rfl (.row rfl (.cons (.d rfl) (.cons (.d rfl) (.cons (.d rfl) (.cons (.d rfl) (.cons (.hs rfl rfl) (.cons (.d rfl) .nil)))))) .nil)))⟩ ?_
  rintro n1 ⟨s5, s6, s7, s8, s9, s10, s11⟩ hI1
  obtain ⟨y_1, hm, hI1⟩ := iterS hI1
  replace hm : m_route_Problem_least_L1 n _ s5 s6 s7 s8 s9 s10 s11 = some y_1 := hm
  unfold m_route_Problem_least_L1 at hm
  try dsimp only at hm
  refine AW.seq ?_
  refine AW.seqR ?_
  refine AL.s rfl (op_moveD (.e rfl)) ?_
  refine AL.s rfl (op_field_ptr (.e rfl) fd30_0) ?_
  refine AL.s rfl (op_load_ptr1 (.e rfl) rfl rfl sc22) ?_
  refine AL.s rfl (op_lenM (f := (esl D.i)) (.r rfl) sl22) ?_
  refine AL.s rfl (op_lss (.r rfl) (.r rfl)) ?_
  refine AL.nil ?_
  refine AW.cond (b := _) rfl (fun hc1 => ?_) (fun hc1 => ?_)
  · replace hm := iteT hc1 hm
    refine AW.skip ?_
    refine nq ?_
    refine AW.seq ?_
    refine AW.block ?_
    refine AW.region ?_
    refine AL.s rfl (op_moveP (.e rfl)) ?_
    refine AL.s rfl (op_moveD (.e rfl)) ?_
    obtain ⟨v12, hv12, hm⟩ := bindE hm
    refine AL.s rfl (op_callF (v := .tup []) (H' := [.row [.d (.sl (a1.fCosts.map (esl D.i))), .d (.sl (a1.fRoom.map D.i)), .d (.int .i64 a1.fPenalty)], .lst (v12.fa.map D.i) 3 1, .row [.d (.sl (v12.fp.fCosts.map (esl D.i))), .d (.sl (v12.fp.fRoom.map D.i)), .d (.int .i64 v12.fp.fPenalty), .d (.sl (v12.froom.map D.i)), .hs 1 0 v12.fa.length 1, .d (.int .i64 v12.ffrom)]]) [2, 1] Try.call51 (.e rfl) (.cons (.e rfl) (.cons (.e rfl) .nil)) (m_route_search_add_ok hv12) rfl (.cons rfl (.cons rfl .nil)) rfl rfl rfl rfl rfl rfl rfl rfl) ?_
    refine AL.nil ?_
    refine bq_n ?_
    refine nq ?_
    refine AW.region ?_
    refine AL.s rfl (op_moveD (.e rfl)) ?_
    refine AL.s rfl (op_addw (.r rfl) (.r rfl)) ?_
    refine AL.s rfl (op_assignD (.e rfl)) ?_
    refine AL.nil ?_
    obtain rfl := Option.some.inj hm
    exact nq ⟨_, hI1, ⟨[0, 1, 2], rfl, rfl, rfl, ⟨(.d rfl), (.ptr rfl), (.ptr rfl), (.d rfl), trivial⟩, trivial, (.row rfl (.cons (.d rfl) (.cons (.d rfl) (.cons (.d rfl) .nil))) (.lst rfl (.row rfl (.cons (.d rfl) (.cons (.d rfl) (.cons (.d rfl) (.cons (.d rfl) (.cons (.hs rfl rfl) (.cons (.d rfl) .nil)))))) .nil)))⟩⟩
  · replace hm := iteF hc1 hm
    refine AW.exit ?_
    refine tq_exit ?_
    refine tq_exit ?_
    obtain rfl := Option.some.inj hm
    obtain rfl := Option.some.inj hI1
    replace hm := hk1
    try dsimp only at hm
    refine bq_hit ?_
    refine nq ?_
    refine AW.seqR ?_
    refine AL.s rfl (op_assignD (.e rfl)) ?_
    refine AL.nil ?_
    refine AW.seq ?_
    refine AW.seqR ?_
    refine AL.s rfl (op_moveD (.e rfl)) ?_
    refine AL.s rfl (op_assignD (.e rfl)) ?_
    refine AL.nil ?_
    refine AW.block ?_
    obtain ⟨t_2, hI2, hk2⟩ := bindE hm
    refine AW.loopS (σ := (Int × Int)) (τ := Int) 0 (fun x => [(3, .ptr 0 0), (7, .ptr 2 0), (9, .d (.int .i64 x.1)), (10, .d (.int .i64 x.2))]) (fun x => [.row [.d (.sl (a1.fCosts.map (esl D.i))), .d (.sl (a1.fRoom.map D.i)), .d (.int .i64 a1.fPenalty)], .lst (s6.map D.i) 3 1, .row [.d (.sl (s7.map (esl D.i))), .d (.sl (s8.map D.i)), .d (.int .i64 s9), .d (.sl (s10.map D.i)), .hs 1 0 s6.length 1, .d (.int .i64 s11)]]) hI2 (WOK.g0 hw0 (by simp)) ⟨[0, 1, 2], rfl, rfl, rfl, ⟨(.ptr rfl), (.ptr rfl), (.d rfl), (.d rfl), trivial⟩, trivial, (.row rfl (.cons (.d rfl) (.cons (.d rfl) (.cons (.d rfl) .nil))) (.lst rfl (.row rfl (.cons (.d rfl) (.cons (.d rfl) (.cons (.d rfl) (.cons (.d rfl) (.cons (.hs rfl rfl) (.cons (.d rfl) .nil)))))) .nil)))⟩ ?_
    rintro n2 ⟨s13, s14⟩ hI2
    obtain ⟨y_2, hm, hI2⟩ := iterS hI2
    replace hm : m_route_Problem_least_L2 n _ _ s13 s14 = some y_2 := hm
    unfold m_route_Problem_least_L2 at hm
    try dsimp only at hm
    refine AW.seq ?_
    refine AW.seqR ?_
    refine AL.s rfl (op_moveD (.e rfl)) ?_
    refine AL.s rfl (op_field_ptr (.e rfl) fd30_0) ?_
    refine AL.s rfl (op_load_ptr1 (.e rfl) rfl rfl sc22) ?_
    refine AL.s rfl (op_lenM (f := (esl D.i)) (.r rfl) sl22) ?_
    refine AL.s rfl (op_lss (.r rfl) (.r rfl)) ?_
    refine AL.nil ?_
    refine AW.cond (b := _) rfl (fun hc2 => ?_) (fun hc2 => ?_)
    · replace hm := iteT hc2 hm
      refine AW.skip ?_
      refine nq ?_
      obtain ⟨t_j1, hm, hkj1⟩ := bindE hm
      refine AW.cutS (α := Int) 0 (fun x => x = t_j1) (fun x => [(3, .ptr 0 0), (7, .ptr 2 0), (9, .d (.int .i64 x)), (10, .d (.int .i64 s14))]) (fun x => [.row [.d (.sl (a1.fCosts.map (esl D.i))), .d (.sl (a1.fRoom.map D.i)), .d (.int .i64 a1.fPenalty)], .lst (s6.map D.i) 3 1, .row [.d (.sl (s7.map (esl D.i))), .d (.sl (s8.map D.i)), .d (.int .i64 s9), .d (.sl (s10.map D.i)), .hs 1 0 s6.length 1, .d (.int .i64 s11)]]) (WOK.g0 hw0 (by simp)) ?_ ?_
      · skip
        refine AW.block ?_
        refine AW.seqR ?_
        refine AL.s rfl (op_moveP (.e rfl)) ?_
        refine AL.s rfl (op_nilCheckP (.e rfl)) ?_
        refine AL.s rfl (op_field_ptr (.e rfl) fd88_2) ?_
        refine AL.s rfl (op_load_ptr1 (.e rfl) rfl rfl sc23) ?_
        refine AL.s rfl (op_moveD (.e rfl)) ?_
        obtain ⟨v15, hv15, hm⟩ := bindE hm
        refine AL.s rfl (op_indexAddr_hs (f := D.i) (l := s6) (.e rfl) rfl rfl (.r rfl) hv15 sl23) ?_
        obtain ⟨v16, hv16, hm⟩ := bindE hm
        refine AL.s rfl (op_load_lp (f := D.i) (fun _ => rfl) (.e rfl) rfl hv16 sc3) ?_
        refine AL.s rfl (op_assignD (.e rfl)) ?_
        refine AL.nil ?_
        refine AW.seqR ?_
        refine AL.s rfl (op_moveD (.e rfl)) ?_
        refine AL.s rfl (op_eql (.r rfl) (.r rfl)) ?_
        refine AL.nil ?_
        refine AW.cond (b := _) rfl (fun hc3 => ?_) (fun hc3 => ?_)
        · replace hm := iteT hc3 hm
          refine AW.reset 0 [(3, .ptr 0 0), (7, .ptr 2 0), (9, .d (.int .i64 s13)), (10, .d (.int .i64 s14))] [.row [.d (.sl (a1.fCosts.map (esl D.i))), .d (.sl (a1.fRoom.map D.i)), .d (.int .i64 a1.fPenalty)], .lst (s6.map D.i) 3 1, .row [.d (.sl (s7.map (esl D.i))), .d (.sl (s8.map D.i)), .d (.int .i64 s9), .d (.sl (s10.map D.i)), .hs 1 0 s6.length 1, .d (.int .i64 s11)]] (WOK.g0 hw0 (by simp)) ⟨[0, 1, 2], rfl, rfl, rfl, ⟨(.ptr rfl), (.ptr rfl), (.d rfl), (.d rfl), trivial⟩, trivial, (.row rfl (.cons (.d rfl) (.cons (.d rfl) (.cons (.d rfl) .nil))) (.lst rfl (.row rfl (.cons (.d rfl) (.cons (.d rfl) (.cons (.d rfl) (.cons (.d rfl) (.cons (.hs rfl rfl) (.cons (.d rfl) .nil)))))) .nil)))⟩ ?_
          refine AW.region ?_
          refine AL.s rfl (op_moveD (.e rfl)) ?_
          refine AL.s rfl (op_field_ptr (.e rfl) fd30_2) ?_
          refine AL.s rfl (op_load_ptr1 (.e rfl) rfl rfl sc3) ?_
          refine AL.s rfl (op_addw (.r rfl) (.r rfl)) ?_
          refine AL.s rfl (op_assignD (.e rfl)) ?_
          refine AL.nil ?_
          refine bq_n ?_
          obtain rfl := Option.some.inj hm
          exact nq ⟨_, rfl, ⟨[0, 1, 2], rfl, rfl, rfl, ⟨(.ptr rfl), (.ptr rfl), (.d rfl), (.d rfl), trivial⟩, trivial, (.row rfl (.cons (.d rfl) (.cons (.d rfl) (.cons (.d rfl) .nil))) (.lst rfl (.row rfl (.cons (.d rfl) (.cons (.d rfl) (.cons (.d rfl) (.cons (.d rfl) (.cons (.hs rfl rfl) (.cons (.d rfl) .nil)))))) .nil)))⟩⟩
        · replace hm := iteF hc3 hm
          refine AW.region ?_
          refine AL.s rfl (op_moveD (.e rfl)) ?_
          refine AL.s rfl (op_field_ptr (.e rfl) fd30_0) ?_
          refine AL.s rfl (op_load_ptr1 (.e rfl) rfl rfl sc22) ?_
          refine AL.s rfl (op_moveD (.e rfl)) ?_
          obtain ⟨v17, hv17, hm⟩ := bindE hm
          refine AL.s rfl (op_indexAddrM (f := (esl D.i)) (.r rfl) (.r rfl) hv17 En.sl sl22) ?_
          refine AL.s rfl (op_load_vp1 (.e rfl) rfl sc23) ?_
          refine AL.s rfl (op_moveD (.e rfl)) ?_
          obtain ⟨v18, hv18, hm⟩ := bindE hm
          refine AL.s rfl (op_indexAddrM (f := D.i) (.r rfl) (.r rfl) hv18 En.i sl23) ?_
          refine AL.s rfl (op_load_vp1 (.e rfl) rfl sc3) ?_
          refine AL.s rfl (op_addw (.r rfl) (.r rfl)) ?_
          refine AL.s rfl (op_assignD (.e rfl)) ?_
          refine AL.nil ?_
          refine bq_n ?_
          obtain rfl := Option.some.inj hm
          exact nq ⟨_, rfl, ⟨[0, 1, 2], rfl, rfl, rfl, ⟨(.ptr rfl), (.ptr rfl), (.d rfl), (.d rfl), trivial⟩, trivial, (.row rfl (.cons (.d rfl) (.cons (.d rfl) (.cons (.d rfl) .nil))) (.lst rfl (.row rfl (.cons (.d rfl) (.cons (.d rfl) (.cons (.d rfl) (.cons (.d rfl) (.cons (.hs rfl rfl) (.cons (.d rfl) .nil)))))) .nil)))⟩⟩
      · rintro s19 rfl
        replace hm := hkj1
        try dsimp only at hm
        refine AW.region ?_
        refine AL.s rfl (op_moveD (.e rfl)) ?_
        refine AL.s rfl (op_addw (.r rfl) (.r rfl)) ?_
        refine AL.s rfl (op_assignD (.e rfl)) ?_
        refine AL.nil ?_
        obtain rfl := Option.some.inj hm
        exact nq ⟨_, hI2, ⟨[0, 1, 2], rfl, rfl, rfl, ⟨(.ptr rfl), (.ptr rfl), (.d rfl), (.d rfl), trivial⟩, trivial, (.row rfl (.cons (.d rfl) (.cons (.d rfl) (.cons (.d rfl) .nil))) (.lst rfl (.row rfl (.cons (.d rfl) (.cons (.d rfl) (.cons (.d rfl) (.cons (.d rfl) (.cons (.hs rfl rfl) (.cons (.d rfl) .nil)))))) .nil)))⟩⟩
    · replace hm := iteF hc2 hm
      refine AW.exit ?_
      refine tq_exit ?_
      refine tq_exit ?_
      obtain rfl := Option.some.inj hm
      obtain rfl := Option.some.inj hI2
      replace hm := hk2
      try dsimp only at hm
      refine bq_hit ?_
      refine nq ?_
      refine AW.seqR ?_
      refine AL.s rfl (op_moveD (.e rfl)) ?_
      refine AL.s rfl (op_assignD (.e rfl)) ?_
      refine AL.nil ?_
      refine AW.ret ?_
      obtain rfl := Option.some.inj hm
      exact EndQ.d (.tmp (.e rfl) .nil) rfl rfl

set_option maxHeartbeats 20000000 in
theorem m_route_Problem_prices_1_ok {n : Nat} {a1 : Int} {a2 : Int} {c3 : SProblem} {c4 : SPrices} {r : Int} (hm : m_route_Problem_prices_1 n a1 a2 c3 c4 = some r) : ACall Try.prog 52 [.d (.int .i64 a1), .d (.int .i64 a2), .ptr 0 0, .ptr 1 0] [.row [.d (.sl (c3.fCosts.map (esl D.i))), .d (.sl (c3.fRoom.map D.i)), .d (.int .i64 c3.fPenalty)], .row [.ex ([].map D.i), .hs 2 0 c4.fLenders.length 1], .lst (c4.fLenders.map D.i) 3 1] fun r' H' => r' = resOf [.d (.int .i64 r)] ∧ H' = [.row [.d (.sl (c3.fCosts.map (esl D.i))), .d (.sl (c3.fRoom.map D.i)), .d (.int .i64 c3.fPenalty)], .row [.ex ([].map D.i), .hs 2 0 c4.fLenders.length 1], .lst (c4.fLenders.map D.i) 3 1] := by
  unfold m_route_Problem_prices_1 at hm
  refine ACall.of_AWG (fnn := Try.f52) Try.func52 rfl (Nat.le_of_ble_eq_true rfl) (fun g0 w0 hw0 => ?_)
  refine AW.reset 3 [(0, .d (.int .i64 a1)), (1, .d (.int .i64 a2)), (2, .ptr 0 0), (3, .ptr 1 0)] [.row [.d (.sl (c3.fCosts.map (esl D.i))), .d (.sl (c3.fRoom.map D.i)), .d (.int .i64 c3.fPenalty)], .row [.ex ([].map D.i), .hs 2 0 c4.fLenders.length 1], .lst (c4.fLenders.map D.i) 3 1] (WOK.g0 hw0 (by simp)) ⟨[0, 1, 2], rfl, rfl, rfl, ⟨(.d rfl), (.d rfl), (.ptr rfl), (.ptr rfl), trivial⟩, trivial, (.row rfl (.cons (.d rfl) (.cons (.d rfl) (.cons (.d rfl) .nil))) (.row rfl (.cons .ex (.cons (.hs rfl rfl) .nil)) (.lst rfl .nil)))⟩ ?_
  refine AW.seqR ?_
  refine AL.s rfl (op_assignD (.e rfl)) ?_
  refine AL.nil ?_
  refine AW.seqR ?_
  refine AL.s rfl (op_field_ptr (.e rfl) fd30_2) ?_
  refine AL.s rfl (op_load_ptr1 (.e rfl) rfl rfl sc3) ?_
  refine AL.s rfl (op_assignD (.e rfl)) ?_
  refine AL.nil ?_
  refine AW.seq ?_
  refine AW.seqR ?_
  refine AL.s rfl (op_field_ptr (.e rfl) fd30_0) ?_
  refine AL.s rfl (op_load_ptr1 (.e rfl) rfl rfl sc22) ?_
  refine AL.s rfl (op_moveD (.e rfl)) ?_
  obtain ⟨v5, hv5, hm⟩ := bindE hm
  refine AL.s rfl (op_indexAddrM (f := (esl D.i)) (.r rfl) (.r rfl) hv5 En.sl sl22) ?_
  refine AL.s rfl (op_load_vp1 (.e rfl) rfl sc23) ?_
  refine AL.s rfl (op_lenM (f := D.i) (.r rfl) sl23) ?_
  refine AL.s rfl (op_moveD (.e rfl)) ?_
  refine AL.nil ?_
  refine AW.block ?_
  obtain ⟨t_1, hI1, hk1⟩ := bindE hm
  refine AW.loopS (σ := (Int × Int)) (τ := Int) 3 (fun x => [(1, .d (.int .i64 a2)), (3, .ptr 1 0), (7, .d (.int .i64 x.1)), (16, .d (.sl (v5.map D.i))), (17, .d (.int .i64 (v5.length : Int))), (18, .d (.int .i64 x.2))]) (fun x => [.row [.d (.sl (c3.fCosts.map (esl D.i))), .d (.sl (c3.fRoom.map D.i)), .d (.int .i64 c3.fPenalty)], .row [.ex ([].map D.i), .hs 2 0 c4.fLenders.length 1], .lst (c4.fLenders.map D.i) 3 1]) hI1 (WOK.g0 hw0 (by simp)) ⟨[0, 1, 2], rfl, rfl, rfl, ⟨(.d rfl), (.ptr rfl), (.d rfl), (.d rfl), (.d rfl), (.d rfl), trivial⟩, trivial, (.row rfl (.cons (.d rfl) (.cons (.d rfl) (.cons (.d rfl) .nil))) (.row rfl (.cons .ex (.cons (.hs rfl rfl) .nil)) (.lst rfl .nil)))⟩ ?_
  rintro n1 ⟨s6, s7⟩ hI1
  obtain ⟨y_1, hm, hI1⟩ := iterS hI1
  replace hm : m_route_Problem_prices_1_L1 n _ _ _ s6 s7 = some y_1 := hm
  unfold m_route_Problem_prices_1_L1 at hm
  try dsimp only at hm
  refine AW.seqR ?_
  refine AL.s rfl (op_lss (.r rfl) (.r rfl)) ?_
  refine AL.nil ?_
  refine AW.seq ?_
  refine AW.cond (b := _) rfl (fun hc1 => ?_) (fun hc1 => ?_)
  · replace hm := iteT hc1 hm
    refine AW.skip ?_
    refine nq ?_
    obtain ⟨t_j1, hm, hkj1⟩ := bindE hm
    refine AW.cutS (α := Int) 3 (fun x => x = t_j1) (fun x => [(1, .d (.int .i64 a2)), (3, .ptr 1 0), (7, .d (.int .i64 x)), (16, .d (.sl (v5.map D.i))), (17, .d (.int .i64 (v5.length : Int))), (18, .d (.int .i64 s7))]) (fun x => [.row [.d (.sl (c3.fCosts.map (esl D.i))), .d (.sl (c3.fRoom.map D.i)), .d (.int .i64 c3.fPenalty)], .row [.ex ([].map D.i), .hs 2 0 c4.fLenders.length 1], .lst (c4.fLenders.map D.i) 3 1]) (WOK.g0 hw0 (by simp)) ?_ ?_
    · skip
      refine AW.block ?_
      refine AW.seqR ?_
      refine AL.s rfl (op_moveD (.e rfl)) ?_
      obtain ⟨v8, hv8, hm⟩ := bindE hm
      refine AL.s rfl (op_indexAddrM (f := D.i) (.r rfl) (.r rfl) hv8 En.i sl23) ?_
      refine AL.s rfl (op_load_vp1 (.e rfl) rfl sc3) ?_
      refine AL.s rfl (op_assignD (.e rfl)) ?_
      refine AL.s rfl (op_assignD (.e rfl)) ?_
      refine AL.nil ?_
      refine AW.seqR ?_
      refine AL.s rfl (op_moveD (.e rfl)) ?_
      refine AL.s rfl (op_moveD (.e rfl)) ?_
      refine AL.s rfl (op_neq (.r rfl) (.r rfl)) ?_
      refine AL.s rfl (op_moveD (.e rfl)) ?_
      refine AL.sT rfl rfl rfl rfl (fun g => op_moveD (.e rfl)) ?_
      refine AL.sT rfl rfl rfl rfl (fun g => op_neq (.we g rfl rfl) (.r rfl)) ?_
      refine AL.s rfl (op_and (.r rfl) (fun h => (.we h rfl rfl)) rfl) ?_
      refine AL.nil ?_
      refine AW.cond (b := _) rfl (fun hc2 => ?_) (fun hc2 => ?_)
      · replace hm := iteT hc2 hm
        refine AW.region ?_
        refine AL.s rfl (op_moveD (.e rfl)) ?_
        refine AL.s rfl (op_moveD (.e rfl)) ?_
        refine AL.s rfl (op_field_ptr (.e rfl) fd31_1) ?_
        refine AL.s rfl (op_load_ptr1 (.e rfl) rfl rfl sc23) ?_
        refine AL.s rfl (op_moveD (.e rfl)) ?_
        obtain ⟨v9, hv9, hm⟩ := bindE hm
        refine AL.s rfl (op_indexAddr_hs (f := D.i) (l := c4.fLenders) (.e rfl) rfl rfl (.r rfl) hv9 sl23) ?_
        obtain ⟨v10, hv10, hm⟩ := bindE hm
        refine AL.s rfl (op_load_lp (f := D.i) (fun _ => rfl) (.e rfl) rfl hv10 sc3) ?_
        refine AL.s rfl (op_addw (.r rfl) (.r rfl)) ?_
        refine AL.s rfl (op_min (.r rfl) (.r rfl)) ?_
        refine AL.s rfl (op_assignD (.e rfl)) ?_
        refine AL.nil ?_
        refine bq_n ?_
        obtain rfl := Option.some.inj hm
        exact nq ⟨_, rfl, ⟨[0, 1, 2], rfl, rfl, rfl, ⟨(.d rfl), (.ptr rfl), (.d rfl), (.d rfl), (.d rfl), (.d rfl), trivial⟩, trivial, (.row rfl (.cons (.d rfl) (.cons (.d rfl) (.cons (.d rfl) .nil))) (.row rfl (.cons .ex (.cons (.hs rfl rfl) .nil)) (.lst rfl .nil)))⟩⟩
      · replace hm := iteF hc2 hm
        refine AW.skip ?_
        refine bq_n ?_
        obtain rfl := Option.some.inj hm
        exact nq ⟨_, rfl, ⟨[0, 1, 2], rfl, rfl, rfl, ⟨(.d rfl), (.ptr rfl), (.d rfl), (.d rfl), (.d rfl), (.d rfl), trivial⟩, trivial, (.row rfl (.cons (.d rfl) (.cons (.d rfl) (.cons (.d rfl) .nil))) (.row rfl (.cons .ex (.cons (.hs rfl rfl) .nil)) (.lst rfl .nil)))⟩⟩
    · rintro s11 rfl
      replace hm := hkj1
      try dsimp only at hm
      refine AW.region ?_
      refine AL.s rfl (op_addw (.r rfl) (.r rfl)) ?_
      refine AL.s rfl (op_moveD (.e rfl)) ?_
      refine AL.nil ?_
      obtain rfl := Option.some.inj hm
      exact nq ⟨_, hI1, ⟨[0, 1, 2], rfl, rfl, rfl, ⟨(.d rfl), (.ptr rfl), (.d rfl), (.d rfl), (.d rfl), (.d rfl), trivial⟩, trivial, (.row rfl (.cons (.d rfl) (.cons (.d rfl) (.cons (.d rfl) .nil))) (.row rfl (.cons .ex (.cons (.hs rfl rfl) .nil)) (.lst rfl .nil)))⟩⟩
  · replace hm := iteF hc1 hm
    refine AW.exit ?_
    refine tq_exit ?_
    refine tq_exit ?_
    obtain rfl := Option.some.inj hm
    obtain rfl := Option.some.inj hI1
    replace hm := hk1
    try dsimp only at hm
    refine bq_hit ?_
    refine nq ?_
    refine AW.seqR ?_
    refine AL.s rfl (op_moveD (.e rfl)) ?_
    refine AL.s rfl (op_assignD (.e rfl)) ?_
    refine AL.nil ?_
    refine AW.ret ?_
    obtain rfl := Option.some.inj hm
    exact ⟨_, [0, 1, 2], (.tmp (.e rfl) .nil), rfl, rfl, (.cons (.d rfl) .nil), (.row rfl (.cons (.d rfl) (.cons (.d rfl) (.cons (.d rfl) .nil))) (.row rfl (.cons .ex (.cons (.hs rfl rfl) .nil)) (.lst rfl .nil)))⟩

set_option maxHeartbeats 20000000 in
theorem m_route_Problem_prices_1_f2_ok {n : Nat} {a1 : Int} {a2 : Int} {c3 : SProblem} {c4 : SPrices} {r : Int} (hm : m_route_Problem_prices_1 n a1 a2 c3 c4 = some r) : ACall Try.prog 52 [.d (.int .i64 a1), .d (.int .i64 a2), .ptr 0 0, .ptr 1 0] [.row [.d (.sl (c3.fCosts.map (esl D.i))), .d (.sl (c3.fRoom.map D.i)), .d (.int .i64 c3.fPenalty)], .row [.hs 2 0 c4.fAsks.length 1, .hs 3 0 c4.fLenders.length 1], .lst (c4.fAsks.map D.i) 3 1, .lst (c4.fLenders.map D.i) 3 1] fun r' H' => r' = resOf [.d (.int .i64 r)] ∧ H' = [.row [.d (.sl (c3.fCosts.map (esl D.i))), .d (.sl (c3.fRoom.map D.i)), .d (.int .i64 c3.fPenalty)], .row [.hs 2 0 c4.fAsks.length 1, .hs 3 0 c4.fLenders.length 1], .lst (c4.fAsks.map D.i) 3 1, .lst (c4.fLenders.map D.i) 3 1] := by
  unfold m_route_Problem_prices_1 at hm
  refine ACall.of_AWG (fnn := Try.f52) Try.func52 rfl (Nat.le_of_ble_eq_true rfl) (fun g0 w0 hw0 => ?_)
  refine AW.reset 4 [(0, .d (.int .i64 a1)), (1, .d (.int .i64 a2)), (2, .ptr 0 0), (3, .ptr 1 0)] [.row [.d (.sl (c3.fCosts.map (esl D.i))), .d (.sl (c3.fRoom.map D.i)), .d (.int .i64 c3.fPenalty)], .row [.hs 2 0 c4.fAsks.length 1, .hs 3 0 c4.fLenders.length 1], .lst (c4.fAsks.map D.i) 3 1, .lst (c4.fLenders.map D.i) 3 1] (WOK.g0 hw0 (by simp)) ⟨[0, 1, 2, 3], rfl, rfl, rfl, ⟨(.d rfl), (.d rfl), (.ptr rfl), (.ptr rfl), trivial⟩, trivial, (.row rfl (.cons (.d rfl) (.cons (.d rfl) (.cons (.d rfl) .nil))) (.row rfl (.cons (.hs rfl rfl) (.cons (.hs rfl rfl) .nil)) (.lst rfl (.lst rfl .nil))))⟩ ?_
  refine AW.seqR ?_
  refine AL.s rfl (op_assignD (.e rfl)) ?_
  refine AL.nil ?_
  refine AW.seqR ?_
  refine AL.s rfl (op_field_ptr (.e rfl) fd30_2) ?_
  refine AL.s rfl (op_load_ptr1 (.e rfl) rfl rfl sc3) ?_
  refine AL.s rfl (op_assignD (.e rfl)) ?_
  refine AL.nil ?_
  refine AW.seq ?_
  refine AW.seqR ?_
  refine AL.s rfl (op_field_ptr (.e rfl) fd30_0) ?_
  refine AL.s rfl (op_load_ptr1 (.e rfl) rfl rfl sc22) ?_
  refine AL.s rfl (op_moveD (.e rfl)) ?_
  obtain ⟨v5, hv5, hm⟩ := bindE hm
  refine AL.s rfl (op_indexAddrM (f := (esl D.i)) (.r rfl) (.r rfl) hv5 En.sl sl22) ?_
  refine AL.s rfl (op_load_vp1 (.e rfl) rfl sc23) ?_
  refine AL.s rfl (op_lenM (f := D.i) (.r rfl) sl23) ?_
  refine AL.s rfl (op_moveD (.e rfl)) ?_
  refine AL.nil ?_
  refine AW.block ?_
  obtain ⟨t_1, hI1, hk1⟩ := bindE hm
  refine AW.loopS (σ := (Int × Int)) (τ := Int) 4 (fun x => [(1, .d (.int .i64 a2)), (3, .ptr 1 0), (7, .d (.int .i64 x.1)), (16, .d (.sl (v5.map D.i))), (17, .d (.int .i64 (v5.length : Int))), (18, .d (.int .i64 x.2))]) (fun x => [.row [.d (.sl (c3.fCosts.map (esl D.i))), .d (.sl (c3.fRoom.map D.i)), .d (.int .i64 c3.fPenalty)], .row [.hs 2 0 c4.fAsks.length 1, .hs 3 0 c4.fLenders.length 1], .lst (c4.fAsks.map D.i) 3 1, .lst (c4.fLenders.map D.i) 3 1]) hI1 (WOK.g0 hw0 (by simp)) ⟨[0, 1, 2, 3], rfl, rfl, rfl, ⟨(.d rfl), (.ptr rfl), (.d rfl), (.d rfl), (.d rfl), (.d rfl), trivial⟩, trivial, (.row rfl (.cons (.d rfl) (.cons (.d rfl) (.cons (.d rfl) .nil))) (.row rfl (.cons (.hs rfl rfl) (.cons (.hs rfl rfl) .nil)) (.lst rfl (.lst rfl .nil))))⟩ ?_
  rintro n1 ⟨s6, s7⟩ hI1
  obtain ⟨y_1, hm, hI1⟩ := iterS hI1
  replace hm : m_route_Problem_prices_1_L1 n _ _ _ s6 s7 = some y_1 := hm
  unfold m_route_Problem_prices_1_L1 at hm
  try dsimp only at hm
  refine AW.seqR ?_
  refine AL.s rfl (op_lss (.r rfl) (.r rfl)) ?_
  refine AL.nil ?_
  refine AW.seq ?_
  refine AW.cond (b := _) rfl (fun hc1 => ?_) (fun hc1 => ?_)
  · replace hm := iteT hc1 hm
    refine AW.skip ?_
    refine nq ?_
    obtain ⟨t_j1, hm, hkj1⟩ := bindE hm
    refine AW.cutS (α := Int) 4 (fun x => x = t_j1) (fun x => [(1, .d (.int .i64 a2)), (3, .ptr 1 0), (7, .d (.int .i64 x)), (16, .d (.sl (v5.map D.i))), (17, .d (.int .i64 (v5.length : Int))), (18, .d (.int .i64 s7))]) (fun x => [.row [.d (.sl (c3.fCosts.map (esl D.i))), .d (.sl (c3.fRoom.map D.i)), .d (.int .i64 c3.fPenalty)], .row [.hs 2 0 c4.fAsks.length 1, .hs 3 0 c4.fLenders.length 1], .lst (c4.fAsks.map D.i) 3 1, .lst (c4.fLenders.map D.i) 3 1]) (WOK.g0 hw0 (by simp)) ?_ ?_
    · skip
      refine AW.block ?_
      refine AW.seqR ?_
      refine AL.s rfl (op_moveD (.e rfl)) ?_
      obtain ⟨v8, hv8, hm⟩ := bindE hm
      refine AL.s rfl (op_indexAddrM (f := D.i) (.r rfl) (.r rfl) hv8 En.i sl23) ?_
      refine AL.s rfl (op_load_vp1 (.e rfl) rfl sc3) ?_
      refine AL.s rfl (op_assignD (.e rfl)) ?_
      refine AL.s rfl (op_assignD (.e rfl)) ?_
      refine AL.nil ?_
      refine AW.seqR ?_
      refine AL.s rfl (op_moveD (.e rfl)) ?_
      refine AL.s rfl (op_moveD (.e rfl)) ?_
      refine AL.s rfl (op_neq (.r rfl) (.r rfl)) ?_
      refine AL.s rfl (op_moveD (.e rfl)) ?_
      refine AL.sT rfl rfl rfl rfl (fun g => op_moveD (.e rfl)) ?_
      refine AL.sT rfl rfl rfl rfl (fun g => op_neq (.we g rfl rfl) (.r rfl)) ?_
      refine AL.s rfl (op_and (.r rfl) (fun h => (.we h rfl rfl)) rfl) ?_
      refine AL.nil ?_
      refine AW.cond (b := _) rfl (fun hc2 => ?_) (fun hc2 => ?_)
      · replace hm := iteT hc2 hm
        refine AW.region ?_
        refine AL.s rfl (op_moveD (.e rfl)) ?_
        refine AL.s rfl (op_moveD (.e rfl)) ?_
        refine AL.s rfl (op_field_ptr (.e rfl) fd31_1) ?_
        refine AL.s rfl (op_load_ptr1 (.e rfl) rfl rfl sc23) ?_
        refine AL.s rfl (op_moveD (.e rfl)) ?_
        obtain ⟨v9, hv9, hm⟩ := bindE hm
        refine AL.s rfl (op_indexAddr_hs (f := D.i) (l := c4.fLenders) (.e rfl) rfl rfl (.r rfl) hv9 sl23) ?_
        obtain ⟨v10, hv10, hm⟩ := bindE hm
        refine AL.s rfl (op_load_lp (f := D.i) (fun _ => rfl) (.e rfl) rfl hv10 sc3) ?_
        refine AL.s rfl (op_addw (.r rfl) (.r rfl)) ?_
        refine AL.s rfl (op_min (.r rfl) (.r rfl)) ?_
        refine AL.s rfl (op_assignD (.e rfl)) ?_
        refine AL.nil ?_
        refine bq_n ?_
        obtain rfl := Option.some.inj hm
        exact nq ⟨_, rfl, ⟨[0, 1, 2, 3], rfl, rfl, rfl, ⟨(.d rfl), (.ptr rfl), (.d rfl), (.d rfl), (.d rfl), (.d rfl), trivial⟩, trivial, (.row rfl (.cons (.d rfl) (.cons (.d rfl) (.cons (.d rfl) .nil))) (.row rfl (.cons (.hs rfl rfl) (.cons (.hs rfl rfl) .nil)) (.lst rfl (.lst rfl .nil))))⟩⟩
      · replace hm := iteF hc2 hm
        refine AW.skip ?_
        refine bq_n ?_
        obtain rfl := Option.some.inj hm
        exact nq ⟨_, rfl, ⟨[0, 1, 2, 3], rfl, rfl, rfl, ⟨(.d rfl), (.ptr rfl), (.d rfl), (.d rfl), (.d rfl), (.d rfl), trivial⟩, trivial, (.row rfl (.cons (.d rfl) (.cons (.d rfl) (.cons (.d rfl) .nil))) (.row rfl (.cons (.hs rfl rfl) (.cons (.hs rfl rfl) .nil)) (.lst rfl (.lst rfl .nil))))⟩⟩
    · rintro s11 rfl
      replace hm := hkj1
      try dsimp only at hm
      refine AW.region ?_
      refine AL.s rfl (op_addw (.r rfl) (.r rfl)) ?_
      refine AL.s rfl (op_moveD (.e rfl)) ?_
      refine AL.nil ?_
      obtain rfl := Option.some.inj hm
      exact nq ⟨_, hI1, ⟨[0, 1, 2, 3], rfl, rfl, rfl, ⟨(.d rfl), (.ptr rfl), (.d rfl), (.d rfl), (.d rfl), (.d rfl), trivial⟩, trivial, (.row rfl (.cons (.d rfl) (.cons (.d rfl) (.cons (.d rfl) .nil))) (.row rfl (.cons (.hs rfl rfl) (.cons (.hs rfl rfl) .nil)) (.lst rfl (.lst rfl .nil))))⟩⟩
  · replace hm := iteF hc1 hm
    refine AW.exit ?_
    refine tq_exit ?_
    refine tq_exit ?_
    obtain rfl := Option.some.inj hm
    obtain rfl := Option.some.inj hI1
    replace hm := hk1
    try dsimp only at hm
    refine bq_hit ?_
    refine nq ?_
    refine AW.seqR ?_
    refine AL.s rfl (op_moveD (.e rfl)) ?_
    refine AL.s rfl (op_assignD (.e rfl)) ?_
    refine AL.nil ?_
    refine AW.ret ?_
    obtain rfl := Option.some.inj hm
    exact ⟨_, [0, 1, 2, 3], (.tmp (.e rfl) .nil), rfl, rfl, (.cons (.d rfl) .nil), (.row rfl (.cons (.d rfl) (.cons (.d rfl) (.cons (.d rfl) .nil))) (.row rfl (.cons (.hs rfl rfl) (.cons (.hs rfl rfl) .nil)) (.lst rfl (.lst rfl .nil))))⟩

set_option maxHeartbeats 20000000 in
theorem m_route_Problem_prices_ok {n : Nat} {a1 : SProblem} {a2 : (List Int)} {r : SPrices} (hm : m_route_Problem_prices n a1 a2 = some r) : Fn Try.prog 37 [(SProblem.e a1), (.sl (a2.map D.i))] (SPrices.e r) := by
  unfold m_route_Problem_prices at hm
  refine Fn.of_AW (fnn := Try.f37) Try.func37 rfl (Nat.le_of_ble_eq_true rfl) (fun g0 w0 hw0 => ?_)
  refine AW.reset 0 [(0, .d (SProblem.e a1)), (1, .d (.sl (a2.map D.i)))] [] (WOK.g0 hw0 (by simp)) ⟨[], rfl, rfl, rfl, ⟨(.d rfl), (.d rfl), trivial⟩, trivial, .nil⟩ ?_
  refine AW.seqR ?_
  refine AL.s rfl (op_box (n := 0) (.e rfl) rfl rfl rfl) ?_
  refine AL.s rfl (op_alloc (n := 1) zr31 rfl) ?_
  refine AL.nil ?_
  refine AW.seqR ?_
  refine AL.s rfl (op_field_ptr (.e rfl) fd30_1) ?_
  refine AL.s rfl (op_load_ptr1 (.e rfl) rfl rfl sc23) ?_
  refine AL.s rfl (op_lenM (f := D.i) (.r rfl) sl23) ?_
  obtain ⟨v3, hv3, hm⟩ := bindE hm
  refine AL.s rfl (op_makeM (n := 2) (f := D.i) (.r rfl) sl23 zr3 rfl rfl hv3) ?_
  refine AL.s rfl (op_assignH (.e rfl)) ?_
  refine AL.nil ?_
  refine AW.seq ?_
  refine AW.seqR ?_
  refine AL.s rfl (op_moveD (.e rfl)) ?_
  refine AL.s rfl (op_lenM (f := D.i) (.r rfl) sl23) ?_
  refine AL.s rfl (op_moveD (.e rfl)) ?_
  refine AL.nil ?_
  refine AW.block ?_
  obtain ⟨t_1, hI1, hk1⟩ := bindE hm
  refine AW.loopS (σ := (Int × (List Int))) (τ := (List Int)) 0 (fun x => [(1, .d (.sl (a2.map D.i))), (2, .ptr 0 0), (4, .ptr 1 0), (5, .hs 2 0 x.2.length 1), (22, .d (.sl (a2.map D.i))), (23, .d (.int .i64 (a2.length : Int))), (24, .d (.int .i64 x.1))]) (fun x => [.row [.d (.sl (a1.fCosts.map (esl D.i))), .d (.sl (a1.fRoom.map D.i)), .d (.int .i64 a1.fPenalty)], .row [.ex ([].map D.i), .ex ([].map D.i)], .lst (x.2.map D.i) 3 1]) hI1 (WOK.g0 hw0 (by simp)) ⟨[0, 1, 2], rfl, rfl, rfl, ⟨(.d rfl), (.ptr rfl), (.ptr rfl), (.hs rfl rfl), (.d rfl), (.d rfl), (.d rfl), trivial⟩, trivial, (.row rfl (.cons (.d rfl) (.cons (.d rfl) (.cons (.d rfl) .nil))) (.row rfl (.cons .ex (.cons .ex .nil)) (.lst rfl .nil)))⟩ ?_
  rintro n1 ⟨s4, s5⟩ hI1
  obtain ⟨y_1, hm, hI1⟩ := iterS hI1
  replace hm : m_route_Problem_prices_L1 n _ s4 s5 = some y_1 := hm
  unfold m_route_Problem_prices_L1 at hm
  try dsimp only at hm
  refine AW.seqR ?_
  refine AL.s rfl (op_lss (.r rfl) (.r rfl)) ?_
  refine AL.nil ?_
  refine AW.seq ?_
  refine AW.cond (b := _) rfl (fun hc1 => ?_) (fun hc1 => ?_)
  · replace hm := iteT hc1 hm
    refine AW.skip ?_
    refine nq ?_
    obtain ⟨t_j1, hm, hkj1⟩ := bindE hm
    refine AW.cutS (α := (List Int)) 0 (fun x => x = t_j1) (fun x => [(1, .d (.sl (a2.map D.i))), (2, .ptr 0 0), (4, .ptr 1 0), (5, .hs 2 0 x.length 1), (22, .d (.sl (a2.map D.i))), (23, .d (.int .i64 (a2.length : Int))), (24, .d (.int .i64 s4))]) (fun x => [.row [.d (.sl (a1.fCosts.map (esl D.i))), .d (.sl (a1.fRoom.map D.i)), .d (.int .i64 a1.fPenalty)], .row [.ex ([].map D.i), .ex ([].map D.i)], .lst (x.map D.i) 3 1]) (WOK.g0 hw0 (by simp)) ?_ ?_
    · skip
      refine AW.block ?_
      refine AW.seqR ?_
      obtain ⟨v6, hv6, hm⟩ := bindE hm
      refine AL.s rfl (op_indexAddrM (f := D.i) (.r rfl) (.r rfl) hv6 En.i sl23) ?_
      refine AL.s rfl (op_load_vp1 (.e rfl) rfl sc3) ?_
      refine AL.s rfl (op_assignD (.e rfl)) ?_
      refine AL.nil ?_
      refine AW.seqR ?_
      refine AL.s rfl (op_moveD (.e rfl)) ?_
      refine AL.s rfl (op_neq (.r rfl) (.r rfl)) ?_
      refine AL.nil ?_
      refine AW.cond (b := _) rfl (fun hc2 => ?_) (fun hc2 => ?_)
      · replace hm := iteT hc2 hm
        refine AW.region ?_
        refine AL.s rfl (op_moveH (.e rfl)) ?_
        refine AL.s rfl (op_moveD (.e rfl)) ?_
        obtain ⟨v7, hv7, hm⟩ := bindE hm
        refine AL.s rfl (op_indexAddr_hs (f := D.i) (l := s5) (.e rfl) rfl rfl (.r rfl) hv7 sl23) ?_
        obtain ⟨v8, hv8, hm⟩ := bindE hm
        refine AL.s rfl (op_load_lp (f := D.i) (fun _ => rfl) (.e rfl) rfl hv8 sc3) ?_
        refine AL.s rfl (op_addw (.r rfl) (.r rfl)) ?_
        obtain ⟨v9, hv9, hm⟩ := bindE hm
        refine AL.s rfl (op_indexAddr_hs (f := D.i) (l := s5) (.e rfl) rfl rfl (.r rfl) hv9 sl23) ?_
        obtain ⟨v10, hv10, hm⟩ := bindE hm
        refine AL.s rfl (op_store_lp (f := D.i) (fun _ => rfl) (.e rfl) (.r rfl) rfl hv10 ⟨_, rfl, rfl⟩ En.i) ?_
        refine AL.nil ?_
        refine bq_n ?_
        obtain rfl := Option.some.inj hm
        exact nq ⟨_, rfl, ⟨[0, 1, 2], rfl, rfl, rfl, ⟨(.d rfl), (.ptr rfl), (.ptr rfl), (.hs rfl (setI_len hv10).symm), (.d rfl), (.d rfl), (.d rfl), trivial⟩, trivial, (.row rfl (.cons (.d rfl) (.cons (.d rfl) (.cons (.d rfl) .nil))) (.row rfl (.cons .ex (.cons .ex .nil)) (.lst rfl .nil)))⟩⟩
      · replace hm := iteF hc2 hm
        refine AW.skip ?_
        refine bq_n ?_
        obtain rfl := Option.some.inj hm
        exact nq ⟨_, rfl, ⟨[0, 1, 2], rfl, rfl, rfl, ⟨(.d rfl), (.ptr rfl), (.ptr rfl), (.hs rfl rfl), (.d rfl), (.d rfl), (.d rfl), trivial⟩, trivial, (.row rfl (.cons (.d rfl) (.cons (.d rfl) (.cons (.d rfl) .nil))) (.row rfl (.cons .ex (.cons .ex .nil)) (.lst rfl .nil)))⟩⟩
    · rintro s11 rfl
      replace hm := hkj1
      try dsimp only at hm
      refine AW.region ?_
      refine AL.s rfl (op_addw (.r rfl) (.r rfl)) ?_
      refine AL.s rfl (op_moveD (.e rfl)) ?_
      refine AL.nil ?_
      obtain rfl := Option.some.inj hm
      exact nq ⟨_, hI1, ⟨[0, 1, 2], rfl, rfl, rfl, ⟨(.d rfl), (.ptr rfl), (.ptr rfl), (.hs rfl rfl), (.d rfl), (.d rfl), (.d rfl), trivial⟩, trivial, (.row rfl (.cons (.d rfl) (.cons (.d rfl) (.cons (.d rfl) .nil))) (.row rfl (.cons .ex (.cons .ex .nil)) (.lst rfl .nil)))⟩⟩
  · replace hm := iteF hc1 hm
    refine AW.exit ?_
    refine tq_exit ?_
    refine tq_exit ?_
    obtain rfl := Option.some.inj hm
    obtain rfl := Option.some.inj hI1
    replace hm := hk1
    try dsimp only at hm
    refine bq_hit ?_
    refine nq ?_
    refine AW.seqR ?_
    refine AL.s rfl (op_build bd31 .nil) ?_
    refine AL.s rfl (op_alloc (n := 3) zr31 rfl) ?_
    refine AL.s rfl (op_storeA (.e rfl) (.e rfl) rfl rfl ⟨_, rfl, rfl⟩ rfl (Nat.le_of_ble_eq_true rfl)) ?_
    refine AL.nil ?_
    refine AW.seq ?_
    refine AW.seqR ?_
    refine AL.s rfl (op_field_ptr (.e rfl) fd30_1) ?_
    refine AL.s rfl (op_load_ptr1 (.e rfl) rfl rfl sc23) ?_
    refine AL.s rfl (op_lenM (f := D.i) (.r rfl) sl23) ?_
    refine AL.s rfl (op_moveD (.e rfl)) ?_
    refine AL.nil ?_
    refine AW.block ?_
    refine AW.lstizeC (n := 4) 3 1 3 1 rfl rfl rfl ?_
    obtain ⟨t_2, hI2, hk2⟩ := bindE hm
    refine AW.loopS (σ := (Int × (List Int))) (τ := (List Int)) 0 (fun x => [(1, .d (.sl (a2.map D.i))), (2, .ptr 0 0), (4, .ptr 1 0), (5, .hs 2 0 s5.length 1), (8, .ptr 3 0), (39, .d (.sl (a1.fRoom.map D.i))), (40, .d (.int .i64 (a1.fRoom.length : Int))), (41, .d (.int .i64 x.1))]) (fun x => [.row [.d (.sl (a1.fCosts.map (esl D.i))), .d (.sl (a1.fRoom.map D.i)), .d (.int .i64 a1.fPenalty)], .row [.ex ([].map D.i), .ex ([].map D.i)], .lst (s5.map D.i) 3 1, .row [.ex ([].map D.i), .hs 4 0 x.2.length 1], .lst (x.2.map D.i) 3 1]) hI2 (WOK.g0 hw0 (by simp)) ⟨[0, 1, 2, 3, 4], rfl, rfl, rfl, ⟨(.d rfl), (.ptr rfl), (.ptr rfl), (.hs rfl rfl), (.ptr rfl), (.d rfl), (.d rfl), (.d rfl), trivial⟩, trivial, (.row rfl (.cons (.d rfl) (.cons (.d rfl) (.cons (.d rfl) .nil))) (.row rfl (.cons .ex (.cons .ex .nil)) (.lst rfl (.row rfl (.cons .ex (.cons (.hs rfl rfl) .nil)) (.lst rfl .nil)))))⟩ ?_
    rintro n2 ⟨s12, s13⟩ hI2
    obtain ⟨y_2, hm, hI2⟩ := iterS hI2
    replace hm : m_route_Problem_prices_L2 n _ _ s12 s13 = some y_2 := hm
    unfold m_route_Problem_prices_L2 at hm
    try dsimp only at hm
    refine AW.seqR ?_
    refine AL.s rfl (op_lss (.r rfl) (.r rfl)) ?_
    refine AL.nil ?_
    refine AW.seq ?_
    refine AW.cond (b := _) rfl (fun hc3 => ?_) (fun hc3 => ?_)
    · replace hm := iteT hc3 hm
      refine AW.skip ?_
      refine nq ?_
      refine AW.seq ?_
      refine AW.block ?_
      refine AW.seqR ?_
      refine AL.s rfl (op_moveD (.e rfl)) ?_
      obtain ⟨v14, hv14, hm⟩ := bindE hm
      refine AL.s rfl (op_indexAddrM (f := D.i) (.r rfl) (.r rfl) hv14 En.i sl23) ?_
      refine AL.s rfl (op_load_vp1 (.e rfl) rfl sc3) ?_
      refine AL.s rfl (op_assignD (.e rfl)) ?_
      refine AL.s rfl (op_assignD (.e rfl)) ?_
      refine AL.nil ?_
      refine AW.seqR ?_
      refine AL.s rfl (op_field_ptr (.e rfl) fd30_2) ?_
      refine AL.s rfl (op_load_ptr1 (.e rfl) rfl rfl sc3) ?_
      refine AL.s rfl (op_assignD (.e rfl)) ?_
      refine AL.nil ?_
      obtain ⟨t_j2, hm, hkj2⟩ := bindE hm
      refine AW.cutS (α := Int) 0 (fun x => x = t_j2) (fun x => [(1, .d (.sl (a2.map D.i))), (2, .ptr 0 0), (4, .ptr 1 0), (5, .hs 2 0 s5.length 1), (8, .ptr 3 0), (11, .d (.int .i64 x)), (39, .d (.sl (a1.fRoom.map D.i))), (40, .d (.int .i64 (a1.fRoom.length : Int))), (41, .d (.int .i64 s12))]) (fun x => [.row [.d (.sl (a1.fCosts.map (esl D.i))), .d (.sl (a1.fRoom.map D.i)), .d (.int .i64 a1.fPenalty)], .row [.ex ([].map D.i), .ex ([].map D.i)], .lst (s5.map D.i) 3 1, .row [.ex ([].map D.i), .hs 4 0 s13.length 1], .lst (s13.map D.i) 3 1]) (WOK.g0 hw0 (by simp)) ?_ ?_
      · skip
        refine AW.seqR ?_
        refine AL.s rfl (op_moveH (.e rfl)) ?_
        refine AL.s rfl (op_moveD (.e rfl)) ?_
        obtain ⟨v15, hv15, hm⟩ := bindE hm
        refine AL.s rfl (op_indexAddr_hs (f := D.i) (l := s5) (.e rfl) rfl rfl (.r rfl) hv15 sl23) ?_
        obtain ⟨v16, hv16, hm⟩ := bindE hm
        refine AL.s rfl (op_load_lp (f := D.i) (fun _ => rfl) (.e rfl) rfl hv16 sc3) ?_
        refine AL.s rfl (op_moveD (.e rfl)) ?_
        refine AL.s rfl (op_lss (.r rfl) (.r rfl)) ?_
        refine AL.nil ?_
        refine AW.cond (b := _) rfl (fun hc4 => ?_) (fun hc4 => ?_)
        · replace hm := iteT hc4 hm
          refine AW.region ?_
          refine AL.s rfl (op_assignD (.e rfl)) ?_
          refine AL.nil ?_
          obtain rfl := Option.some.inj hm
          exact nq ⟨_, rfl, ⟨[0, 1, 2, 3, 4], rfl, rfl, rfl, ⟨(.d rfl), (.ptr rfl), (.ptr rfl), (.hs rfl rfl), (.ptr rfl), (.d rfl), (.d rfl), (.d rfl), (.d rfl), trivial⟩, trivial, (.row rfl (.cons (.d rfl) (.cons (.d rfl) (.cons (.d rfl) .nil))) (.row rfl (.cons .ex (.cons .ex .nil)) (.lst rfl (.row rfl (.cons .ex (.cons (.hs rfl rfl) .nil)) (.lst rfl .nil)))))⟩⟩
        · replace hm := iteF hc4 hm
          refine AW.skip ?_
          obtain rfl := Option.some.inj hm
          exact nq ⟨_, rfl, ⟨[0, 1, 2, 3, 4], rfl, rfl, rfl, ⟨(.d rfl), (.ptr rfl), (.ptr rfl), (.hs rfl rfl), (.ptr rfl), (.d rfl), (.d rfl), (.d rfl), (.d rfl), trivial⟩, trivial, (.row rfl (.cons (.d rfl) (.cons (.d rfl) (.cons (.d rfl) .nil))) (.row rfl (.cons .ex (.cons .ex .nil)) (.lst rfl (.row rfl (.cons .ex (.cons (.hs rfl rfl) .nil)) (.lst rfl .nil)))))⟩⟩
      · rintro s17 rfl
        replace hm := hkj2
        try dsimp only at hm
        refine AW.region ?_
        refine AL.s rfl (op_field_ptr (.e rfl) fd31_1) ?_
        refine AL.s rfl (op_load_ptr1 (.e rfl) rfl rfl sc23) ?_
        refine AL.s rfl (op_moveD (.e rfl)) ?_
        refine AL.s rfl (op_buildSlice (ds := ([s17] : List Int).map D.i) sl23 (.cons (.r rfl) rfl (En.i.one _) .nil) rfl (by decide)) ?_
        obtain ⟨v18, hv18, hm⟩ := bindE hm
        refine AL.s rfl (op_appendHM (n := 5) (f := D.i) (l := s13) (l' := ([s17] : List Int)) sl23 (.e rfl) (.r rfl) rfl rfl rfl En.i hv18) ?_
        refine AL.s rfl (op_field_ptr (.e rfl) fd31_1) ?_
        refine AL.s rfl (op_store (.e rfl) (.e rfl) rfl rfl rfl ⟨_, rfl, rfl⟩ rfl (Nat.le_of_ble_eq_true rfl)) ?_
        refine AL.nil ?_
        refine bq_n ?_
        refine nq ?_
        refine AW.region ?_
        refine AL.s rfl (op_addw (.r rfl) (.r rfl)) ?_
        refine AL.s rfl (op_moveD (.e rfl)) ?_
        refine AL.nil ?_
        obtain rfl := Option.some.inj hm
        exact nq ⟨_, hI2, ⟨[0, 1, 2, 3, 5], rfl, rfl, rfl, ⟨(.d rfl), (.ptr rfl), (.ptr rfl), (.hs rfl rfl), (.ptr rfl), (.d rfl), (.d rfl), (.d rfl), trivial⟩, trivial, (.row rfl (.cons (.d rfl) (.cons (.d rfl) (.cons (.d rfl) .nil))) (.row rfl (.cons .ex (.cons .ex .nil)) (.lst rfl (.row rfl (.cons .ex (.cons (.hs rfl rfl) .nil)) (.lst rfl .nil)))))⟩⟩
    · replace hm := iteF hc3 hm
      refine AW.exit ?_
      refine tq_exit ?_
      refine tq_exit ?_
      obtain rfl := Option.some.inj hm
      obtain rfl := Option.some.inj hI2
      replace hm := hk2
      try dsimp only at hm
      refine bq_hit ?_
      refine nq ?_
      refine AW.seqR ?_
      refine AL.s rfl (op_makeFunc (.cons (.e rfl) (.cons (.e rfl) .nil))) ?_
      refine AL.s rfl (op_assignF (.e rfl)) ?_
      refine AL.nil ?_
      refine AW.seq ?_
      refine AW.seqR ?_
      refine AL.s rfl (op_assignD (.e rfl)) ?_
      refine AL.nil ?_
      refine AW.block ?_
      obtain ⟨t_3, hI3, hk3⟩ := bindE hm
      refine AW.loopS (σ := (Bool × (List Int))) (τ := (List Int)) 0 (fun x => [(1, .d (.sl (a2.map D.i))), (2, .ptr 0 0), (4, .ptr 1 0), (8, .ptr 3 0), (12, .fn (.func 52) [.ptr 0 0, .ptr 3 0]), (13, .d (.bool x.1))]) (fun x => [.row [.d (.sl (a1.fCosts.map (esl D.i))), .d (.sl (a1.fRoom.map D.i)), .d (.int .i64 a1.fPenalty)], .row [.ex ([].map D.i), .ex ([].map D.i)], .lst (s5.map D.i) 3 1, .row [.ex ([].map D.i), .hs 4 0 x.2.length 1], .lst (x.2.map D.i) 3 1]) hI3 (WOK.g0 hw0 (by simp)) ⟨[0, 1, 2, 3, 4], rfl, rfl, rfl, ⟨(.d rfl), (.ptr rfl), (.ptr rfl), (.ptr rfl), (.fn2 (.ptr rfl) (.ptr rfl)), (.d rfl), trivial⟩, trivial, (.row rfl (.cons (.d rfl) (.cons (.d rfl) (.cons (.d rfl) .nil))) (.row rfl (.cons .ex (.cons .ex .nil)) (.lst rfl (.row rfl (.cons .ex (.cons (.hs rfl rfl) .nil)) (.lst rfl .nil)))))⟩ ?_
      rintro n3 ⟨s19, s20⟩ hI3
      obtain ⟨y_3, hm, hI3⟩ := iterS hI3
      replace hm : m_route_Problem_prices_L3 n _ _ s19 s20 = some y_3 := hm
      unfold m_route_Problem_prices_L3 at hm
      try dsimp only at hm
      refine AW.seq ?_
      refine AW.seqR ?_
      refine AL.s rfl (op_moveD (.e rfl)) ?_
      refine AL.nil ?_
      refine AW.cond (b := _) rfl (fun hc5 => ?_) (fun hc5 => ?_)
      · replace hm := iteT hc5 hm
        refine AW.skip ?_
        refine nq ?_
        refine AW.block ?_
        refine AW.seqR ?_
        refine AL.s rfl (op_assignD (.e rfl)) ?_
        refine AL.nil ?_
        refine AW.seqR ?_
        refine AL.s rfl (op_moveD (.e rfl)) ?_
        refine AL.s rfl (op_lenM (f := D.i) (.r rfl) sl23) ?_
        refine AL.s rfl (op_moveD (.e rfl)) ?_
        refine AL.nil ?_
        refine AW.block ?_
        obtain ⟨t_4, hI4, hk4⟩ := bindE hm
        refine AW.loopS (σ := (Bool × Int × (List Int))) (τ := (Bool × (List Int))) 0 (fun x => [(1, .d (.sl (a2.map D.i))), (2, .ptr 0 0), (4, .ptr 1 0), (8, .ptr 3 0), (12, .fn (.func 52) [.ptr 0 0, .ptr 3 0]), (13, .d (.bool x.1)), (63, .d (.sl (a2.map D.i))), (64, .d (.int .i64 (a2.length : Int))), (65, .d (.int .i64 x.2.1))]) (fun x => [.row [.d (.sl (a1.fCosts.map (esl D.i))), .d (.sl (a1.fRoom.map D.i)), .d (.int .i64 a1.fPenalty)], .row [.ex ([].map D.i), .ex ([].map D.i)], .lst (s5.map D.i) 3 1, .row [.ex ([].map D.i), .hs 4 0 x.2.2.length 1], .lst (x.2.2.map D.i) 3 1]) hI4 (WOK.g0 hw0 (by simp)) ⟨[0, 1, 2, 3, 4], rfl, rfl, rfl, ⟨(.d rfl), (.ptr rfl), (.ptr rfl), (.ptr rfl), (.fn2 (.ptr rfl) (.ptr rfl)), (.d rfl), (.d rfl), (.d rfl), (.d rfl), trivial⟩, trivial, (.row rfl (.cons (.d rfl) (.cons (.d rfl) (.cons (.d rfl) .nil))) (.row rfl (.cons .ex (.cons .ex .nil)) (.lst rfl (.row rfl (.cons .ex (.cons (.hs rfl rfl) .nil)) (.lst rfl .nil)))))⟩ ?_
        rintro n4 ⟨s21, s22, s23⟩ hI4
        obtain ⟨y_4, hm, hI4⟩ := iterS hI4
        replace hm : m_route_Problem_prices_L4 n _ _ s21 s22 s23 = some y_4 := hm
        unfold m_route_Problem_prices_L4 at hm
        try dsimp only at hm
        refine AW.seqR ?_
        refine AL.s rfl (op_lss (.r rfl) (.r rfl)) ?_
        refine AL.nil ?_
        refine AW.seq ?_
        refine AW.cond (b := _) rfl (fun hc6 => ?_) (fun hc6 => ?_)
        · replace hm := iteT hc6 hm
          refine AW.skip ?_
          refine nq ?_
          obtain ⟨t_j3, hm, hkj3⟩ := bindE hm
          refine AW.cutS (α := (Bool × (List Int))) 0 (fun x => x = t_j3) (fun x => [(1, .d (.sl (a2.map D.i))), (2, .ptr 0 0), (4, .ptr 1 0), (8, .ptr 3 0), (12, .fn (.func 52) [.ptr 0 0, .ptr 3 0]), (13, .d (.bool x.1)), (63, .d (.sl (a2.map D.i))), (64, .d (.int .i64 (a2.length : Int))), (65, .d (.int .i64 s22))]) (fun x => [.row [.d (.sl (a1.fCosts.map (esl D.i))), .d (.sl (a1.fRoom.map D.i)), .d (.int .i64 a1.fPenalty)], .row [.ex ([].map D.i), .ex ([].map D.i)], .lst (s5.map D.i) 3 1, .row [.ex ([].map D.i), .hs 4 0 x.2.length 1], .lst (x.2.map D.i) 3 1]) (WOK.g0 hw0 (by simp)) ?_ ?_
          · skip
            refine AW.block ?_
            refine AW.seqR ?_
            refine AL.s rfl (op_moveD (.e rfl)) ?_
            obtain ⟨v24, hv24, hm⟩ := bindE hm
            refine AL.s rfl (op_indexAddrM (f := D.i) (.r rfl) (.r rfl) hv24 En.i sl23) ?_
            refine AL.s rfl (op_load_vp1 (.e rfl) rfl sc3) ?_
            refine AL.s rfl (op_assignD (.e rfl)) ?_
            refine AL.s rfl (op_assignD (.e rfl)) ?_
            refine AL.nil ?_
            refine AW.seq ?_
            refine AW.reset 0 [(1, .d (.sl (a2.map D.i))), (2, .ptr 0 0), (4, .ptr 1 0), (8, .ptr 3 0), (12, .fn (.func 52) [.ptr 0 0, .ptr 3 0]), (13, .d (.bool s21)), (14, .d (.int .i64 s22)), (15, .d (.int .i64 v24)), (63, .d (.sl (a2.map D.i))), (64, .d (.int .i64 (a2.length : Int))), (65, .d (.int .i64 s22))] [.row [.d (.sl (a1.fCosts.map (esl D.i))), .d (.sl (a1.fRoom.map D.i)), .d (.int .i64 a1.fPenalty)], .row [.ex ([].map D.i), .ex ([].map D.i)], .lst (s5.map D.i) 3 1, .row [.ex ([].map D.i), .hs 4 0 s23.length 1], .lst (s23.map D.i) 3 1] (WOK.g0 hw0 (by simp)) ⟨[0, 1, 2, 3, 4], rfl, rfl, rfl, ⟨(.d rfl), (.ptr rfl), (.ptr rfl), (.ptr rfl), (.fn2 (.ptr rfl) (.ptr rfl)), (.d rfl), (.d rfl), (.d rfl), (.d rfl), (.d rfl), (.d rfl), trivial⟩, trivial, (.row rfl (.cons (.d rfl) (.cons (.d rfl) (.cons (.d rfl) .nil))) (.row rfl (.cons .ex (.cons .ex .nil)) (.lst rfl (.row rfl (.cons .ex (.cons (.hs rfl rfl) .nil)) (.lst rfl .nil)))))⟩ ?_
            refine AW.seqR ?_
            refine AL.s rfl (op_moveD (.e rfl)) ?_
            refine AL.s rfl (op_eql (.r rfl) (.r rfl)) ?_
            refine AL.nil ?_
            refine AW.cond (b := _) rfl (fun hc7 => ?_) (fun hc7 => ?_)
            · replace hm := iteT hc7 hm
              refine AW.exit ?_
              refine tq_exit ?_
              refine bq_hit ?_
              obtain rfl := Option.some.inj hm
              exact nq ⟨_, rfl, ⟨[0, 1, 2, 3, 4], rfl, rfl, rfl, ⟨(.d rfl), (.ptr rfl), (.ptr rfl), (.ptr rfl), (.fn2 (.ptr rfl) (.ptr rfl)), (.d rfl), (.d rfl), (.d rfl), (.d rfl), trivial⟩, trivial, (.row rfl (.cons (.d rfl) (.cons (.d rfl) (.cons (.d rfl) .nil))) (.row rfl (.cons .ex (.cons .ex .nil)) (.lst rfl (.row rfl (.cons .ex (.cons (.hs rfl rfl) .nil)) (.lst rfl .nil)))))⟩⟩
            · replace hm := iteF hc7 hm
              refine AW.skip ?_
              refine nq ?_
              refine AW.seqD [([], []), ([], []), ([], []), ([0, 3, 4], []), ([], []), ([0], []), ([], []), ([], []), ([], []), ([], []), ([], []), ([], []), ([], []), ([], [])] mo (by decide +kernel) ?_
              refine AD.s (ws := []) rfl rfl (fun H' _ hH => op_moveF (.e rfl)) ?_
              refine AD.s (ws := []) rfl rfl (fun H' _ hH => op_moveD (.e rfl)) ?_
              refine AD.s (ws := []) rfl rfl (fun H' _ hH => op_moveD (.e rfl)) ?_
              obtain ⟨v25, hv25, hm⟩ := bindE hm
              refine AD.s (ws := []) rfl rfl (fun H' _ hH => op_callQ [0, 3, 4] Try.call52 (.e rfl) (.cons (.e rfl) (.cons (.e rfl) .nil)) (m_route_Problem_prices_1_ok hv25) rfl (.cons ((hH _ (by simp)).trans rfl) (.cons ((hH _ (by simp)).trans rfl) (.cons ((hH _ (by simp)).trans rfl) .nil))) rfl rfl rfl rfl rfl) ?_
              refine AD.s (ws := []) rfl rfl (fun H' _ hH => op_field_ptr (.e rfl) fd30_0) ?_
              refine AD.s (ws := []) rfl rfl (fun H' _ hH => op_load_ptr1 (.e rfl) ((hH _ (by simp)).trans rfl) rfl sc22) ?_
              refine AD.s (ws := []) rfl rfl (fun H' _ hH => op_moveD (.e rfl)) ?_
              obtain ⟨v26, hv26, hm⟩ := bindE hm
              refine AD.s (ws := []) rfl rfl (fun H' _ hH => op_indexAddrM (f := (esl D.i)) (.r rfl) (.r rfl) hv26 En.sl sl22) ?_
              refine AD.s (ws := []) rfl rfl (fun H' _ hH => op_load_vp1 (.e rfl) rfl sc23) ?_
              refine AD.s (ws := []) rfl rfl (fun H' _ hH => op_moveD (.e rfl)) ?_
              obtain ⟨v27, hv27, hm⟩ := bindE hm
              refine AD.s (ws := []) rfl rfl (fun H' _ hH => op_indexAddrM (f := D.i) (.r rfl) (.r rfl) hv27 En.i sl23) ?_
              refine AD.s (ws := []) rfl rfl (fun H' _ hH => op_load_vp1 (.e rfl) rfl sc3) ?_
              refine AD.s (ws := []) rfl rfl (fun H' _ hH => op_subw (.r rfl) (.r rfl)) ?_
              refine AD.s (ws := []) rfl rfl (fun H' _ hH => op_assignD (.e rfl)) ?_
              refine AD.nil ?_
              refine AW.seqR ?_
              refine AL.s rfl (op_moveD (.e rfl)) ?_
              refine AL.s rfl (op_field_ptr (.e rfl) fd31_1) ?_
              refine AL.s rfl (op_load_ptr1 (.e rfl) rfl rfl sc23) ?_
              refine AL.s rfl (op_moveD (.e rfl)) ?_
              obtain ⟨v28, hv28, hm⟩ := bindE hm
              refine AL.s rfl (op_indexAddr_hs (f := D.i) (l := s23) (.e rfl) rfl rfl (.r rfl) hv28 sl23) ?_
              obtain ⟨v29, hv29, hm⟩ := bindE hm
              refine AL.s rfl (op_load_lp (f := D.i) (fun _ => rfl) (.e rfl) rfl hv29 sc3) ?_
              refine AL.s rfl (op_lss (.r rfl) (.r rfl)) ?_
              refine AL.nil ?_
              refine AW.cond (b := _) rfl (fun hc8 => ?_) (fun hc8 => ?_)
              · replace hm := iteT hc8 hm
                refine AW.region ?_
                refine AL.s rfl (op_field_ptr (.e rfl) fd31_1) ?_
                refine AL.s rfl (op_load_ptr1 (.e rfl) rfl rfl sc23) ?_
                refine AL.s rfl (op_moveD (.e rfl)) ?_
                refine AL.s rfl (op_moveD (.e rfl)) ?_
                obtain ⟨v30, hv30, hm⟩ := bindE hm
                refine AL.s rfl (op_indexAddr_hs (f := D.i) (l := s23) (.e rfl) rfl rfl (.r rfl) hv30 sl23) ?_
                obtain ⟨v31, hv31, hm⟩ := bindE hm
                refine AL.s rfl (op_store_lp (f := D.i) (fun _ => rfl) (.e rfl) (.r rfl) rfl hv31 ⟨_, rfl, rfl⟩ En.i) ?_
                refine AL.s rfl (op_assignD (.e rfl)) ?_
                refine AL.nil ?_
                refine bq_n ?_
                obtain rfl := Option.some.inj hm
                exact nq ⟨_, rfl, ⟨[0, 1, 2, 3, 4], rfl, rfl, rfl, ⟨(.d rfl), (.ptr rfl), (.ptr rfl), (.ptr rfl), (.fn2 (.ptr rfl) (.ptr rfl)), (.d rfl), (.d rfl), (.d rfl), (.d rfl), trivial⟩, trivial, (.row rfl (.cons (.d rfl) (.cons (.d rfl) (.cons (.d rfl) .nil))) (.row rfl (.cons .ex (.cons .ex .nil)) (.lst rfl (.row rfl (.cons .ex (.cons (.hs rfl (setI_len hv31).symm) .nil)) (.lst rfl .nil)))))⟩⟩
              · replace hm := iteF hc8 hm
                refine AW.skip ?_
                refine bq_n ?_
                obtain rfl := Option.some.inj hm
                exact nq ⟨_, rfl, ⟨[0, 1, 2, 3, 4], rfl, rfl, rfl, ⟨(.d rfl), (.ptr rfl), (.ptr rfl), (.ptr rfl), (.fn2 (.ptr rfl) (.ptr rfl)), (.d rfl), (.d rfl), (.d rfl), (.d rfl), trivial⟩, trivial, (.row rfl (.cons (.d rfl) (.cons (.d rfl) (.cons (.d rfl) .nil))) (.row rfl (.cons .ex (.cons .ex .nil)) (.lst rfl (.row rfl (.cons .ex (.cons (.hs rfl rfl) .nil)) (.lst rfl .nil)))))⟩⟩
          · rintro ⟨s32, s33⟩ rfl
            replace hm := hkj3
            try dsimp only at hm
            refine AW.region ?_
            refine AL.s rfl (op_addw (.r rfl) (.r rfl)) ?_
            refine AL.s rfl (op_moveD (.e rfl)) ?_
            refine AL.nil ?_
            obtain rfl := Option.some.inj hm
            exact nq ⟨_, hI4, ⟨[0, 1, 2, 3, 4], rfl, rfl, rfl, ⟨(.d rfl), (.ptr rfl), (.ptr rfl), (.ptr rfl), (.fn2 (.ptr rfl) (.ptr rfl)), (.d rfl), (.d rfl), (.d rfl), (.d rfl), trivial⟩, trivial, (.row rfl (.cons (.d rfl) (.cons (.d rfl) (.cons (.d rfl) .nil))) (.row rfl (.cons .ex (.cons .ex .nil)) (.lst rfl (.row rfl (.cons .ex (.cons (.hs rfl rfl) .nil)) (.lst rfl .nil)))))⟩⟩
        · replace hm := iteF hc6 hm
          refine AW.exit ?_
          refine tq_exit ?_
          refine tq_exit ?_
          obtain rfl := Option.some.inj hm
          obtain rfl := Option.some.inj hI4
          replace hm := hk4
          try dsimp only at hm
          refine bq_hit ?_
          refine bq_n ?_
          obtain rfl := Option.some.inj hm
          exact nq ⟨_, hI3, ⟨[0, 1, 2, 3, 4], rfl, rfl, rfl, ⟨(.d rfl), (.ptr rfl), (.ptr rfl), (.ptr rfl), (.fn2 (.ptr rfl) (.ptr rfl)), (.d rfl), trivial⟩, trivial, (.row rfl (.cons (.d rfl) (.cons (.d rfl) (.cons (.d rfl) .nil))) (.row rfl (.cons .ex (.cons .ex .nil)) (.lst rfl (.row rfl (.cons .ex (.cons (.hs rfl rfl) .nil)) (.lst rfl .nil)))))⟩⟩
      · replace hm := iteF hc5 hm
        refine AW.exit ?_
        refine tq_exit ?_
        refine tq_exit ?_
        obtain rfl := Option.some.inj hm
        obtain rfl := Option.some.inj hI3
        replace hm := hk3
        try dsimp only at hm
        refine bq_hit ?_
        refine nq ?_
        refine AW.seq ?_
        refine AW.seqR ?_
        refine AL.s rfl (op_field_ptr (.e rfl) fd30_0) ?_
        refine AL.s rfl (op_load_ptr1 (.e rfl) rfl rfl sc22) ?_
        refine AL.s rfl (op_lenM (f := (esl D.i)) (.r rfl) sl22) ?_
        refine AL.s rfl (op_moveD (.e rfl)) ?_
        refine AL.nil ?_
        refine AW.block ?_
        refine AW.lstizeC (n := 5) 3 0 3 1 rfl rfl rfl ?_
        obtain ⟨t_5, hI5, hk5⟩ := bindE hm
        refine AW.loopS (σ := (Int × (List Int))) (τ := (List Int)) 0 (fun x => [(4, .ptr 1 0), (8, .ptr 3 0), (12, .fn (.func 52) [.ptr 0 0, .ptr 3 0]), (100, .d (.int .i64 (a1.fCosts.length : Int))), (101, .d (.int .i64 x.1))]) (fun x => [.row [.d (.sl (a1.fCosts.map (esl D.i))), .d (.sl (a1.fRoom.map D.i)), .d (.int .i64 a1.fPenalty)], .row [.ex ([].map D.i), .ex ([].map D.i)], .lst (s5.map D.i) 3 1, .row [.hs 5 0 x.2.length 1, .hs 4 0 s20.length 1], .lst (s20.map D.i) 3 1, .lst (x.2.map D.i) 3 1]) hI5 (WOK.g0 hw0 (by simp)) ⟨[0, 1, 2, 3, 4, 5], rfl, rfl, rfl, ⟨(.ptr rfl), (.ptr rfl), (.fn2 (.ptr rfl) (.ptr rfl)), (.d rfl), (.d rfl), trivial⟩, trivial, (.row rfl (.cons (.d rfl) (.cons (.d rfl) (.cons (.d rfl) .nil))) (.row rfl (.cons .ex (.cons .ex .nil)) (.lst rfl (.row rfl (.cons (.hs rfl rfl) (.cons (.hs rfl rfl) .nil)) (.lst rfl (.lst rfl .nil))))))⟩ ?_
        rintro n5 ⟨s34, s35⟩ hI5
        obtain ⟨y_5, hm, hI5⟩ := iterS hI5
        replace hm : m_route_Problem_prices_L5 n _ _ s34 s35 = some y_5 := hm
        unfold m_route_Problem_prices_L5 at hm
        try dsimp only at hm
        refine AW.seqR ?_
        refine AL.s rfl (op_lss (.r rfl) (.r rfl)) ?_
        refine AL.nil ?_
        refine AW.seq ?_
        refine AW.cond (b := _) rfl (fun hc9 => ?_) (fun hc9 => ?_)
        · replace hm := iteT hc9 hm
          refine AW.skip ?_
          refine nq ?_
          refine AW.seq ?_
          refine AW.block ?_
          refine AW.seqR ?_
          refine AL.s rfl (op_moveD (.e rfl)) ?_
          refine AL.s rfl (op_assignD (.e rfl)) ?_
          refine AL.nil ?_
          refine AW.free ?_
          refine AW.free ?_
          refine AW.drawn [([], []), ([3], []), ([], []), ([], []), ([0, 3, 5, 4], []), ([], []), ([5], [5, 6]), ([], []), ([3], [3])] mo (by decide +kernel) ?_
          refine AD.s (ws := []) rfl rfl (fun H' _ hH => op_field_ptr (.e rfl) fd31_0) ?_
          refine AD.s (ws := []) rfl rfl (fun H' _ hH => op_load_ptr1 (.e rfl) ((hH _ (by simp)).trans rfl) rfl sc23) ?_
          refine AD.s (ws := []) rfl rfl (fun H' _ hH => op_moveF (.e rfl)) ?_
          refine AD.s (ws := []) rfl rfl (fun H' _ hH => op_moveD (.e rfl)) ?_
          obtain ⟨v36, hv36, hm⟩ := bindE hm
          refine AD.s (ws := []) rfl rfl (fun H' _ hH => op_callQ [0, 3, 5, 4] Try.call52 (.e rfl) (.cons (.e rfl) (.cons (.e rfl) .nil)) (m_route_Problem_prices_1_f2_ok hv36) rfl (.cons ((hH _ (by simp)).trans rfl) (.cons ((hH _ (by simp)).trans rfl) (.cons ((hH _ (by simp)).trans rfl) (.cons ((hH _ (by simp)).trans rfl) .nil)))) rfl rfl rfl rfl rfl) ?_
          refine AD.s (ws := []) rfl rfl (fun H' _ hH => op_buildSlice (ds := ([v36] : List Int).map D.i) sl23 (.cons (.r rfl) rfl (En.i.one _) .nil) rfl (by decide)) ?_
          obtain ⟨v37, hv37, hm⟩ := bindE hm
          refine AD.s (ws := [(5, _), (6, _)]) rfl rfl (fun H' _ hH => op_appendHRM (res := 6) (f := D.i) (l := s35) (l' := ([v36] : List Int)) sl23 (.e rfl) (.r rfl) ((hH _ (by simp)).trans rfl) rfl ((hH _ (by simp)).trans rfl) En.i hv37) ?_
          refine AD.s (ws := []) rfl rfl (fun H' _ hH => op_field_ptr (.e rfl) fd31_0) ?_
          refine AD.s (ws := [(3, _)]) rfl rfl (fun H' _ hH => op_store (.e rfl) (.e rfl) ((hH _ (by simp)).trans rfl) rfl rfl ⟨_, rfl, rfl⟩ rfl (Nat.le_of_ble_eq_true rfl)) ?_
          refine AD.nil ?_
          refine bq_n ?_
          refine nq ?_
          refine AW.region ?_
          refine AL.s rfl (op_addw (.r rfl) (.r rfl)) ?_
          refine AL.s rfl (op_moveD (.e rfl)) ?_
          refine AL.nil ?_
          obtain rfl := Option.some.inj hm
          exact nq ⟨_, hI5, ⟨[0, 1, 2, 3, 4, 6], rfl, rfl, rfl, ⟨(.ptr rfl), (.ptr rfl), (.fn2 (.ptr rfl) (.ptr rfl)), (.d rfl), (.d rfl), trivial⟩, trivial, (.row rfl (.cons (.d rfl) (.cons (.d rfl) (.cons (.d rfl) .nil))) (.row rfl (.cons .ex (.cons .ex .nil)) (.lst rfl (.row rfl (.cons (.hs rfl rfl) (.cons (.hs rfl rfl) .nil)) (.lst rfl (.lst rfl .nil))))))⟩⟩
        · replace hm := iteF hc9 hm
          refine AW.exit ?_
          refine tq_exit ?_
          refine tq_exit ?_
          obtain rfl := Option.some.inj hm
          obtain rfl := Option.some.inj hI5
          replace hm := hk5
          try dsimp only at hm
          refine bq_hit ?_
          refine nq ?_
          refine AW.seqR ?_
          refine AL.s rfl (op_load_ptrA (.e rfl) rfl rfl rfl ag31) ?_
          refine AL.s rfl (op_storeA (.e rfl) (.e rfl) rfl rfl ⟨_, rfl, rfl⟩ rfl (Nat.le_of_ble_eq_true rfl)) ?_
          refine AL.nil ?_
          refine AW.freezeC2 (f := D.i) (l := s35) 5 [] 1 0 3 0 rfl rfl En.i trivial rfl rfl rfl rfl rfl ?_
          refine AW.freezeC2 (f := D.i) (l := s20) 4 [] 1 1 3 1 rfl rfl En.i trivial rfl rfl rfl rfl rfl ?_
          refine AW.ret ?_
          obtain rfl := Option.some.inj hm
          exact EndQ.d (.cellA (.e rfl) rfl rfl rfl ag31 .nil) rfl rfl

set_option maxHeartbeats 20000000 in
theorem m_route_Solve_ok {n : Nat} {a1 : SProblem} {r : ((List Int) × SPrices × Int)} (hm : m_route_Solve n a1 = some r) : Fn Try.prog 18 [(SProblem.e a1)] (.tup [(.sl (r.1.map D.i)), (SPrices.e r.2.1), (.int .i64 r.2.2)]) := by
  unfold m_route_Solve at hm
  refine Fn.of_AW (fnn := Try.f18) Try.func18 rfl (Nat.le_of_ble_eq_true rfl) (fun g0 w0 hw0 => ?_)
  refine AW.reset 0 [(0, .d (SProblem.e a1))] [] (WOK.g0 hw0 (by simp)) ⟨[], rfl, rfl, rfl, ⟨(.d rfl), trivial⟩, trivial, .nil⟩ ?_
  refine AW.seqR ?_
  refine AL.s rfl (op_box (n := 0) (.e rfl) rfl rfl rfl) ?_
  refine AL.s rfl (op_assignN (.e rfl)) ?_
  refine AL.s rfl (op_alloc (n := 1) zr31 rfl) ?_
  refine AL.s rfl (op_assignD (.e rfl)) ?_
  refine AL.nil ?_
  refine AW.seq ?_
  refine AW.seqR ?_
  refine AL.s rfl (op_load_ptrA (.e rfl) rfl rfl rfl ag30) ?_
  obtain ⟨v2, hv2, hm⟩ := bindE hm
  refine AL.s rfl (op_fn Try.call14 (.e rfl) (.cons (.r rfl) .nil) (m_route_Valid_ok hv2)) ?_
  refine AL.s rfl (op_not (.r rfl)) ?_
  refine AL.nil ?_
  refine AW.cond (b := _) rfl (fun hc1 => ?_) (fun hc1 => ?_)
  · replace hm := iteT hc1 hm
    refine AW.seqR ?_
    refine AL.s rfl (op_build bd31 .nil) ?_
    refine AL.s rfl (op_assignN (.e rfl)) ?_
    refine AL.s rfl (op_storeA (.e rfl) (.e rfl) rfl rfl ⟨_, rfl, rfl⟩ rfl (Nat.le_of_ble_eq_true rfl)) ?_
    refine AL.s rfl (op_assignD (.e rfl)) ?_
    refine AL.nil ?_
    refine AW.ret ?_
    refine tq_ret ?_
    obtain rfl := Option.some.inj hm
    exact EndQ.d (.tmp (.e rfl) (.cellA (.e rfl) rfl rfl rfl ag31 (.tmp (.e rfl) .nil))) rfl rfl
  · replace hm := iteF hc1 hm
    refine AW.skip ?_
    refine nq ?_
    refine AW.seqR ?_
    refine AL.s rfl (op_field_ptr (.e rfl) fd30_1) ?_
    refine AL.s rfl (op_load_ptr1 (.e rfl) rfl rfl sc23) ?_
    obtain ⟨v3, hv3, hm⟩ := bindE hm
    refine AL.s rfl (op_callF (v := .hs 2 0 v3.length 1) (H' := [.row [.d (.sl (a1.fCosts.map (esl D.i))), .d (.sl (a1.fRoom.map D.i)), .d (.int .i64 a1.fPenalty)], .row [.ex ([].map D.i), .ex ([].map D.i)], .lst (v3.map D.i) 3 1]) [] Try.call35 (.e rfl) (.cons (.e rfl) .nil) (m_slices_Clone_int_int_ok hv3) rfl .nil rfl rfl rfl rfl rfl rfl rfl rfl) ?_
    refine AL.s rfl (op_assignH (.e rfl)) ?_
    refine AL.nil ?_
    refine AW.seqR ?_
    refine AL.s rfl (op_load_ptrA (.e rfl) rfl rfl rfl ag30) ?_
    refine AL.s rfl (op_moveH (.e rfl)) ?_
    obtain ⟨v4, hv4, hm⟩ := bindE hm
    refine AL.s rfl (op_lend [2] Try.call36 (.e rfl) (.d (.r rfl) (.d (.r rfl) (.l (f := D.i) (l := v3) (.e rfl) rfl rfl En.i rfl .nil))) (m_route_Problem_least_ok hv4) rfl) ?_
    refine AL.s rfl (op_assignD (.e rfl)) ?_
    refine AL.nil ?_
    refine AW.seqR ?_
    refine AL.s rfl (op_assignN (.e rfl)) ?_
    refine AL.nil ?_
    refine AW.seq ?_
    refine AW.seqR ?_
    refine AL.s rfl (op_field_ptr (.e rfl) fd30_0) ?_
    refine AL.s rfl (op_load_ptr1 (.e rfl) rfl rfl sc22) ?_
    refine AL.s rfl (op_lenM (f := (esl D.i)) (.r rfl) sl22) ?_
    refine AL.s rfl (op_moveD (.e rfl)) ?_
    refine AL.nil ?_
    refine AW.block ?_
    refine AW.tokenize (n := 3) 7 3 1 rfl rfl (by simp) ?_
    obtain ⟨t_1, hI1, hk1⟩ := bindE hm
    refine AW.loopS (σ := (Int × (List Int) × Int × (List Int))) (τ := ((List Int) × (List Int))) 0 (fun x => [(1, .ptr 0 0), (3, .ptr 1 0), (5, .hs 2 0 x.2.2.2.length 1), (6, .d (.int .i64 x.1)), (7, .tk 3 (x.2.1.map D.i)), (23, .d (.int .i64 (a1.fCosts.length : Int))), (24, .d (.int .i64 x.2.2.1))]) (fun x => [.row [.d (.sl (a1.fCosts.map (esl D.i))), .d (.sl (a1.fRoom.map D.i)), .d (.int .i64 a1.fPenalty)], .row [.ex ([].map D.i), .ex ([].map D.i)], .lst (x.2.2.2.map D.i) 3 1, .tok x.2.1.length 3 1]) hI1 (WOK.g0 hw0 (by simp)) ⟨[0, 1, 2, 3], rfl, rfl, rfl, ⟨(.ptr rfl), (.ptr rfl), (.hs rfl rfl), (.d rfl), (.tk rfl), (.d rfl), (.d rfl), trivial⟩, trivial, (.row rfl (.cons (.d rfl) (.cons (.d rfl) (.cons (.d rfl) .nil))) (.row rfl (.cons .ex (.cons .ex .nil)) (.lst rfl (.tok rfl .nil))))⟩ ?_
    rintro n1 ⟨s5, s6, s7, s8⟩ hI1
    obtain ⟨y_1, hm, hI1⟩ := iterS hI1
    replace hm : m_route_Solve_L1 n _ s5 s6 s7 s8 = some y_1 := hm
    unfold m_route_Solve_L1 at hm
    try dsimp only at hm
    refine AW.seqR ?_
    refine AL.s rfl (op_lss (.r rfl) (.r rfl)) ?_
    refine AL.nil ?_
    refine AW.seq ?_
    refine AW.cond (b := _) rfl (fun hc2 => ?_) (fun hc2 => ?_)
    · replace hm := iteT hc2 hm
      refine AW.skip ?_
      refine nq ?_
      obtain ⟨t_j1, hm, hkj1⟩ := bindE hm
      refine AW.cutS (α := (Int × (List Int) × (List Int))) 0 (fun x => x = t_j1) (fun x => [(1, .ptr 0 0), (3, .ptr 1 0), (5, .hs 2 0 x.2.2.length 1), (6, .d (.int .i64 x.1)), (7, .tk 3 (x.2.1.map D.i)), (23, .d (.int .i64 (a1.fCosts.length : Int))), (24, .d (.int .i64 s7))]) (fun x => [.row [.d (.sl (a1.fCosts.map (esl D.i))), .d (.sl (a1.fRoom.map D.i)), .d (.int .i64 a1.fPenalty)], .row [.ex ([].map D.i), .ex ([].map D.i)], .lst (x.2.2.map D.i) 3 1, .tok x.2.1.length 3 1]) (WOK.g0 hw0 (by simp)) ?_ ?_
      · skip
        refine AW.block ?_
        refine AW.reset 0 [(1, .ptr 0 0), (3, .ptr 1 0), (5, .hs 2 0 s8.length 1), (6, .d (.int .i64 s5)), (7, .tk 3 (s6.map D.i)), (23, .d (.int .i64 (a1.fCosts.length : Int))), (24, .d (.int .i64 s7))] [.row [.d (.sl (a1.fCosts.map (esl D.i))), .d (.sl (a1.fRoom.map D.i)), .d (.int .i64 a1.fPenalty)], .row [.ex ([].map D.i), .ex ([].map D.i)], .lst (s8.map D.i) 3 1, .tok s6.length 3 1] (WOK.g0 hw0 (by simp)) ⟨[0, 1, 2, 3], rfl, rfl, rfl, ⟨(.ptr rfl), (.ptr rfl), (.hs rfl rfl), (.d rfl), (.tk rfl), (.d rfl), (.d rfl), trivial⟩, trivial, (.row rfl (.cons (.d rfl) (.cons (.d rfl) (.cons (.d rfl) .nil))) (.row rfl (.cons .ex (.cons .ex .nil)) (.lst rfl (.tok rfl .nil))))⟩ ?_
        refine AW.seqR ?_
        refine AL.s rfl (op_moveD (.e rfl)) ?_
        refine AL.s rfl (op_assignD (.e rfl)) ?_
        refine AL.nil ?_
        refine AW.seqR ?_
        refine AL.s rfl (op_assignD (.e rfl)) ?_
        refine AL.nil ?_
        refine AW.block ?_
        obtain ⟨t_2, hI2, hk2⟩ := bindE hm
        refine AW.loopS (σ := (Int × (List Int))) (τ := (Int × (List Int) × (List Int))) 0 (fun x => [(1, .ptr 0 0), (3, .ptr 1 0), (5, .hs 2 0 x.2.length 1), (6, .d (.int .i64 s5)), (7, .tk 3 (s6.map D.i)), (8, .d (.int .i64 s7)), (9, .d (.int .i64 x.1)), (23, .d (.int .i64 (a1.fCosts.length : Int))), (24, .d (.int .i64 s7))]) (fun x => [.row [.d (.sl (a1.fCosts.map (esl D.i))), .d (.sl (a1.fRoom.map D.i)), .d (.int .i64 a1.fPenalty)], .row [.ex ([].map D.i), .ex ([].map D.i)], .lst (x.2.map D.i) 3 1, .tok s6.length 3 1]) hI2 (WOK.g0 hw0 (by simp)) ⟨[0, 1, 2, 3], rfl, rfl, rfl, ⟨(.ptr rfl), (.ptr rfl), (.hs rfl rfl), (.d rfl), (.tk rfl), (.d rfl), (.d rfl), (.d rfl), (.d rfl), trivial⟩, trivial, (.row rfl (.cons (.d rfl) (.cons (.d rfl) (.cons (.d rfl) .nil))) (.row rfl (.cons .ex (.cons .ex .nil)) (.lst rfl (.tok rfl .nil))))⟩ ?_
        rintro n2 ⟨s9, s10⟩ hI2
        obtain ⟨y_2, hm, hI2⟩ := iterS hI2
        replace hm : m_route_Solve_L2 n _ _ _ _ s9 s10 = some y_2 := hm
        unfold m_route_Solve_L2 at hm
        try dsimp only at hm
        refine AW.seq ?_
        refine AW.seqR ?_
        refine AL.s rfl (op_moveD (.e rfl)) ?_
        refine AL.s rfl (op_moveH (.e rfl)) ?_
        refine AL.s rfl (op_len_hs (.e rfl) rfl sl23) ?_
        refine AL.s rfl (op_lss (.r rfl) (.r rfl)) ?_
        refine AL.nil ?_
        refine AW.cond (b := _) rfl (fun hc3 => ?_) (fun hc3 => ?_)
        · replace hm := iteT hc3 hm
          refine AW.skip ?_
          refine nq ?_
          obtain ⟨t_j2, hm, hkj2⟩ := bindE hm
          refine AW.cutS (α := (List Int)) 0 (fun x => (.inl x) = t_j2) (fun x => [(1, .ptr 0 0), (3, .ptr 1 0), (5, .hs 2 0 x.length 1), (6, .d (.int .i64 s5)), (7, .tk 3 (s6.map D.i)), (8, .d (.int .i64 s7)), (9, .d (.int .i64 s9)), (23, .d (.int .i64 (a1.fCosts.length : Int))), (24, .d (.int .i64 s7))]) (fun x => [.row [.d (.sl (a1.fCosts.map (esl D.i))), .d (.sl (a1.fRoom.map D.i)), .d (.int .i64 a1.fPenalty)], .row [.ex ([].map D.i), .ex ([].map D.i)], .lst (x.map D.i) 3 1, .tok s6.length 3 1]) (WOK.g0 hw0 (by simp)) ?_ ?_
          · skip
            refine AW.block ?_
            refine AW.reset 0 [(1, .ptr 0 0), (3, .ptr 1 0), (5, .hs 2 0 s10.length 1), (6, .d (.int .i64 s5)), (7, .tk 3 (s6.map D.i)), (8, .d (.int .i64 s7)), (9, .d (.int .i64 s9)), (23, .d (.int .i64 (a1.fCosts.length : Int))), (24, .d (.int .i64 s7))] [.row [.d (.sl (a1.fCosts.map (esl D.i))), .d (.sl (a1.fRoom.map D.i)), .d (.int .i64 a1.fPenalty)], .row [.ex ([].map D.i), .ex ([].map D.i)], .lst (s10.map D.i) 3 1, .tok s6.length 3 1] (WOK.g0 hw0 (by simp)) ⟨[0, 1, 2, 3], rfl, rfl, rfl, ⟨(.ptr rfl), (.ptr rfl), (.hs rfl rfl), (.d rfl), (.tk rfl), (.d rfl), (.d rfl), (.d rfl), (.d rfl), trivial⟩, trivial, (.row rfl (.cons (.d rfl) (.cons (.d rfl) (.cons (.d rfl) .nil))) (.row rfl (.cons .ex (.cons .ex .nil)) (.lst rfl (.tok rfl .nil))))⟩ ?_
            refine AW.seqR ?_
            refine AL.s rfl (op_field_ptr (.e rfl) fd30_2) ?_
            refine AL.s rfl (op_load_ptr1 (.e rfl) rfl rfl sc3) ?_
            refine AL.s rfl (op_assignD (.e rfl)) ?_
            refine AL.nil ?_
            obtain ⟨t_j3, hm, hkj3⟩ := bindE hm
            refine AW.cutS (α := (Int × (List Int))) 0 (fun x => (.inr x) = t_j3) (fun x => [(1, .ptr 0 0), (3, .ptr 1 0), (5, .hs 2 0 x.2.length 1), (6, .d (.int .i64 s5)), (7, .tk 3 (s6.map D.i)), (8, .d (.int .i64 s7)), (9, .d (.int .i64 s9)), (10, .d (.int .i64 x.1)), (23, .d (.int .i64 (a1.fCosts.length : Int))), (24, .d (.int .i64 s7))]) (fun x => [.row [.d (.sl (a1.fCosts.map (esl D.i))), .d (.sl (a1.fRoom.map D.i)), .d (.int .i64 a1.fPenalty)], .row [.ex ([].map D.i), .ex ([].map D.i)], .lst (x.2.map D.i) 3 1, .tok s6.length 3 1]) (WOK.g0 hw0 (by simp)) ?_ ?_
            · skip
              refine AW.seqR ?_
              refine AL.s rfl (op_moveD (.e rfl)) ?_
              refine AL.s rfl (op_neq (.r rfl) (.r rfl)) ?_
              refine AL.nil ?_
              refine AW.cond (b := _) rfl (fun hc4 => ?_) (fun hc4 => ?_)
              · replace hm := iteT hc4 hm
                refine AW.seq ?_
                refine AW.seqR ?_
                refine AL.s rfl (op_field_ptr (.e rfl) fd30_0) ?_
                refine AL.s rfl (op_load_ptr1 (.e rfl) rfl rfl sc22) ?_
                refine AL.s rfl (op_moveD (.e rfl)) ?_
                obtain ⟨v11, hv11, hm⟩ := bindE hm
                refine AL.s rfl (op_indexAddrM (f := (esl D.i)) (.r rfl) (.r rfl) hv11 En.sl sl22) ?_
                refine AL.s rfl (op_load_vp1 (.e rfl) rfl sc23) ?_
                refine AL.s rfl (op_moveD (.e rfl)) ?_
                obtain ⟨v12, hv12, hm⟩ := bindE hm
                refine AL.s rfl (op_indexAddrM (f := D.i) (.r rfl) (.r rfl) hv12 En.i sl23) ?_
                refine AL.s rfl (op_load_vp1 (.e rfl) rfl sc3) ?_
                refine AL.s rfl (op_assignD (.e rfl)) ?_
                refine AL.nil ?_
                refine AW.seqR ?_
                refine AL.s rfl (op_moveD (.e rfl)) ?_
                refine AL.s rfl (op_eql (.r rfl) (.r rfl)) ?_
                refine AL.s rfl (op_moveD (.e rfl)) ?_
                refine AL.sF rfl rfl rfl rfl (fun g => op_moveH (.e rfl)) ?_
                refine AL.sF rfl rfl rfl rfl (fun g => op_moveD (.e rfl)) ?_
                obtain ⟨v13, hv13, hm⟩ := bindE hm
                refine AL.sF rfl rfl rfl rfl (fun g => op_indexAddr_hs (f := D.i) (l := s10) (.we (nt g) rfl) rfl rfl (.we (nt g) rfl rfl) (iteT (nt g) hv13) sl23) ?_
                obtain ⟨v14, hv14, hm⟩ := bindE hm
                refine AL.sF rfl rfl rfl rfl (fun g => op_load_lp (f := D.i) (fun _ => rfl) (.we (nt g) rfl) rfl (iteT (nt g) hv14) sc3) ?_
                refine AL.sF rfl rfl rfl rfl (fun g => op_eql (.we (nt g) rfl rfl) (.r rfl)) ?_
                refine AL.s rfl (op_or (.r rfl) rfl (fun h => (.we (nt h) rfl rfl))) ?_
                refine AL.nil ?_
                refine AW.cond (b := _) rfl (fun hc5 => ?_) (fun hc5 => ?_)
                · replace hm := iteT hc5 hm
                  refine AW.exit ?_
                  refine tq_exit ?_
                  refine tq_exit ?_
                  obtain rfl := Option.some.inj hm
                  replace hm := hkj3
                  try dsimp only at hm
                  refine bq_hit ?_
                  obtain rfl := Option.some.inj hm
                  exact nq ⟨_, rfl, ⟨[0, 1, 2, 3], rfl, rfl, rfl, ⟨(.ptr rfl), (.ptr rfl), (.hs rfl rfl), (.d rfl), (.tk rfl), (.d rfl), (.d rfl), (.d rfl), (.d rfl), trivial⟩, trivial, (.row rfl (.cons (.d rfl) (.cons (.d rfl) (.cons (.d rfl) .nil))) (.row rfl (.cons .ex (.cons .ex .nil)) (.lst rfl (.tok rfl .nil))))⟩⟩
                · replace hm := iteF hc5 hm
                  refine AW.skip ?_
                  refine nq ?_
                  refine AW.reset 0 [(1, .ptr 0 0), (3, .ptr 1 0), (5, .hs 2 0 s10.length 1), (6, .d (.int .i64 s5)), (7, .tk 3 (s6.map D.i)), (8, .d (.int .i64 s7)), (9, .d (.int .i64 s9)), (10, .d (.int .i64 v12)), (23, .d (.int .i64 (a1.fCosts.length : Int))), (24, .d (.int .i64 s7))] [.row [.d (.sl (a1.fCosts.map (esl D.i))), .d (.sl (a1.fRoom.map D.i)), .d (.int .i64 a1.fPenalty)], .row [.ex ([].map D.i), .ex ([].map D.i)], .lst (s10.map D.i) 3 1, .tok s6.length 3 1] (WOK.g0 hw0 (by simp)) ⟨[0, 1, 2, 3], rfl, rfl, rfl, ⟨(.ptr rfl), (.ptr rfl), (.hs rfl rfl), (.d rfl), (.tk rfl), (.d rfl), (.d rfl), (.d rfl), (.d rfl), (.d rfl), trivial⟩, trivial, (.row rfl (.cons (.d rfl) (.cons (.d rfl) (.cons (.d rfl) .nil))) (.row rfl (.cons .ex (.cons .ex .nil)) (.lst rfl (.tok rfl .nil))))⟩ ?_
                  refine AW.region ?_
                  refine AL.s rfl (op_moveH (.e rfl)) ?_
                  refine AL.s rfl (op_moveD (.e rfl)) ?_
                  obtain ⟨v15, hv15, hm⟩ := bindE hm
                  refine AL.s rfl (op_indexAddr_hs (f := D.i) (l := s10) (.e rfl) rfl rfl (.r rfl) hv15 sl23) ?_
                  obtain ⟨v16, hv16, hm⟩ := bindE hm
                  refine AL.s rfl (op_load_lp (f := D.i) (fun _ => rfl) (.e rfl) rfl hv16 sc3) ?_
                  refine AL.s rfl (op_subw (.r rfl) (.r rfl)) ?_
                  obtain ⟨v17, hv17, hm⟩ := bindE hm
                  refine AL.s rfl (op_indexAddr_hs (f := D.i) (l := s10) (.e rfl) rfl rfl (.r rfl) hv17 sl23) ?_
                  obtain ⟨v18, hv18, hm⟩ := bindE hm
                  refine AL.s rfl (op_store_lp (f := D.i) (fun _ => rfl) (.e rfl) (.r rfl) rfl hv18 ⟨_, rfl, rfl⟩ En.i) ?_
                  refine AL.nil ?_
                  obtain rfl := Option.some.inj hm
                  exact nq ⟨_, rfl, ⟨[0, 1, 2, 3], rfl, rfl, rfl, ⟨(.ptr rfl), (.ptr rfl), (.hs rfl (setI_len hv18).symm), (.d rfl), (.tk rfl), (.d rfl), (.d rfl), (.d rfl), (.d rfl), (.d rfl), trivial⟩, trivial, (.row rfl (.cons (.d rfl) (.cons (.d rfl) (.cons (.d rfl) .nil))) (.row rfl (.cons .ex (.cons .ex .nil)) (.lst rfl (.tok rfl .nil))))⟩⟩
              · replace hm := iteF hc4 hm
                refine AW.skip ?_
                obtain rfl := Option.some.inj hm
                exact nq ⟨_, rfl, ⟨[0, 1, 2, 3], rfl, rfl, rfl, ⟨(.ptr rfl), (.ptr rfl), (.hs rfl rfl), (.d rfl), (.tk rfl), (.d rfl), (.d rfl), (.d rfl), (.d rfl), (.d rfl), trivial⟩, trivial, (.row rfl (.cons (.d rfl) (.cons (.d rfl) (.cons (.d rfl) .nil))) (.row rfl (.cons .ex (.cons .ex .nil)) (.lst rfl (.tok rfl .nil))))⟩⟩
            · rintro ⟨s19, s20⟩ rfl
              replace hm := hkj3
              try dsimp only at hm
              refine AW.seq ?_
              refine AW.seqR ?_
              refine AL.s rfl (op_moveD (.e rfl)) ?_
              refine AL.s rfl (op_load_ptrA (.e rfl) rfl rfl rfl ag30) ?_
              refine AL.s rfl (op_moveD (.e rfl)) ?_
              refine AL.s rfl (op_addw (.r rfl) (.r rfl)) ?_
              refine AL.s rfl (op_moveH (.e rfl)) ?_
              obtain ⟨v21, hv21, hm⟩ := bindE hm
              refine AL.s rfl (op_lend [2] Try.call36 (.e rfl) (.d (.r rfl) (.d (.r rfl) (.l (f := D.i) (l := s20) (.e rfl) rfl rfl En.i rfl .nil))) (m_route_Problem_least_ok hv21) rfl) ?_
              refine AL.s rfl (op_addw (.r rfl) (.r rfl)) ?_
              refine AL.s rfl (op_moveD (.e rfl)) ?_
              refine AL.s rfl (op_eql (.r rfl) (.r rfl)) ?_
              refine AL.nil ?_
              refine AW.cond (b := _) rfl (fun hc6 => ?_) (fun hc6 => ?_)
              · replace hm := iteT hc6 hm
                refine AW.seqR ?_
                refine AL.s rfl (op_moveD (.e rfl)) ?_
                refine AL.s rfl (op_moveD (.e rfl)) ?_
                refine AL.s rfl (op_subw (.r rfl) (.r rfl)) ?_
                refine AL.s rfl (op_assignD (.e rfl)) ?_
                refine AL.nil ?_
                refine AW.seqR ?_
                refine AL.s rfl (op_moveT (.e rfl)) ?_
                refine AL.s rfl (op_moveD (.e rfl)) ?_
                refine AL.s rfl (op_buildSlice (ds := ([s9] : List Int).map D.i) sl23 (.cons (.r rfl) rfl (En.i.one _) .nil) rfl (by decide)) ?_
                obtain ⟨v22, hv22, hm⟩ := bindE hm
                refine AL.s rfl (op_appendM (f := D.i) (l' := ([s9] : List Int)) sl23 (.e rfl) (.r rfl) rfl rfl En.i hv22) ?_
                refine AL.s rfl (op_assignT (.e rfl)) ?_
                refine AL.nil ?_
                refine AW.exit ?_
                refine tq_exit ?_
                refine bq_miss rfl ?_
                refine tq_exit ?_
                obtain rfl := Option.some.inj hm
                replace hm := hkj2
                try dsimp only at hm
                refine tq_exit ?_
                obtain rfl := Option.some.inj hm
                obtain rfl := Option.some.inj hI2
                replace hm := hk2
                try dsimp only at hm
                refine bq_hit ?_
                refine bq_n ?_
                obtain rfl := Option.some.inj hm
                exact nq ⟨_, rfl, ⟨[0, 1, 2, 3], rfl, rfl, rfl, ⟨(.ptr rfl), (.ptr rfl), (.hs rfl rfl), (.d rfl), (.tk rfl), (.d rfl), (.d rfl), trivial⟩, trivial, (.row rfl (.cons (.d rfl) (.cons (.d rfl) (.cons (.d rfl) .nil))) (.row rfl (.cons .ex (.cons .ex .nil)) (.lst rfl (.tok rfl .nil))))⟩⟩
              · replace hm := iteF hc6 hm
                refine AW.skip ?_
                refine nq ?_
                refine AW.seqR ?_
                refine AL.s rfl (op_moveD (.e rfl)) ?_
                refine AL.s rfl (op_neq (.r rfl) (.r rfl)) ?_
                refine AL.nil ?_
                refine AW.cond (b := _) rfl (fun hc7 => ?_) (fun hc7 => ?_)
                · replace hm := iteT hc7 hm
                  refine AW.region ?_
                  refine AL.s rfl (op_moveH (.e rfl)) ?_
                  refine AL.s rfl (op_moveD (.e rfl)) ?_
                  obtain ⟨v23, hv23, hm⟩ := bindE hm
                  refine AL.s rfl (op_indexAddr_hs (f := D.i) (l := s20) (.e rfl) rfl rfl (.r rfl) hv23 sl23) ?_
                  obtain ⟨v24, hv24, hm⟩ := bindE hm
                  refine AL.s rfl (op_load_lp (f := D.i) (fun _ => rfl) (.e rfl) rfl hv24 sc3) ?_
                  refine AL.s rfl (op_addw (.r rfl) (.r rfl)) ?_
                  obtain ⟨v25, hv25, hm⟩ := bindE hm
                  refine AL.s rfl (op_indexAddr_hs (f := D.i) (l := s20) (.e rfl) rfl rfl (.r rfl) hv25 sl23) ?_
                  obtain ⟨v26, hv26, hm⟩ := bindE hm
                  refine AL.s rfl (op_store_lp (f := D.i) (fun _ => rfl) (.e rfl) (.r rfl) rfl hv26 ⟨_, rfl, rfl⟩ En.i) ?_
                  refine AL.nil ?_
                  refine bq_n ?_
                  obtain rfl := Option.some.inj hm
                  exact nq ⟨_, rfl, ⟨[0, 1, 2, 3], rfl, rfl, rfl, ⟨(.ptr rfl), (.ptr rfl), (.hs rfl (setI_len hv26).symm), (.d rfl), (.tk rfl), (.d rfl), (.d rfl), (.d rfl), (.d rfl), trivial⟩, trivial, (.row rfl (.cons (.d rfl) (.cons (.d rfl) (.cons (.d rfl) .nil))) (.row rfl (.cons .ex (.cons .ex .nil)) (.lst rfl (.tok rfl .nil))))⟩⟩
                · replace hm := iteF hc7 hm
                  refine AW.skip ?_
                  refine bq_n ?_
                  obtain rfl := Option.some.inj hm
                  exact nq ⟨_, rfl, ⟨[0, 1, 2, 3], rfl, rfl, rfl, ⟨(.ptr rfl), (.ptr rfl), (.hs rfl rfl), (.d rfl), (.tk rfl), (.d rfl), (.d rfl), (.d rfl), (.d rfl), trivial⟩, trivial, (.row rfl (.cons (.d rfl) (.cons (.d rfl) (.cons (.d rfl) .nil))) (.row rfl (.cons .ex (.cons .ex .nil)) (.lst rfl (.tok rfl .nil))))⟩⟩
          · rintro s27 rfl
            replace hm := hkj2
            try dsimp only at hm
            refine AW.region ?_
            refine AL.s rfl (op_moveD (.e rfl)) ?_
            refine AL.s rfl (op_addw (.r rfl) (.r rfl)) ?_
            refine AL.s rfl (op_assignD (.e rfl)) ?_
            refine AL.nil ?_
            obtain rfl := Option.some.inj hm
            exact nq ⟨_, hI2, ⟨[0, 1, 2, 3], rfl, rfl, rfl, ⟨(.ptr rfl), (.ptr rfl), (.hs rfl rfl), (.d rfl), (.tk rfl), (.d rfl), (.d rfl), (.d rfl), (.d rfl), trivial⟩, trivial, (.row rfl (.cons (.d rfl) (.cons (.d rfl) (.cons (.d rfl) .nil))) (.row rfl (.cons .ex (.cons .ex .nil)) (.lst rfl (.tok rfl .nil))))⟩⟩
        · replace hm := iteF hc3 hm
          refine AW.exit ?_
          refine tq_exit ?_
          refine tq_exit ?_
          obtain rfl := Option.some.inj hm
          obtain rfl := Option.some.inj hI2
          replace hm := hk2
          try dsimp only at hm
          refine bq_hit ?_
          refine bq_n ?_
          obtain rfl := Option.some.inj hm
          exact nq ⟨_, rfl, ⟨[0, 1, 2, 3], rfl, rfl, rfl, ⟨(.ptr rfl), (.ptr rfl), (.hs rfl rfl), (.d rfl), (.tk rfl), (.d rfl), (.d rfl), trivial⟩, trivial, (.row rfl (.cons (.d rfl) (.cons (.d rfl) (.cons (.d rfl) .nil))) (.row rfl (.cons .ex (.cons .ex .nil)) (.lst rfl (.tok rfl .nil))))⟩⟩
      · rintro ⟨s28, s29, s30⟩ rfl
        replace hm := hkj1
        try dsimp only at hm
        refine AW.region ?_
        refine AL.s rfl (op_addw (.r rfl) (.r rfl)) ?_
        refine AL.s rfl (op_moveD (.e rfl)) ?_
        refine AL.nil ?_
        obtain rfl := Option.some.inj hm
        exact nq ⟨_, hI1, ⟨[0, 1, 2, 3], rfl, rfl, rfl, ⟨(.ptr rfl), (.ptr rfl), (.hs rfl rfl), (.d rfl), (.tk rfl), (.d rfl), (.d rfl), trivial⟩, trivial, (.row rfl (.cons (.d rfl) (.cons (.d rfl) (.cons (.d rfl) .nil))) (.row rfl (.cons .ex (.cons .ex .nil)) (.lst rfl (.tok rfl .nil))))⟩⟩
    · replace hm := iteF hc2 hm
      refine AW.exit ?_
      refine tq_exit ?_
      refine tq_exit ?_
      obtain rfl := Option.some.inj hm
      obtain rfl := Option.some.inj hI1
      replace hm := hk1
      try dsimp only at hm
      refine bq_hit ?_
      refine nq ?_
      refine AW.seqR ?_
      refine AL.s rfl (op_moveT (.e rfl)) ?_
      refine AL.s rfl (op_load_ptrA (.e rfl) rfl rfl rfl ag30) ?_
      refine AL.s rfl (op_moveT (.e rfl)) ?_
      obtain ⟨v31, hv31, hm⟩ := bindE hm
      refine AL.s rfl (op_fn Try.call37 (.e rfl) (.cons (.r rfl) (.cons (.r rfl) .nil)) (m_route_Problem_prices_ok hv31)) ?_
      refine AL.s rfl (op_assignT (.e rfl)) ?_
      refine AL.s rfl (op_store (.e rfl) (.e rfl) rfl rfl rfl ⟨_, rfl, rfl⟩ rfl (Nat.le_of_ble_eq_true rfl)) ?_
      refine AL.s rfl (op_assignD (.e rfl)) ?_
      refine AL.nil ?_
      refine AW.ret ?_
      obtain rfl := Option.some.inj hm
      exact EndQ.d (.tmp (.e rfl) (.cellA (.e rfl) rfl rfl rfl ag31 (.tmp (.e rfl) .nil))) rfl rfl

set_option maxHeartbeats 20000000 in
theorem m_ref56_Valid_ok {n : Nat} {a1 : SProblem} {r : Bool} (hm : m_ref56_Valid n a1 = some r) : Fn Try.prog 15 [(SProblem.e a1)] (.bool r) := by
  unfold m_ref56_Valid at hm
  refine Fn.of_AW (fnn := Try.f15) Try.func15 rfl (Nat.le_of_ble_eq_true rfl) (fun g0 w0 hw0 => ?_)
  refine AW.reset 0 [(0, .d (SProblem.e a1))] [] (WOK.g0 hw0 (by simp)) ⟨[], rfl, rfl, rfl, ⟨(.d rfl), trivial⟩, trivial, .nil⟩ ?_
  refine AW.seqR ?_
  refine AL.s rfl (op_box (n := 0) (.e rfl) rfl rfl rfl) ?_
  refine AL.s rfl (op_assignD (.e rfl)) ?_
  refine AL.nil ?_
  refine AW.seq ?_
  refine AW.seqR ?_
  refine AL.s rfl (op_field_ptr (.e rfl) fd25_0) ?_
  refine AL.s rfl (op_load_ptr1 (.e rfl) rfl rfl sc22) ?_
  refine AL.s rfl (op_lenM (f := (esl D.i)) (.r rfl) sl22) ?_
  refine AL.s rfl (op_gtr (.r rfl) (.r rfl)) ?_
  refine AL.s rfl (op_moveD (.e rfl)) ?_
  refine AL.sF rfl rfl rfl rfl (fun g => op_field_ptr (.e rfl) fd25_1) ?_
  refine AL.sF rfl rfl rfl rfl (fun g => op_load_ptr1 (.we (nt g) rfl) rfl rfl sc23) ?_
  refine AL.sF rfl rfl rfl rfl (fun g => op_lenM (f := D.i) (.we (nt g) rfl rfl) sl23) ?_
  refine AL.sF rfl rfl rfl rfl (fun g => op_gtr (.we (nt g) rfl rfl) (.r rfl)) ?_
  refine AL.s rfl (op_or (.r rfl) rfl (fun h => (.we (nt h) rfl rfl))) ?_
  refine AL.s rfl (op_moveD (.e rfl)) ?_
  refine AL.sF rfl rfl rfl rfl (fun g => op_field_ptr (.e rfl) fd25_2) ?_
  refine AL.sF rfl rfl rfl rfl (fun g => op_load_ptr1 (.we (nt g) rfl) rfl rfl sc3) ?_
  refine AL.sF rfl rfl rfl rfl (fun g => op_lss (.we (nt g) rfl rfl) (.r rfl)) ?_
  refine AL.s rfl (op_or (.r rfl) rfl (fun h => (.we (nt h) rfl rfl))) ?_
  refine AL.s rfl (op_moveD (.e rfl)) ?_
  refine AL.sF rfl rfl rfl rfl (fun g => op_field_ptr (.e rfl) fd25_2) ?_
  refine AL.sF rfl rfl rfl rfl (fun g => op_load_ptr1 (.we (nt g) rfl) rfl rfl sc3) ?_
  refine AL.sF rfl rfl rfl rfl (fun g => op_gtr (.we (nt g) rfl rfl) (.r rfl)) ?_
  refine AL.s rfl (op_or (.r rfl) rfl (fun h => (.we (nt h) rfl rfl))) ?_
  refine AL.nil ?_
  refine AW.cond (b := _) rfl (fun hc1 => ?_) (fun hc1 => ?_)
  · replace hm := iteT hc1 hm
    refine AW.seqR ?_
    refine AL.s rfl (op_assignD (.e rfl)) ?_
    refine AL.nil ?_
    refine AW.ret ?_
    refine tq_ret ?_
    obtain rfl := Option.some.inj hm
    exact EndQ.d (.tmp (.e rfl) .nil) rfl rfl
  · replace hm := iteF hc1 hm
    refine AW.skip ?_
    refine nq ?_
    refine AW.seq ?_
    refine AW.seqR ?_
    refine AL.s rfl (op_assignD (.e rfl)) ?_
    refine AL.nil ?_
    refine AW.block ?_
    obtain ⟨t_1, hI1, hk1⟩ := bindE hm
    refine AW.loopS (σ := Int) (τ := (Bool ⊕ Unit)) 0 (fun x => [(1, .ptr 0 0), (3, .d (.int .i64 x))]) (fun x => [.row [.d (.sl (a1.fCosts.map (esl D.i))), .d (.sl (a1.fRoom.map D.i)), .d (.int .i64 a1.fPenalty)]]) hI1 (WOK.g0 hw0 (by simp)) ⟨[0], rfl, rfl, rfl, ⟨(.ptr rfl), (.d rfl), trivial⟩, trivial, (.row rfl (.cons (.d rfl) (.cons (.d rfl) (.cons (.d rfl) .nil))) .nil)⟩ ?_
    rintro n1 s2 hI1
    obtain ⟨y_1, hm, hI1⟩ := iterS hI1
    replace hm : m_ref56_Valid_L1 n _ s2 = some y_1 := hm
    unfold m_ref56_Valid_L1 at hm
    try dsimp only at hm
    refine AW.seq ?_
    refine AW.seqR ?_
    refine AL.s rfl (op_moveD (.e rfl)) ?_
    refine AL.s rfl (op_field_ptr (.e rfl) fd25_1) ?_
    refine AL.s rfl (op_load_ptr1 (.e rfl) rfl rfl sc23) ?_
    refine AL.s rfl (op_lenM (f := D.i) (.r rfl) sl23) ?_
    refine AL.s rfl (op_lss (.r rfl) (.r rfl)) ?_
    refine AL.nil ?_
    refine AW.cond (b := _) rfl (fun hc2 => ?_) (fun hc2 => ?_)
    · replace hm := iteT hc2 hm
      refine AW.skip ?_
      refine nq ?_
      refine AW.seq ?_
      refine AW.block ?_
      refine AW.seqR ?_
      refine AL.s rfl (op_field_ptr (.e rfl) fd25_1) ?_
      refine AL.s rfl (op_load_ptr1 (.e rfl) rfl rfl sc23) ?_
      refine AL.s rfl (op_moveD (.e rfl)) ?_
      obtain ⟨v3, hv3, hm⟩ := bindE hm
      refine AL.s rfl (op_indexAddrM (f := D.i) (.r rfl) (.r rfl) hv3 En.i sl23) ?_
      refine AL.s rfl (op_load_vp1 (.e rfl) rfl sc3) ?_
      refine AL.s rfl (op_lss (.r rfl) (.r rfl)) ?_
      refine AL.s rfl (op_moveD (.e rfl)) ?_
      refine AL.sF rfl rfl rfl rfl (fun g => op_field_ptr (.e rfl) fd25_1) ?_
      refine AL.sF rfl rfl rfl rfl (fun g => op_load_ptr1 (.we (nt g) rfl) rfl rfl sc23) ?_
      refine AL.sF rfl rfl rfl rfl (fun g => op_moveD (.e rfl)) ?_
      obtain ⟨v4, hv4, hm⟩ := bindE hm
      refine AL.sF rfl rfl rfl rfl (fun g => op_indexAddrM (f := D.i) (.we (nt g) rfl rfl) (.we (nt g) rfl rfl) (iteT (nt g) hv4) En.i sl23) ?_
      refine AL.sF rfl rfl rfl rfl (fun g => op_load_vp1 (.we (nt g) rfl) rfl sc3) ?_
      refine AL.sF rfl rfl rfl rfl (fun g => op_gtr (.we (nt g) rfl rfl) (.r rfl)) ?_
      refine AL.s rfl (op_or (.r rfl) rfl (fun h => (.we (nt h) rfl rfl))) ?_
      refine AL.nil ?_
      refine AW.cond (b := _) rfl (fun hc3 => ?_) (fun hc3 => ?_)
      · replace hm := iteT hc3 hm
        refine AW.seqR ?_
        refine AL.s rfl (op_assignD (.e rfl)) ?_
        refine AL.nil ?_
        refine AW.ret ?_
        refine bq_ret ?_
        refine tq_ret ?_
        refine tq_ret ?_
        obtain rfl := Option.some.inj hm
        obtain rfl := Option.some.inj hI1
        replace hm := hk1
        try dsimp only at hm
        refine bq_ret ?_
        refine tq_ret ?_
        obtain rfl := Option.some.inj hm
        exact EndQ.d (.tmp (.e rfl) .nil) rfl rfl
      · replace hm := iteF hc3 hm
        refine AW.skip ?_
        refine bq_n ?_
        refine nq ?_
        refine AW.region ?_
        refine AL.s rfl (op_moveD (.e rfl)) ?_
        refine AL.s rfl (op_addw (.r rfl) (.r rfl)) ?_
        refine AL.s rfl (op_assignD (.e rfl)) ?_
        refine AL.nil ?_
        obtain rfl := Option.some.inj hm
        exact nq ⟨_, hI1, ⟨[0], rfl, rfl, rfl, ⟨(.ptr rfl), (.d rfl), trivial⟩, trivial, (.row rfl (.cons (.d rfl) (.cons (.d rfl) (.cons (.d rfl) .nil))) .nil)⟩⟩
    · replace hm := iteF hc2 hm
      refine AW.exit ?_
      refine tq_exit ?_
      refine tq_exit ?_
      obtain rfl := Option.some.inj hm
      obtain rfl := Option.some.inj hI1
      replace hm := hk1
      try dsimp only at hm
      refine bq_hit ?_
      refine nq ?_
      refine AW.seq ?_
      refine AW.seqR ?_
      refine AL.s rfl (op_assignD (.e rfl)) ?_
      refine AL.nil ?_
      refine AW.block ?_
      obtain ⟨t_2, hI2, hk2⟩ := bindE hm
      refine AW.loopS (σ := Int) (τ := (Bool ⊕ Unit)) 0 (fun x => [(1, .ptr 0 0), (4, .d (.int .i64 x))]) (fun x => [.row [.d (.sl (a1.fCosts.map (esl D.i))), .d (.sl (a1.fRoom.map D.i)), .d (.int .i64 a1.fPenalty)]]) hI2 (WOK.g0 hw0 (by simp)) ⟨[0], rfl, rfl, rfl, ⟨(.ptr rfl), (.d rfl), trivial⟩, trivial, (.row rfl (.cons (.d rfl) (.cons (.d rfl) (.cons (.d rfl) .nil))) .nil)⟩ ?_
      rintro n2 s5 hI2
      obtain ⟨y_2, hm, hI2⟩ := iterS hI2
      replace hm : m_ref56_Valid_L2 n _ s5 = some y_2 := hm
      unfold m_ref56_Valid_L2 at hm
      try dsimp only at hm
      refine AW.seq ?_
      refine AW.seqR ?_
      refine AL.s rfl (op_moveD (.e rfl)) ?_
      refine AL.s rfl (op_field_ptr (.e rfl) fd25_0) ?_
      refine AL.s rfl (op_load_ptr1 (.e rfl) rfl rfl sc22) ?_
      refine AL.s rfl (op_lenM (f := (esl D.i)) (.r rfl) sl22) ?_
      refine AL.s rfl (op_lss (.r rfl) (.r rfl)) ?_
      refine AL.nil ?_
      refine AW.cond (b := _) rfl (fun hc4 => ?_) (fun hc4 => ?_)
      · replace hm := iteT hc4 hm
        refine AW.skip ?_
        refine nq ?_
        refine AW.seq ?_
        refine AW.block ?_
        refine AW.seq ?_
        refine AW.seqD [([], []), ([0], []), ([], []), ([], []), ([], []), ([], []), ([], []), ([0], []), ([], []), ([], [])] mo (by decide +kernel) ?_
        refine AD.s (ws := []) rfl rfl (fun H' _ hH => op_field_ptr (.e rfl) fd25_0) ?_
        refine AD.s (ws := []) rfl rfl (fun H' _ hH => op_load_ptr1 (.e rfl) ((hH _ (by simp)).trans rfl) rfl sc22) ?_
        refine AD.s (ws := []) rfl rfl (fun H' _ hH => op_moveD (.e rfl)) ?_
        obtain ⟨v6, hv6, hm⟩ := bindE hm
        refine AD.s (ws := []) rfl rfl (fun H' _ hH => op_indexAddrM (f := (esl D.i)) (.r rfl) (.r rfl) hv6 En.sl sl22) ?_
        refine AD.s (ws := []) rfl rfl (fun H' _ hH => op_load_vp1 (.e rfl) rfl sc23) ?_
        refine AD.s (ws := []) rfl rfl (fun H' _ hH => op_lenM (f := D.i) (.r rfl) sl23) ?_
        refine AD.s (ws := []) rfl rfl (fun H' _ hH => op_field_ptr (.e rfl) fd25_1) ?_
        refine AD.s (ws := []) rfl rfl (fun H' _ hH => op_load_ptr1 (.e rfl) ((hH _ (by simp)).trans rfl) rfl sc23) ?_
        refine AD.s (ws := []) rfl rfl (fun H' _ hH => op_lenM (f := D.i) (.r rfl) sl23) ?_
        refine AD.s (ws := []) rfl rfl (fun H' _ hH => op_neq (.r rfl) (.r rfl)) ?_
        refine AD.nil ?_
        refine AW.cond (b := _) rfl (fun hc5 => ?_) (fun hc5 => ?_)
        · replace hm := iteT hc5 hm
          refine AW.seqR ?_
          refine AL.s rfl (op_assignD (.e rfl)) ?_
          refine AL.nil ?_
          refine AW.ret ?_
          refine tq_ret ?_
          refine bq_ret ?_
          refine tq_ret ?_
          refine tq_ret ?_
          obtain rfl := Option.some.inj hm
          obtain rfl := Option.some.inj hI2
          replace hm := hk2
          try dsimp only at hm
          refine bq_ret ?_
          refine tq_ret ?_
          obtain rfl := Option.some.inj hm
          exact EndQ.d (.tmp (.e rfl) .nil) rfl rfl
        · replace hm := iteF hc5 hm
          refine AW.skip ?_
          refine nq ?_
          refine AW.seqR ?_
          refine AL.s rfl (op_assignD (.e rfl)) ?_
          refine AL.nil ?_
          refine AW.block ?_
          obtain ⟨t_3, hI3, hk3⟩ := bindE hm
          refine AW.loopS (σ := Int) (τ := (Bool ⊕ Unit)) 0 (fun x => [(1, .ptr 0 0), (4, .d (.int .i64 s5)), (5, .d (.int .i64 x))]) (fun x => [.row [.d (.sl (a1.fCosts.map (esl D.i))), .d (.sl (a1.fRoom.map D.i)), .d (.int .i64 a1.fPenalty)]]) hI3 (WOK.g0 hw0 (by simp)) ⟨[0], rfl, rfl, rfl, ⟨(.ptr rfl), (.d rfl), (.d rfl), trivial⟩, trivial, (.row rfl (.cons (.d rfl) (.cons (.d rfl) (.cons (.d rfl) .nil))) .nil)⟩ ?_
          rintro n3 s7 hI3
          obtain ⟨y_3, hm, hI3⟩ := iterS hI3
          replace hm : m_ref56_Valid_L3 n _ _ s7 = some y_3 := hm
          unfold m_ref56_Valid_L3 at hm
          try dsimp only at hm
          refine AW.seq ?_
          refine AW.seqR ?_
          refine AL.s rfl (op_moveD (.e rfl)) ?_
          refine AL.s rfl (op_field_ptr (.e rfl) fd25_0) ?_
          refine AL.s rfl (op_load_ptr1 (.e rfl) rfl rfl sc22) ?_
          refine AL.s rfl (op_moveD (.e rfl)) ?_
          obtain ⟨v8, hv8, hm⟩ := bindE hm
          refine AL.s rfl (op_indexAddrM (f := (esl D.i)) (.r rfl) (.r rfl) hv8 En.sl sl22) ?_
          refine AL.s rfl (op_load_vp1 (.e rfl) rfl sc23) ?_
          refine AL.s rfl (op_lenM (f := D.i) (.r rfl) sl23) ?_
          refine AL.s rfl (op_lss (.r rfl) (.r rfl)) ?_
          refine AL.nil ?_
          refine AW.cond (b := _) rfl (fun hc6 => ?_) (fun hc6 => ?_)
          · replace hm := iteT hc6 hm
            refine AW.skip ?_
            refine nq ?_
            refine AW.seq ?_
            refine AW.block ?_
            refine AW.seqR ?_
            refine AL.s rfl (op_field_ptr (.e rfl) fd25_0) ?_
            refine AL.s rfl (op_load_ptr1 (.e rfl) rfl rfl sc22) ?_
            refine AL.s rfl (op_moveD (.e rfl)) ?_
            obtain ⟨v9, hv9, hm⟩ := bindE hm
            refine AL.s rfl (op_indexAddrM (f := (esl D.i)) (.r rfl) (.r rfl) hv9 En.sl sl22) ?_
            refine AL.s rfl (op_load_vp1 (.e rfl) rfl sc23) ?_
            refine AL.s rfl (op_moveD (.e rfl)) ?_
            obtain ⟨v10, hv10, hm⟩ := bindE hm
            refine AL.s rfl (op_indexAddrM (f := D.i) (.r rfl) (.r rfl) hv10 En.i sl23) ?_
            refine AL.s rfl (op_load_vp1 (.e rfl) rfl sc3) ?_
            refine AL.s rfl (op_lss (.r rfl) (.r rfl)) ?_
            refine AL.s rfl (op_moveD (.e rfl)) ?_
            refine AL.sF rfl rfl rfl rfl (fun g => op_field_ptr (.e rfl) fd25_0) ?_
            refine AL.sF rfl rfl rfl rfl (fun g => op_load_ptr1 (.we (nt g) rfl) rfl rfl sc22) ?_
            refine AL.sF rfl rfl rfl rfl (fun g => op_moveD (.e rfl)) ?_
            obtain ⟨v11, hv11, hm⟩ := bindE hm
            refine AL.sF rfl rfl rfl rfl (fun g => op_indexAddrM (f := (esl D.i)) (.we (nt g) rfl rfl) (.we (nt g) rfl rfl) (iteT (nt g) hv11) En.sl sl22) ?_
            refine AL.sF rfl rfl rfl rfl (fun g => op_load_vp1 (.we (nt g) rfl) rfl sc23) ?_
            refine AL.sF rfl rfl rfl rfl (fun g => op_moveD (.e rfl)) ?_
            obtain ⟨v12, hv12, hm⟩ := bindE hm
            refine AL.sF rfl rfl rfl rfl (fun g => op_indexAddrM (f := D.i) (.we (nt g) rfl rfl) (.we (nt g) rfl rfl) (iteT (nt g) hv12) En.i sl23) ?_
            refine AL.sF rfl rfl rfl rfl (fun g => op_load_vp1 (.we (nt g) rfl) rfl sc3) ?_
            refine AL.sF rfl rfl rfl rfl (fun g => op_gtr (.we (nt g) rfl rfl) (.r rfl)) ?_
            refine AL.s rfl (op_or (.r rfl) rfl (fun h => (.we (nt h) rfl rfl))) ?_
            refine AL.nil ?_
            refine AW.cond (b := _) rfl (fun hc7 => ?_) (fun hc7 => ?_)
            · replace hm := iteT hc7 hm
              refine AW.seqR ?_
              refine AL.s rfl (op_assignD (.e rfl)) ?_
              refine AL.nil ?_
              refine AW.ret ?_
              refine bq_ret ?_
              refine tq_ret ?_
              refine tq_ret ?_
              obtain rfl := Option.some.inj hm
              obtain rfl := Option.some.inj hI3
              replace hm := hk3
              try dsimp only at hm
              refine bq_ret ?_
              refine bq_ret ?_
              refine tq_ret ?_
              refine tq_ret ?_
              obtain rfl := Option.some.inj hm
              obtain rfl := Option.some.inj hI2
              replace hm := hk2
              try dsimp only at hm
              refine bq_ret ?_
              refine tq_ret ?_
              obtain rfl := Option.some.inj hm
              exact EndQ.d (.tmp (.e rfl) .nil) rfl rfl
            · replace hm := iteF hc7 hm
              refine AW.skip ?_
              refine bq_n ?_
              refine nq ?_
              refine AW.region ?_
              refine AL.s rfl (op_moveD (.e rfl)) ?_
              refine AL.s rfl (op_addw (.r rfl) (.r rfl)) ?_
              refine AL.s rfl (op_assignD (.e rfl)) ?_
              refine AL.nil ?_
              obtain rfl := Option.some.inj hm
              exact nq ⟨_, hI3, ⟨[0], rfl, rfl, rfl, ⟨(.ptr rfl), (.d rfl), (.d rfl), trivial⟩, trivial, (.row rfl (.cons (.d rfl) (.cons (.d rfl) (.cons (.d rfl) .nil))) .nil)⟩⟩
          · replace hm := iteF hc6 hm
            refine AW.exit ?_
            refine tq_exit ?_
            refine tq_exit ?_
            obtain rfl := Option.some.inj hm
            obtain rfl := Option.some.inj hI3
            replace hm := hk3
            try dsimp only at hm
            refine bq_hit ?_
            refine bq_n ?_
            refine nq ?_
            refine AW.region ?_
            refine AL.s rfl (op_moveD (.e rfl)) ?_
            refine AL.s rfl (op_addw (.r rfl) (.r rfl)) ?_
            refine AL.s rfl (op_assignD (.e rfl)) ?_
            refine AL.nil ?_
            obtain rfl := Option.some.inj hm
            exact nq ⟨_, hI2, ⟨[0], rfl, rfl, rfl, ⟨(.ptr rfl), (.d rfl), trivial⟩, trivial, (.row rfl (.cons (.d rfl) (.cons (.d rfl) (.cons (.d rfl) .nil))) .nil)⟩⟩
      · replace hm := iteF hc4 hm
        refine AW.exit ?_
        refine tq_exit ?_
        refine tq_exit ?_
        obtain rfl := Option.some.inj hm
        obtain rfl := Option.some.inj hI2
        replace hm := hk2
        try dsimp only at hm
        refine bq_hit ?_
        refine nq ?_
        refine AW.seqR ?_
        refine AL.s rfl (op_assignD (.e rfl)) ?_
        refine AL.nil ?_
        refine AW.ret ?_
        obtain rfl := Option.some.inj hm
        exact EndQ.d (.tmp (.e rfl) .nil) rfl rfl

set_option maxHeartbeats 20000000 in
theorem m_ref56_Permitted_ok {n : Nat} {a1 : SProblem} {a2 : (List Int)} {r : Bool} (hm : m_ref56_Permitted n a1 a2 = some r) : Fn Try.prog 26 [(SProblem.e a1), (.sl (a2.map D.i))] (.bool r) := by
  unfold m_ref56_Permitted at hm
  refine Fn.of_AW (fnn := Try.f26) Try.func26 rfl (Nat.le_of_ble_eq_true rfl) (fun g0 w0 hw0 => ?_)
  refine AW.reset 0 [(0, .d (SProblem.e a1)), (1, .d (.sl (a2.map D.i)))] [] (WOK.g0 hw0 (by simp)) ⟨[], rfl, rfl, rfl, ⟨(.d rfl), (.d rfl), trivial⟩, trivial, .nil⟩ ?_
  refine AW.seqR ?_
  refine AL.s rfl (op_box (n := 0) (.e rfl) rfl rfl rfl) ?_
  refine AL.s rfl (op_assignD (.e rfl)) ?_
  refine AL.nil ?_
  refine AW.seq ?_
  refine AW.seqR ?_
  refine AL.s rfl (op_moveD (.e rfl)) ?_
  refine AL.s rfl (op_lenM (f := D.i) (.r rfl) sl23) ?_
  refine AL.s rfl (op_field_ptr (.e rfl) fd25_0) ?_
  refine AL.s rfl (op_load_ptr1 (.e rfl) rfl rfl sc22) ?_
  refine AL.s rfl (op_lenM (f := (esl D.i)) (.r rfl) sl22) ?_
  refine AL.s rfl (op_neq (.r rfl) (.r rfl)) ?_
  refine AL.nil ?_
  refine AW.cond (b := _) rfl (fun hc1 => ?_) (fun hc1 => ?_)
  · replace hm := iteT hc1 hm
    refine AW.seqR ?_
    refine AL.s rfl (op_assignD (.e rfl)) ?_
    refine AL.nil ?_
    refine AW.ret ?_
    refine tq_ret ?_
    obtain rfl := Option.some.inj hm
    exact EndQ.d (.tmp (.e rfl) .nil) rfl rfl
  · replace hm := iteF hc1 hm
    refine AW.skip ?_
    refine nq ?_
    refine AW.seqR ?_
    refine AL.s rfl (op_buildSlice (ds := ([] : List Int).map D.i) sl23 .nil rfl (by decide)) ?_
    refine AL.s rfl (op_field_ptr (.e rfl) fd25_1) ?_
    refine AL.s rfl (op_load_ptr1 (.e rfl) rfl rfl sc23) ?_
    obtain ⟨v3, hv3, hm⟩ := bindE hm
    refine AL.s rfl (op_appendEH (n := 1) (f := D.i) (l' := a1.fRoom) sl23 (.e rfl) (.r rfl) rfl En.i hv3) ?_
    refine AL.s rfl (op_assignH (.e rfl)) ?_
    refine AL.nil ?_
    refine AW.seq ?_
    refine AW.seqR ?_
    refine AL.s rfl (op_assignD (.e rfl)) ?_
    refine AL.nil ?_
    refine AW.block ?_
    obtain ⟨t_1, hI1, hk1⟩ := bindE hm
    refine AW.loopS (σ := (Int × (List Int))) (τ := (Bool ⊕ (List Int))) 0 (fun x => [(1, .d (.sl (a2.map D.i))), (2, .ptr 0 0), (5, .hs 2 0 x.2.length 1), (6, .d (.int .i64 x.1))]) (fun x => [.row [.d (.sl (a1.fCosts.map (esl D.i))), .d (.sl (a1.fRoom.map D.i)), .d (.int .i64 a1.fPenalty)], .dead, .lst (x.2.map D.i) 3 1]) hI1 (WOK.g0 hw0 (by simp)) ⟨[0, 1, 2], rfl, rfl, rfl, ⟨(.d rfl), (.ptr rfl), (.hs rfl rfl), (.d rfl), trivial⟩, trivial, (.row rfl (.cons (.d rfl) (.cons (.d rfl) (.cons (.d rfl) .nil))) (.dead (.lst rfl .nil)))⟩ ?_
    rintro n1 ⟨s4, s5⟩ hI1
    obtain ⟨y_1, hm, hI1⟩ := iterS hI1
    replace hm : m_ref56_Permitted_L1 n _ _ s4 s5 = some y_1 := hm
    unfold m_ref56_Permitted_L1 at hm
    try dsimp only at hm
    refine AW.seq ?_
    refine AW.seqR ?_
    refine AL.s rfl (op_moveD (.e rfl)) ?_
    refine AL.s rfl (op_moveD (.e rfl)) ?_
    refine AL.s rfl (op_lenM (f := D.i) (.r rfl) sl23) ?_
    refine AL.s rfl (op_lss (.r rfl) (.r rfl)) ?_
    refine AL.nil ?_
    refine AW.cond (b := _) rfl (fun hc2 => ?_) (fun hc2 => ?_)
    · replace hm := iteT hc2 hm
      refine AW.skip ?_
      refine nq ?_
      obtain ⟨t_j1, hm, hkj1⟩ := bindE hm
      refine AW.cutS (α := (List Int)) 0 (fun x => (.inl x) = t_j1) (fun x => [(1, .d (.sl (a2.map D.i))), (2, .ptr 0 0), (5, .hs 2 0 x.length 1), (6, .d (.int .i64 s4))]) (fun x => [.row [.d (.sl (a1.fCosts.map (esl D.i))), .d (.sl (a1.fRoom.map D.i)), .d (.int .i64 a1.fPenalty)], .dead, .lst (x.map D.i) 3 1]) (WOK.g0 hw0 (by simp)) ?_ ?_
      · skip
        refine AW.block ?_
        refine AW.seq ?_
        refine AW.reset 0 [(1, .d (.sl (a2.map D.i))), (2, .ptr 0 0), (5, .hs 2 0 s5.length 1), (6, .d (.int .i64 s4))] [.row [.d (.sl (a1.fCosts.map (esl D.i))), .d (.sl (a1.fRoom.map D.i)), .d (.int .i64 a1.fPenalty)], .dead, .lst (s5.map D.i) 3 1] (WOK.g0 hw0 (by simp)) ⟨[0, 1, 2], rfl, rfl, rfl, ⟨(.d rfl), (.ptr rfl), (.hs rfl rfl), (.d rfl), trivial⟩, trivial, (.row rfl (.cons (.d rfl) (.cons (.d rfl) (.cons (.d rfl) .nil))) (.dead (.lst rfl .nil)))⟩ ?_
        refine AW.seqR ?_
        refine AL.s rfl (op_moveD (.e rfl)) ?_
        refine AL.s rfl (op_moveD (.e rfl)) ?_
        obtain ⟨v6, hv6, hm⟩ := bindE hm
        refine AL.s rfl (op_indexAddrM (f := D.i) (.r rfl) (.r rfl) hv6 En.i sl23) ?_
        refine AL.s rfl (op_load_vp1 (.e rfl) rfl sc3) ?_
        refine AL.s rfl (op_eql (.r rfl) (.r rfl)) ?_
        refine AL.nil ?_
        refine AW.cond (b := _) rfl (fun hc3 => ?_) (fun hc3 => ?_)
        · replace hm := iteT hc3 hm
          refine AW.exit ?_
          refine tq_exit ?_
          refine bq_hit ?_
          obtain rfl := Option.some.inj hm
          exact nq ⟨_, rfl, ⟨[0, 1, 2], rfl, rfl, rfl, ⟨(.d rfl), (.ptr rfl), (.hs rfl rfl), (.d rfl), trivial⟩, trivial, (.row rfl (.cons (.d rfl) (.cons (.d rfl) (.cons (.d rfl) .nil))) (.dead (.lst rfl .nil)))⟩⟩
        · replace hm := iteF hc3 hm
          refine AW.skip ?_
          refine nq ?_
          refine AW.seq ?_
          refine AW.seqD [([], []), ([], []), ([], []), ([], []), ([], []), ([], []), ([], []), ([], []), ([], []), ([], []), ([], []), ([2], []), ([], []), ([], []), ([], []), ([], []), ([0], []), ([], []), ([], []), ([], []), ([], []), ([], []), ([], []), ([], []), ([], []), ([], []), ([], []), ([], []), ([], []), ([], []), ([], []), ([], []), ([], []), ([], []), ([2], []), ([2], []), ([], []), ([], [])] mo (by decide +kernel) ?_
          refine AD.s (ws := []) rfl rfl (fun H' _ hH => op_moveD (.e rfl)) ?_
          refine AD.s (ws := []) rfl rfl (fun H' _ hH => op_moveD (.e rfl)) ?_
          obtain ⟨v7, hv7, hm⟩ := bindE hm
          refine AD.s (ws := []) rfl rfl (fun H' _ hH => op_indexAddrM (f := D.i) (.r rfl) (.r rfl) hv7 En.i sl23) ?_
          refine AD.s (ws := []) rfl rfl (fun H' _ hH => op_load_vp1 (.e rfl) rfl sc3) ?_
          refine AD.s (ws := []) rfl rfl (fun H' _ hH => op_lss (.r rfl) (.r rfl)) ?_
          refine AD.s (ws := []) rfl rfl (fun H' _ hH => op_moveD (.e rfl)) ?_
          refine AD.sF rfl rfl rfl rfl (fun g H' _ hH => op_moveD (.e rfl)) ?_
          refine AD.sF rfl rfl rfl rfl (fun g H' _ hH => op_moveD (.e rfl)) ?_
          obtain ⟨v8, hv8, hm⟩ := bindE hm
          refine AD.sF rfl rfl rfl rfl (fun g H' _ hH => op_indexAddrM (f := D.i) (.we (nt g) rfl rfl) (.we (nt g) rfl rfl) (iteT (nt g) hv8) En.i sl23) ?_
          refine AD.sF rfl rfl rfl rfl (fun g H' _ hH => op_load_vp1 (.we (nt g) rfl) rfl sc3) ?_
          refine AD.sF rfl rfl rfl rfl (fun g H' _ hH => op_moveH (.e rfl)) ?_
          refine AD.sF rfl rfl rfl rfl (fun g H' _ hH => op_len_hs (.we (nt g) rfl) ((hH _ (by simp)).trans rfl) sl23) ?_
          refine AD.sF rfl rfl rfl rfl (fun g H' _ hH => op_geq (.we (nt g) rfl rfl) (.we (nt g) rfl rfl)) ?_
          refine AD.s (ws := []) rfl rfl (fun H' _ hH => op_or (.r rfl) rfl (fun h => (.we (nt h) rfl rfl))) ?_
          refine AD.s (ws := []) rfl rfl (fun H' _ hH => op_moveD (.e rfl)) ?_
          refine AD.sF rfl rfl rfl rfl (fun g H' _ hH => op_field_ptr (.e rfl) fd25_0) ?_
          refine AD.sF rfl rfl rfl rfl (fun g H' _ hH => op_load_ptr1 (.we (nt g) rfl) ((hH _ (by simp)).trans rfl) rfl sc22) ?_
          refine AD.sF rfl rfl rfl rfl (fun g H' _ hH => op_moveD (.e rfl)) ?_
          obtain ⟨v9, hv9, hm⟩ := bindE hm
          refine AD.sF rfl rfl rfl rfl (fun g H' _ hH => op_indexAddrM (f := (esl D.i)) (.we (nt g) rfl rfl) (.we (nt g) rfl rfl) (iteT (nt g) hv9) En.sl sl22) ?_
          refine AD.sF rfl rfl rfl rfl (fun g H' _ hH => op_load_vp1 (.we (nt g) rfl) rfl sc23) ?_
          refine AD.sF rfl rfl rfl rfl (fun g H' _ hH => op_moveD (.e rfl)) ?_
          refine AD.sF rfl rfl rfl rfl (fun g H' _ hH => op_moveD (.e rfl)) ?_
          obtain ⟨v10, hv10, hm⟩ := bindE hm
          refine AD.sF rfl rfl rfl rfl (fun g H' _ hH => op_indexAddrM (f := D.i) (.we (nt g) rfl rfl) (.we (nt g) rfl rfl) (iteT (nt g) hv10) En.i sl23) ?_
          refine AD.sF rfl rfl rfl rfl (fun g H' _ hH => op_load_vp1 (.we (nt g) rfl) rfl sc3) ?_
          obtain ⟨v11, hv11, hm⟩ := bindE hm
          refine AD.sF rfl rfl rfl rfl (fun g H' _ hH => op_indexAddrM (f := D.i) (.we (nt g) rfl rfl) (.we (nt g) rfl rfl) (iteT (nt g) hv11) En.i sl23) ?_
          refine AD.sF rfl rfl rfl rfl (fun g H' _ hH => op_load_vp1 (.we (nt g) rfl) rfl sc3) ?_
          refine AD.sF rfl rfl rfl rfl (fun g H' _ hH => op_eql (.we (nt g) rfl rfl) (.r rfl)) ?_
          refine AD.s (ws := []) rfl rfl (fun H' _ hH => op_or (.r rfl) rfl (fun h => (.we (nt h) rfl rfl))) ?_
          refine AD.s (ws := []) rfl rfl (fun H' _ hH => op_moveD (.e rfl)) ?_
          refine AD.sF rfl rfl rfl rfl (fun g H' _ hH => op_moveH (.e rfl)) ?_
          refine AD.sF rfl rfl rfl rfl (fun g H' _ hH => op_moveD (.e rfl)) ?_
          refine AD.sF rfl rfl rfl rfl (fun g H' _ hH => op_moveD (.e rfl)) ?_
          obtain ⟨v12, hv12, hm⟩ := bindE hm
          refine AD.sF rfl rfl rfl rfl (fun g H' _ hH => op_indexAddrM (f := D.i) (.we (nt g) rfl rfl) (.we (nt g) rfl rfl) (iteT (nt g) hv12) En.i sl23) ?_
          refine AD.sF rfl rfl rfl rfl (fun g H' _ hH => op_load_vp1 (.we (nt g) rfl) rfl sc3) ?_
          obtain ⟨v13, hv13, hm⟩ := bindE hm
          refine AD.sF rfl rfl rfl rfl (fun g H' _ hH => op_indexAddr_hs (f := D.i) (l := s5) (.we (nt g) rfl) ((hH _ (by simp)).trans rfl) rfl (.we (nt g) rfl rfl) (iteT (nt g) hv13) sl23) ?_
          obtain ⟨v14, hv14, hm⟩ := bindE hm
          refine AD.sF rfl rfl rfl rfl (fun g H' _ hH => op_load_lp (f := D.i) (fun _ => rfl) (.we (nt g) rfl) ((hH _ (by simp)).trans rfl) (iteT (nt g) hv14) sc3) ?_
          refine AD.sF rfl rfl rfl rfl (fun g H' _ hH => op_eql (.we (nt g) rfl rfl) (.r rfl)) ?_
          refine AD.s (ws := []) rfl rfl (fun H' _ hH => op_or (.r rfl) rfl (fun h => (.we (nt h) rfl rfl))) ?_
          refine AD.nil ?_
          refine AW.cond (b := _) rfl (fun hc4 => ?_) (fun hc4 => ?_)
          · replace hm := iteT hc4 hm
            refine AW.seqR ?_
            refine AL.s rfl (op_assignD (.e rfl)) ?_
            refine AL.nil ?_
            refine AW.ret ?_
            refine tq_ret ?_
            refine bq_ret ?_
            refine tq_ret ?_
            obtain rfl := Option.some.inj hm
            replace hm := hkj1
            try dsimp only at hm
            refine tq_ret ?_
            obtain rfl := Option.some.inj hm
            obtain rfl := Option.some.inj hI1
            replace hm := hk1
            try dsimp only at hm
            refine bq_ret ?_
            refine tq_ret ?_
            obtain rfl := Option.some.inj hm
            exact EndQ.d (.tmp (.e rfl) .nil) rfl rfl
          · replace hm := iteF hc4 hm
            refine AW.skip ?_
            refine nq ?_
            refine AW.region ?_
            refine AL.s rfl (op_moveH (.e rfl)) ?_
            refine AL.s rfl (op_moveD (.e rfl)) ?_
            refine AL.s rfl (op_moveD (.e rfl)) ?_
            obtain ⟨v15, hv15, hm⟩ := bindE hm
            refine AL.s rfl (op_indexAddrM (f := D.i) (.r rfl) (.r rfl) hv15 En.i sl23) ?_
            refine AL.s rfl (op_load_vp1 (.e rfl) rfl sc3) ?_
            obtain ⟨v16, hv16, hm⟩ := bindE hm
            refine AL.s rfl (op_indexAddr_hs (f := D.i) (l := s5) (.e rfl) rfl rfl (.r rfl) hv16 sl23) ?_
            obtain ⟨v17, hv17, hm⟩ := bindE hm
            refine AL.s rfl (op_load_lp (f := D.i) (fun _ => rfl) (.e rfl) rfl hv17 sc3) ?_
            refine AL.s rfl (op_subw (.r rfl) (.r rfl)) ?_
            obtain ⟨v18, hv18, hm⟩ := bindE hm
            refine AL.s rfl (op_indexAddr_hs (f := D.i) (l := s5) (.e rfl) rfl rfl (.r rfl) hv18 sl23) ?_
            obtain ⟨v19, hv19, hm⟩ := bindE hm
            refine AL.s rfl (op_store_lp (f := D.i) (fun _ => rfl) (.e rfl) (.r rfl) rfl hv19 ⟨_, rfl, rfl⟩ En.i) ?_
            refine AL.nil ?_
            refine bq_n ?_
            obtain rfl := Option.some.inj hm
            exact nq ⟨_, rfl, ⟨[0, 1, 2], rfl, rfl, rfl, ⟨(.d rfl), (.ptr rfl), (.hs rfl (setI_len hv19).symm), (.d rfl), trivial⟩, trivial, (.row rfl (.cons (.d rfl) (.cons (.d rfl) (.cons (.d rfl) .nil))) (.dead (.lst rfl .nil)))⟩⟩
      · rintro s20 rfl
        replace hm := hkj1
        try dsimp only at hm
        refine AW.region ?_
        refine AL.s rfl (op_moveD (.e rfl)) ?_
        refine AL.s rfl (op_addw (.r rfl) (.r rfl)) ?_
        refine AL.s rfl (op_assignD (.e rfl)) ?_
        refine AL.nil ?_
        obtain rfl := Option.some.inj hm
        exact nq ⟨_, hI1, ⟨[0, 1, 2], rfl, rfl, rfl, ⟨(.d rfl), (.ptr rfl), (.hs rfl rfl), (.d rfl), trivial⟩, trivial, (.row rfl (.cons (.d rfl) (.cons (.d rfl) (.cons (.d rfl) .nil))) (.dead (.lst rfl .nil)))⟩⟩
    · replace hm := iteF hc2 hm
      refine AW.exit ?_
      refine tq_exit ?_
      refine tq_exit ?_
      obtain rfl := Option.some.inj hm
      obtain rfl := Option.some.inj hI1
      replace hm := hk1
      try dsimp only at hm
      refine bq_hit ?_
      refine nq ?_
      refine AW.seqR ?_
      refine AL.s rfl (op_assignD (.e rfl)) ?_
      refine AL.nil ?_
      refine AW.ret ?_
      obtain rfl := Option.some.inj hm
      exact EndQ.d (.tmp (.e rfl) .nil) rfl rfl

set_option maxHeartbeats 20000000 in
theorem m_ref56_cost_ok {n : Nat} {a1 : SProblem} {a2 : (List Int)} {r : Int} (hm : m_ref56_cost n a1 a2 = some r) : Fn Try.prog 27 [(SProblem.e a1), (.sl (a2.map D.i))] (.int .i64 r) := by
  unfold m_ref56_cost at hm
  refine Fn.of_AW (fnn := Try.f27) Try.func27 rfl (Nat.le_of_ble_eq_true rfl) (fun g0 w0 hw0 => ?_)
  refine AW.reset 0 [(0, .d (SProblem.e a1)), (1, .d (.sl (a2.map D.i)))] [] (WOK.g0 hw0 (by simp)) ⟨[], rfl, rfl, rfl, ⟨(.d rfl), (.d rfl), trivial⟩, trivial, .nil⟩ ?_
  refine AW.seqR ?_
  refine AL.s rfl (op_box (n := 0) (.e rfl) rfl rfl rfl) ?_
  refine AL.s rfl (op_assignD (.e rfl)) ?_
  refine AL.nil ?_
  refine AW.seqR ?_
  refine AL.s rfl (op_assignD (.e rfl)) ?_
  refine AL.nil ?_
  refine AW.seq ?_
  refine AW.seqR ?_
  refine AL.s rfl (op_assignD (.e rfl)) ?_
  refine AL.nil ?_
  refine AW.block ?_
  obtain ⟨t_1, hI1, hk1⟩ := bindE hm
  refine AW.loopS (σ := (Int × Int)) (τ := Int) 0 (fun x => [(1, .d (.sl (a2.map D.i))), (2, .ptr 0 0), (5, .d (.int .i64 x.1)), (6, .d (.int .i64 x.2))]) (fun x => [.row [.d (.sl (a1.fCosts.map (esl D.i))), .d (.sl (a1.fRoom.map D.i)), .d (.int .i64 a1.fPenalty)]]) hI1 (WOK.g0 hw0 (by simp)) ⟨[0], rfl, rfl, rfl, ⟨(.d rfl), (.ptr rfl), (.d rfl), (.d rfl), trivial⟩, trivial, (.row rfl (.cons (.d rfl) (.cons (.d rfl) (.cons (.d rfl) .nil))) .nil)⟩ ?_
  rintro n1 ⟨s3, s4⟩ hI1
  obtain ⟨y_1, hm, hI1⟩ := iterS hI1
  replace hm : m_ref56_cost_L1 n _ _ s3 s4 = some y_1 := hm
  unfold m_ref56_cost_L1 at hm
  try dsimp only at hm
  refine AW.seq ?_
  refine AW.seqR ?_
  refine AL.s rfl (op_moveD (.e rfl)) ?_
  refine AL.s rfl (op_moveD (.e rfl)) ?_
  refine AL.s rfl (op_lenM (f := D.i) (.r rfl) sl23) ?_
  refine AL.s rfl (op_lss (.r rfl) (.r rfl)) ?_
  refine AL.nil ?_
  refine AW.cond (b := _) rfl (fun hc1 => ?_) (fun hc1 => ?_)
  · replace hm := iteT hc1 hm
    refine AW.skip ?_
    refine nq ?_
    obtain ⟨t_j1, hm, hkj1⟩ := bindE hm
    refine AW.cutS (α := Int) 0 (fun x => x = t_j1) (fun x => [(1, .d (.sl (a2.map D.i))), (2, .ptr 0 0), (5, .d (.int .i64 x)), (6, .d (.int .i64 s4))]) (fun x => [.row [.d (.sl (a1.fCosts.map (esl D.i))), .d (.sl (a1.fRoom.map D.i)), .d (.int .i64 a1.fPenalty)]]) (WOK.g0 hw0 (by simp)) ?_ ?_
    · skip
      refine AW.block ?_
      refine AW.seqR ?_
      refine AL.s rfl (op_moveD (.e rfl)) ?_
      refine AL.s rfl (op_moveD (.e rfl)) ?_
      obtain ⟨v5, hv5, hm⟩ := bindE hm
      refine AL.s rfl (op_indexAddrM (f := D.i) (.r rfl) (.r rfl) hv5 En.i sl23) ?_
      refine AL.s rfl (op_load_vp1 (.e rfl) rfl sc3) ?_
      refine AL.s rfl (op_eql (.r rfl) (.r rfl)) ?_
      refine AL.nil ?_
      refine AW.cond (b := _) rfl (fun hc2 => ?_) (fun hc2 => ?_)
      · replace hm := iteT hc2 hm
        refine AW.region ?_
        refine AL.s rfl (op_moveD (.e rfl)) ?_
        refine AL.s rfl (op_field_ptr (.e rfl) fd25_2) ?_
        refine AL.s rfl (op_load_ptr1 (.e rfl) rfl rfl sc3) ?_
        refine AL.s rfl (op_addw (.r rfl) (.r rfl)) ?_
        refine AL.s rfl (op_assignD (.e rfl)) ?_
        refine AL.nil ?_
        refine bq_n ?_
        obtain rfl := Option.some.inj hm
        exact nq ⟨_, rfl, ⟨[0], rfl, rfl, rfl, ⟨(.d rfl), (.ptr rfl), (.d rfl), (.d rfl), trivial⟩, trivial, (.row rfl (.cons (.d rfl) (.cons (.d rfl) (.cons (.d rfl) .nil))) .nil)⟩⟩
      · replace hm := iteF hc2 hm
        refine AW.drawn [([], []), ([], []), ([0], []), ([], []), ([], []), ([], []), ([], []), ([], []), ([], []), ([], []), ([], []), ([], []), ([], []), ([], [])] mo (by decide +kernel) ?_
        refine AD.s (ws := []) rfl rfl (fun H' _ hH => op_moveD (.e rfl)) ?_
        refine AD.s (ws := []) rfl rfl (fun H' _ hH => op_field_ptr (.e rfl) fd25_0) ?_
        refine AD.s (ws := []) rfl rfl (fun H' _ hH => op_load_ptr1 (.e rfl) ((hH _ (by simp)).trans rfl) rfl sc22) ?_
        refine AD.s (ws := []) rfl rfl (fun H' _ hH => op_moveD (.e rfl)) ?_
        obtain ⟨v6, hv6, hm⟩ := bindE hm
        refine AD.s (ws := []) rfl rfl (fun H' _ hH => op_indexAddrM (f := (esl D.i)) (.r rfl) (.r rfl) hv6 En.sl sl22) ?_
        refine AD.s (ws := []) rfl rfl (fun H' _ hH => op_load_vp1 (.e rfl) rfl sc23) ?_
        refine AD.s (ws := []) rfl rfl (fun H' _ hH => op_moveD (.e rfl)) ?_
        refine AD.s (ws := []) rfl rfl (fun H' _ hH => op_moveD (.e rfl)) ?_
        obtain ⟨v7, hv7, hm⟩ := bindE hm
        refine AD.s (ws := []) rfl rfl (fun H' _ hH => op_indexAddrM (f := D.i) (.r rfl) (.r rfl) hv7 En.i sl23) ?_
        refine AD.s (ws := []) rfl rfl (fun H' _ hH => op_load_vp1 (.e rfl) rfl sc3) ?_
        obtain ⟨v8, hv8, hm⟩ := bindE hm
        refine AD.s (ws := []) rfl rfl (fun H' _ hH => op_indexAddrM (f := D.i) (.r rfl) (.r rfl) hv8 En.i sl23) ?_
        refine AD.s (ws := []) rfl rfl (fun H' _ hH => op_load_vp1 (.e rfl) rfl sc3) ?_
        refine AD.s (ws := []) rfl rfl (fun H' _ hH => op_addw (.r rfl) (.r rfl)) ?_
        refine AD.s (ws := []) rfl rfl (fun H' _ hH => op_assignD (.e rfl)) ?_
        refine AD.nil ?_
        refine bq_n ?_
        obtain rfl := Option.some.inj hm
        exact nq ⟨_, rfl, ⟨[0], rfl, rfl, rfl, ⟨(.d rfl), (.ptr rfl), (.d rfl), (.d rfl), trivial⟩, trivial, (.row rfl (.cons (.d rfl) (.cons (.d rfl) (.cons (.d rfl) .nil))) .nil)⟩⟩
    · rintro s9 rfl
      replace hm := hkj1
      try dsimp only at hm
      refine AW.region ?_
      refine AL.s rfl (op_moveD (.e rfl)) ?_
      refine AL.s rfl (op_addw (.r rfl) (.r rfl)) ?_
      refine AL.s rfl (op_assignD (.e rfl)) ?_
      refine AL.nil ?_
      obtain rfl := Option.some.inj hm
      exact nq ⟨_, hI1, ⟨[0], rfl, rfl, rfl, ⟨(.d rfl), (.ptr rfl), (.d rfl), (.d rfl), trivial⟩, trivial, (.row rfl (.cons (.d rfl) (.cons (.d rfl) (.cons (.d rfl) .nil))) .nil)⟩⟩
  · replace hm := iteF hc1 hm
    refine AW.exit ?_
    refine tq_exit ?_
    refine tq_exit ?_
    obtain rfl := Option.some.inj hm
    obtain rfl := Option.some.inj hI1
    replace hm := hk1
    try dsimp only at hm
    refine bq_hit ?_
    refine nq ?_
    refine AW.seqR ?_
    refine AL.s rfl (op_moveD (.e rfl)) ?_
    refine AL.s rfl (op_assignD (.e rfl)) ?_
    refine AL.nil ?_
    refine AW.ret ?_
    obtain rfl := Option.some.inj hm
    exact EndQ.d (.tmp (.e rfl) .nil) rfl rfl

set_option maxHeartbeats 20000000 in
theorem m_ref56_Cost_ok {n : Nat} {a1 : SProblem} {a2 : (List Int)} {r : (Int × Int)} (hm : m_ref56_Cost n a1 a2 = some r) : Fn Try.prog 11 [(SProblem.e a1), (.sl (a2.map D.i))] (.tup [(.int .i64 r.1), (.int .i64 r.2)]) := by
  unfold m_ref56_Cost at hm
  refine Fn.of_AW (fnn := Try.f11) Try.func11 rfl (Nat.le_of_ble_eq_true rfl) (fun g0 w0 hw0 => ?_)
  refine AW.seqR ?_
  refine AL.s rfl (op_box (n := 0) (.e rfl) rfl rfl rfl) ?_
  refine AL.s rfl (op_assignD (.e rfl)) ?_
  refine AL.s rfl (op_assignD (.e rfl)) ?_
  refine AL.nil ?_
  refine AW.seq ?_
  refine AW.block ?_
  refine AW.seqR ?_
  refine AL.s rfl (op_load_ptrA (.e rfl) rfl rfl rfl ag25) ?_
  obtain ⟨v3, hv3, hm⟩ := bindE hm
  refine AL.s rfl (op_fn Try.call15 (.e rfl) (.cons (.r rfl) .nil) (m_ref56_Valid_ok hv3)) ?_
  refine AL.s rfl (op_not (.r rfl)) ?_
  refine AL.s rfl (op_assignD (.e rfl)) ?_
  refine AL.nil ?_
  refine AW.cond (b := _) rfl (fun hc1 => ?_) (fun hc1 => ?_)
  · replace hm := iteT hc1 hm
    refine AW.seqR ?_
    refine AL.s rfl (op_assignD (.e rfl)) ?_
    refine AL.s rfl (op_assignD (.e rfl)) ?_
    refine AL.nil ?_
    refine AW.ret ?_
    refine bq_ret ?_
    refine tq_ret ?_
    obtain rfl := Option.some.inj hm
    exact EndQ.d (.tmp (.e rfl) (.tmp (.e rfl) .nil)) rfl rfl
  · replace hm := iteF hc1 hm
    refine AW.seqR ?_
    refine AL.s rfl (op_load_ptrA (.e rfl) rfl rfl rfl ag25) ?_
    refine AL.s rfl (op_moveD (.e rfl)) ?_
    obtain ⟨v4, hv4, hm⟩ := bindE hm
    refine AL.s rfl (op_fn Try.call26 (.e rfl) (.cons (.r rfl) (.cons (.r rfl) .nil)) (m_ref56_Permitted_ok hv4)) ?_
    refine AL.s rfl (op_not (.r rfl)) ?_
    refine AL.s rfl (op_assignD (.e rfl)) ?_
    refine AL.nil ?_
    refine AW.cond (b := _) rfl (fun hc2 => ?_) (fun hc2 => ?_)
    · replace hm := iteT hc2 hm
      refine AW.seqR ?_
      refine AL.s rfl (op_assignD (.e rfl)) ?_
      refine AL.s rfl (op_assignD (.e rfl)) ?_
      refine AL.nil ?_
      refine AW.ret ?_
      refine bq_ret ?_
      refine tq_ret ?_
      obtain rfl := Option.some.inj hm
      exact EndQ.d (.tmp (.e rfl) (.tmp (.e rfl) .nil)) rfl rfl
    · replace hm := iteF hc2 hm
      refine AW.skip ?_
      refine bq_n ?_
      refine nq ?_
      refine AW.seqR ?_
      refine AL.s rfl (op_load_ptrA (.e rfl) rfl rfl rfl ag25) ?_
      refine AL.s rfl (op_moveD (.e rfl)) ?_
      obtain ⟨v5, hv5, hm⟩ := bindE hm
      refine AL.s rfl (op_fn Try.call27 (.e rfl) (.cons (.r rfl) (.cons (.r rfl) .nil)) (m_ref56_cost_ok hv5)) ?_
      refine AL.s rfl (op_assignD (.e rfl)) ?_
      refine AL.s rfl (op_assignD (.e rfl)) ?_
      refine AL.nil ?_
      refine AW.ret ?_
      obtain rfl := Option.some.inj hm
      exact EndQ.d (.tmp (.e rfl) (.tmp (.e rfl) .nil)) rfl rfl

set_option maxHeartbeats 20000000 in
theorem m_ref56_Bound_ok {n : Nat} {a1 : SProblem} {a2 : SPrices} {r : (Int × Int)} (hm : m_ref56_Bound n a1 a2 = some r) : Fn Try.prog 13 [(SProblem.e a1), (SPrices.e a2)] (.tup [(.int .i64 r.1), (.int .i64 r.2)]) := by
  unfold m_ref56_Bound at hm
  refine Fn.of_AW (fnn := Try.f13) Try.func13 rfl (Nat.le_of_ble_eq_true rfl) (fun g0 w0 hw0 => ?_)
  refine AW.reset 0 [(0, .d (SProblem.e a1)), (1, .d (SPrices.e a2))] [] (WOK.g0 hw0 (by simp)) ⟨[], rfl, rfl, rfl, ⟨(.d rfl), (.d rfl), trivial⟩, trivial, .nil⟩ ?_
  refine AW.seqR ?_
  refine AL.s rfl (op_box (n := 0) (.e rfl) rfl rfl rfl) ?_
  refine AL.s rfl (op_box (n := 1) (.e rfl) rfl rfl rfl) ?_
  refine AL.s rfl (op_assignD (.e rfl)) ?_
  refine AL.s rfl (op_assignD (.e rfl)) ?_
  refine AL.nil ?_
  refine AW.seq ?_
  refine AW.seqR ?_
  refine AL.s rfl (op_load_ptrA (.e rfl) rfl rfl rfl ag25) ?_
  obtain ⟨v3, hv3, hm⟩ := bindE hm
  refine AL.s rfl (op_fn Try.call15 (.e rfl) (.cons (.r rfl) .nil) (m_ref56_Valid_ok hv3)) ?_
  refine AL.s rfl (op_not (.r rfl)) ?_
  refine AL.nil ?_
  refine AW.cond (b := _) rfl (fun hc1 => ?_) (fun hc1 => ?_)
  · replace hm := iteT hc1 hm
    refine AW.seqR ?_
    refine AL.s rfl (op_assignD (.e rfl)) ?_
    refine AL.s rfl (op_assignD (.e rfl)) ?_
    refine AL.nil ?_
    refine AW.ret ?_
    refine tq_ret ?_
    obtain rfl := Option.some.inj hm
    exact EndQ.d (.tmp (.e rfl) (.tmp (.e rfl) .nil)) rfl rfl
  · replace hm := iteF hc1 hm
    refine AW.skip ?_
    refine nq ?_
    refine AW.seq ?_
    refine AW.seqR ?_
    refine AL.s rfl (op_field_ptr (.e rfl) fd27_0) ?_
    refine AL.s rfl (op_load_ptr1 (.e rfl) rfl rfl sc23) ?_
    refine AL.s rfl (op_lenM (f := D.i) (.r rfl) sl23) ?_
    refine AL.s rfl (op_field_ptr (.e rfl) fd25_0) ?_
    refine AL.s rfl (op_load_ptr1 (.e rfl) rfl rfl sc22) ?_
    refine AL.s rfl (op_lenM (f := (esl D.i)) (.r rfl) sl22) ?_
    refine AL.s rfl (op_neq (.r rfl) (.r rfl)) ?_
    refine AL.s rfl (op_moveD (.e rfl)) ?_
    refine AL.sF rfl rfl rfl rfl (fun g => op_field_ptr (.e rfl) fd27_1) ?_
    refine AL.sF rfl rfl rfl rfl (fun g => op_load_ptr1 (.we (nt g) rfl) rfl rfl sc23) ?_
    refine AL.sF rfl rfl rfl rfl (fun g => op_lenM (f := D.i) (.we (nt g) rfl rfl) sl23) ?_
    refine AL.sF rfl rfl rfl rfl (fun g => op_field_ptr (.e rfl) fd25_1) ?_
    refine AL.sF rfl rfl rfl rfl (fun g => op_load_ptr1 (.we (nt g) rfl) rfl rfl sc23) ?_
    refine AL.sF rfl rfl rfl rfl (fun g => op_lenM (f := D.i) (.we (nt g) rfl rfl) sl23) ?_
    refine AL.sF rfl rfl rfl rfl (fun g => op_neq (.we (nt g) rfl rfl) (.we (nt g) rfl rfl)) ?_
    refine AL.s rfl (op_or (.r rfl) rfl (fun h => (.we (nt h) rfl rfl))) ?_
    refine AL.nil ?_
    refine AW.cond (b := _) rfl (fun hc2 => ?_) (fun hc2 => ?_)
    · replace hm := iteT hc2 hm
      refine AW.seqR ?_
      refine AL.s rfl (op_assignD (.e rfl)) ?_
      refine AL.s rfl (op_assignD (.e rfl)) ?_
      refine AL.nil ?_
      refine AW.ret ?_
      refine tq_ret ?_
      obtain rfl := Option.some.inj hm
      exact EndQ.d (.tmp (.e rfl) (.tmp (.e rfl) .nil)) rfl rfl
    · replace hm := iteF hc2 hm
      refine AW.skip ?_
      refine nq ?_
      refine AW.seqR ?_
      refine AL.s rfl (op_assignD (.e rfl)) ?_
      refine AL.nil ?_
      refine AW.seq ?_
      refine AW.seqR ?_
      refine AL.s rfl (op_assignD (.e rfl)) ?_
      refine AL.nil ?_
      refine AW.block ?_
      obtain ⟨t_1, hI1, hk1⟩ := bindE hm
      refine AW.loopS (σ := (Int × Int)) (τ := ((Int × Int) ⊕ Int)) 0 (fun x => [(2, .ptr 0 0), (3, .ptr 1 0), (6, .d (.int .i64 x.1)), (7, .d (.int .i64 x.2))]) (fun x => [.row [.d (.sl (a1.fCosts.map (esl D.i))), .d (.sl (a1.fRoom.map D.i)), .d (.int .i64 a1.fPenalty)], .row [.d (.sl (a2.fAsks.map D.i)), .d (.sl (a2.fLenders.map D.i))]]) hI1 (WOK.g0 hw0 (by simp)) ⟨[0, 1], rfl, rfl, rfl, ⟨(.ptr rfl), (.ptr rfl), (.d rfl), (.d rfl), trivial⟩, trivial, (.row rfl (.cons (.d rfl) (.cons (.d rfl) (.cons (.d rfl) .nil))) (.row rfl (.cons (.d rfl) (.cons (.d rfl) .nil)) .nil))⟩ ?_
      rintro n1 ⟨s4, s5⟩ hI1
      obtain ⟨y_1, hm, hI1⟩ := iterS hI1
      replace hm : m_ref56_Bound_L1 n _ _ s4 s5 = some y_1 := hm
      unfold m_ref56_Bound_L1 at hm
      try dsimp only at hm
      refine AW.seq ?_
      refine AW.seqR ?_
      refine AL.s rfl (op_moveD (.e rfl)) ?_
      refine AL.s rfl (op_field_ptr (.e rfl) fd27_1) ?_
      refine AL.s rfl (op_load_ptr1 (.e rfl) rfl rfl sc23) ?_
      refine AL.s rfl (op_lenM (f := D.i) (.r rfl) sl23) ?_
      refine AL.s rfl (op_lss (.r rfl) (.r rfl)) ?_
      refine AL.nil ?_
      refine AW.cond (b := _) rfl (fun hc3 => ?_) (fun hc3 => ?_)
      · replace hm := iteT hc3 hm
        refine AW.skip ?_
        refine nq ?_
        refine AW.seq ?_
        refine AW.block ?_
        refine AW.seq ?_
        refine AW.seqR ?_
        refine AL.s rfl (op_field_ptr (.e rfl) fd27_1) ?_
        refine AL.s rfl (op_load_ptr1 (.e rfl) rfl rfl sc23) ?_
        refine AL.s rfl (op_moveD (.e rfl)) ?_
        obtain ⟨v6, hv6, hm⟩ := bindE hm
        refine AL.s rfl (op_indexAddrM (f := D.i) (.r rfl) (.r rfl) hv6 En.i sl23) ?_
        refine AL.s rfl (op_load_vp1 (.e rfl) rfl sc3) ?_
        refine AL.s rfl (op_lss (.r rfl) (.r rfl)) ?_
        refine AL.s rfl (op_moveD (.e rfl)) ?_
        refine AL.sF rfl rfl rfl rfl (fun g => op_field_ptr (.e rfl) fd27_1) ?_
        refine AL.sF rfl rfl rfl rfl (fun g => op_load_ptr1 (.we (nt g) rfl) rfl rfl sc23) ?_
        refine AL.sF rfl rfl rfl rfl (fun g => op_moveD (.e rfl)) ?_
        obtain ⟨v7, hv7, hm⟩ := bindE hm
        refine AL.sF rfl rfl rfl rfl (fun g => op_indexAddrM (f := D.i) (.we (nt g) rfl rfl) (.we (nt g) rfl rfl) (iteT (nt g) hv7) En.i sl23) ?_
        refine AL.sF rfl rfl rfl rfl (fun g => op_load_vp1 (.we (nt g) rfl) rfl sc3) ?_
        refine AL.sF rfl rfl rfl rfl (fun g => op_gtr (.we (nt g) rfl rfl) (.r rfl)) ?_
        refine AL.s rfl (op_or (.r rfl) rfl (fun h => (.we (nt h) rfl rfl))) ?_
        refine AL.nil ?_
        refine AW.cond (b := _) rfl (fun hc4 => ?_) (fun hc4 => ?_)
        · replace hm := iteT hc4 hm
          refine AW.seqR ?_
          refine AL.s rfl (op_assignD (.e rfl)) ?_
          refine AL.s rfl (op_assignD (.e rfl)) ?_
          refine AL.nil ?_
          refine AW.ret ?_
          refine tq_ret ?_
          refine bq_ret ?_
          refine tq_ret ?_
          refine tq_ret ?_
          obtain rfl := Option.some.inj hm
          obtain rfl := Option.some.inj hI1
          replace hm := hk1
          try dsimp only at hm
          refine bq_ret ?_
          refine tq_ret ?_
          obtain rfl := Option.some.inj hm
          exact EndQ.d (.tmp (.e rfl) (.tmp (.e rfl) .nil)) rfl rfl
        · replace hm := iteF hc4 hm
          refine AW.skip ?_
          refine nq ?_
          refine AW.drawn [([], []), ([], []), ([0], []), ([], []), ([], []), ([], []), ([], []), ([1], []), ([], []), ([], []), ([], []), ([], []), ([], []), ([], [])] mo (by decide +kernel) ?_
          refine AD.s (ws := []) rfl rfl (fun H' _ hH => op_moveD (.e rfl)) ?_
          refine AD.s (ws := []) rfl rfl (fun H' _ hH => op_field_ptr (.e rfl) fd25_1) ?_
          refine AD.s (ws := []) rfl rfl (fun H' _ hH => op_load_ptr1 (.e rfl) ((hH _ (by simp)).trans rfl) rfl sc23) ?_
          refine AD.s (ws := []) rfl rfl (fun H' _ hH => op_moveD (.e rfl)) ?_
          obtain ⟨v8, hv8, hm⟩ := bindE hm
          refine AD.s (ws := []) rfl rfl (fun H' _ hH => op_indexAddrM (f := D.i) (.r rfl) (.r rfl) hv8 En.i sl23) ?_
          refine AD.s (ws := []) rfl rfl (fun H' _ hH => op_load_vp1 (.e rfl) rfl sc3) ?_
          refine AD.s (ws := []) rfl rfl (fun H' _ hH => op_field_ptr (.e rfl) fd27_1) ?_
          refine AD.s (ws := []) rfl rfl (fun H' _ hH => op_load_ptr1 (.e rfl) ((hH _ (by simp)).trans rfl) rfl sc23) ?_
          refine AD.s (ws := []) rfl rfl (fun H' _ hH => op_moveD (.e rfl)) ?_
          obtain ⟨v9, hv9, hm⟩ := bindE hm
          refine AD.s (ws := []) rfl rfl (fun H' _ hH => op_indexAddrM (f := D.i) (.r rfl) (.r rfl) hv9 En.i sl23) ?_
          refine AD.s (ws := []) rfl rfl (fun H' _ hH => op_load_vp1 (.e rfl) rfl sc3) ?_
          refine AD.s (ws := []) rfl rfl (fun H' _ hH => op_mulw (.r rfl) (.r rfl)) ?_
          refine AD.s (ws := []) rfl rfl (fun H' _ hH => op_subw (.r rfl) (.r rfl)) ?_
          refine AD.s (ws := []) rfl rfl (fun H' _ hH => op_assignD (.e rfl)) ?_
          refine AD.nil ?_
          refine bq_n ?_
          refine nq ?_
          refine AW.region ?_
          refine AL.s rfl (op_moveD (.e rfl)) ?_
          refine AL.s rfl (op_addw (.r rfl) (.r rfl)) ?_
          refine AL.s rfl (op_assignD (.e rfl)) ?_
          refine AL.nil ?_
          obtain rfl := Option.some.inj hm
          exact nq ⟨_, hI1, ⟨[0, 1], rfl, rfl, rfl, ⟨(.ptr rfl), (.ptr rfl), (.d rfl), (.d rfl), trivial⟩, trivial, (.row rfl (.cons (.d rfl) (.cons (.d rfl) (.cons (.d rfl) .nil))) (.row rfl (.cons (.d rfl) (.cons (.d rfl) .nil)) .nil))⟩⟩
      · replace hm := iteF hc3 hm
        refine AW.exit ?_
        refine tq_exit ?_
        refine tq_exit ?_
        obtain rfl := Option.some.inj hm
        obtain rfl := Option.some.inj hI1
        replace hm := hk1
        try dsimp only at hm
        refine bq_hit ?_
        refine nq ?_
        refine AW.seq ?_
        refine AW.seqR ?_
        refine AL.s rfl (op_assignD (.e rfl)) ?_
        refine AL.nil ?_
        refine AW.block ?_
        obtain ⟨t_2, hI2, hk2⟩ := bindE hm
        refine AW.loopS (σ := (Int × Int)) (τ := ((Int × Int) ⊕ Int)) 0 (fun x => [(2, .ptr 0 0), (3, .ptr 1 0), (6, .d (.int .i64 x.1)), (8, .d (.int .i64 x.2))]) (fun x => [.row [.d (.sl (a1.fCosts.map (esl D.i))), .d (.sl (a1.fRoom.map D.i)), .d (.int .i64 a1.fPenalty)], .row [.d (.sl (a2.fAsks.map D.i)), .d (.sl (a2.fLenders.map D.i))]]) hI2 (WOK.g0 hw0 (by simp)) ⟨[0, 1], rfl, rfl, rfl, ⟨(.ptr rfl), (.ptr rfl), (.d rfl), (.d rfl), trivial⟩, trivial, (.row rfl (.cons (.d rfl) (.cons (.d rfl) (.cons (.d rfl) .nil))) (.row rfl (.cons (.d rfl) (.cons (.d rfl) .nil)) .nil))⟩ ?_
        rintro n2 ⟨s10, s11⟩ hI2
        obtain ⟨y_2, hm, hI2⟩ := iterS hI2
        replace hm : m_ref56_Bound_L2 n _ _ s10 s11 = some y_2 := hm
        unfold m_ref56_Bound_L2 at hm
        try dsimp only at hm
        refine AW.seq ?_
        refine AW.seqR ?_
        refine AL.s rfl (op_moveD (.e rfl)) ?_
        refine AL.s rfl (op_field_ptr (.e rfl) fd27_0) ?_
        refine AL.s rfl (op_load_ptr1 (.e rfl) rfl rfl sc23) ?_
        refine AL.s rfl (op_lenM (f := D.i) (.r rfl) sl23) ?_
        refine AL.s rfl (op_lss (.r rfl) (.r rfl)) ?_
        refine AL.nil ?_
        refine AW.cond (b := _) rfl (fun hc5 => ?_) (fun hc5 => ?_)
        · replace hm := iteT hc5 hm
          refine AW.skip ?_
          refine nq ?_
          refine AW.seq ?_
          refine AW.block ?_
          refine AW.seq ?_
          refine AW.seqD [([], []), ([1], []), ([], []), ([], []), ([], []), ([], []), ([], []), ([], []), ([1], []), ([], []), ([], []), ([], []), ([], []), ([0], []), ([], []), ([], [])] mo (by decide +kernel) ?_
          refine AD.s (ws := []) rfl rfl (fun H' _ hH => op_field_ptr (.e rfl) fd27_0) ?_
          refine AD.s (ws := []) rfl rfl (fun H' _ hH => op_load_ptr1 (.e rfl) ((hH _ (by simp)).trans rfl) rfl sc23) ?_
          refine AD.s (ws := []) rfl rfl (fun H' _ hH => op_moveD (.e rfl)) ?_
          obtain ⟨v12, hv12, hm⟩ := bindE hm
          refine AD.s (ws := []) rfl rfl (fun H' _ hH => op_indexAddrM (f := D.i) (.r rfl) (.r rfl) hv12 En.i sl23) ?_
          refine AD.s (ws := []) rfl rfl (fun H' _ hH => op_load_vp1 (.e rfl) rfl sc3) ?_
          refine AD.s (ws := []) rfl rfl (fun H' _ hH => op_lss (.r rfl) (.r rfl)) ?_
          refine AD.s (ws := []) rfl rfl (fun H' _ hH => op_moveD (.e rfl)) ?_
          refine AD.sF rfl rfl rfl rfl (fun g H' _ hH => op_field_ptr (.e rfl) fd27_0) ?_
          refine AD.sF rfl rfl rfl rfl (fun g H' _ hH => op_load_ptr1 (.we (nt g) rfl) ((hH _ (by simp)).trans rfl) rfl sc23) ?_
          refine AD.sF rfl rfl rfl rfl (fun g H' _ hH => op_moveD (.e rfl)) ?_
          obtain ⟨v13, hv13, hm⟩ := bindE hm
          refine AD.sF rfl rfl rfl rfl (fun g H' _ hH => op_indexAddrM (f := D.i) (.we (nt g) rfl rfl) (.we (nt g) rfl rfl) (iteT (nt g) hv13) En.i sl23) ?_
          refine AD.sF rfl rfl rfl rfl (fun g H' _ hH => op_load_vp1 (.we (nt g) rfl) rfl sc3) ?_
          refine AD.sF rfl rfl rfl rfl (fun g H' _ hH => op_field_ptr (.e rfl) fd25_2) ?_
          refine AD.sF rfl rfl rfl rfl (fun g H' _ hH => op_load_ptr1 (.we (nt g) rfl) ((hH _ (by simp)).trans rfl) rfl sc3) ?_
          refine AD.sF rfl rfl rfl rfl (fun g H' _ hH => op_gtr (.we (nt g) rfl rfl) (.we (nt g) rfl rfl)) ?_
          refine AD.s (ws := []) rfl rfl (fun H' _ hH => op_or (.r rfl) rfl (fun h => (.we (nt h) rfl rfl))) ?_
          refine AD.nil ?_
          refine AW.cond (b := _) rfl (fun hc6 => ?_) (fun hc6 => ?_)
          · replace hm := iteT hc6 hm
            refine AW.seqR ?_
            refine AL.s rfl (op_assignD (.e rfl)) ?_
            refine AL.s rfl (op_assignD (.e rfl)) ?_
            refine AL.nil ?_
            refine AW.ret ?_
            refine tq_ret ?_
            refine bq_ret ?_
            refine tq_ret ?_
            refine tq_ret ?_
            obtain rfl := Option.some.inj hm
            obtain rfl := Option.some.inj hI2
            replace hm := hk2
            try dsimp only at hm
            refine bq_ret ?_
            refine tq_ret ?_
            obtain rfl := Option.some.inj hm
            exact EndQ.d (.tmp (.e rfl) (.tmp (.e rfl) .nil)) rfl rfl
          · replace hm := iteF hc6 hm
            refine AW.skip ?_
            refine nq ?_
            refine AW.seq ?_
            refine AW.seqR ?_
            refine AL.s rfl (op_assignD (.e rfl)) ?_
            refine AL.nil ?_
            refine AW.block ?_
            obtain ⟨t_3, hI3, hk3⟩ := bindE hm
            refine AW.loopS (σ := Int) (τ := ((Int × Int) ⊕ Unit)) 0 (fun x => [(2, .ptr 0 0), (3, .ptr 1 0), (6, .d (.int .i64 s10)), (8, .d (.int .i64 s11)), (9, .d (.int .i64 x))]) (fun x => [.row [.d (.sl (a1.fCosts.map (esl D.i))), .d (.sl (a1.fRoom.map D.i)), .d (.int .i64 a1.fPenalty)], .row [.d (.sl (a2.fAsks.map D.i)), .d (.sl (a2.fLenders.map D.i))]]) hI3 (WOK.g0 hw0 (by simp)) ⟨[0, 1], rfl, rfl, rfl, ⟨(.ptr rfl), (.ptr rfl), (.d rfl), (.d rfl), (.d rfl), trivial⟩, trivial, (.row rfl (.cons (.d rfl) (.cons (.d rfl) (.cons (.d rfl) .nil))) (.row rfl (.cons (.d rfl) (.cons (.d rfl) .nil)) .nil))⟩ ?_
            rintro n3 s14 hI3
            obtain ⟨y_3, hm, hI3⟩ := iterS hI3
            replace hm : m_ref56_Bound_L3 n _ _ _ s14 = some y_3 := hm
            unfold m_ref56_Bound_L3 at hm
            try dsimp only at hm
            refine AW.seq ?_
            refine AW.seqR ?_
            refine AL.s rfl (op_moveD (.e rfl)) ?_
            refine AL.s rfl (op_field_ptr (.e rfl) fd25_1) ?_
            refine AL.s rfl (op_load_ptr1 (.e rfl) rfl rfl sc23) ?_
            refine AL.s rfl (op_lenM (f := D.i) (.r rfl) sl23) ?_
            refine AL.s rfl (op_lss (.r rfl) (.r rfl)) ?_
            refine AL.nil ?_
            refine AW.cond (b := _) rfl (fun hc7 => ?_) (fun hc7 => ?_)
            · replace hm := iteT hc7 hm
              refine AW.skip ?_
              refine nq ?_
              refine AW.seq ?_
              refine AW.block ?_
              refine AW.seqR ?_
              refine AL.s rfl (op_field_ptr (.e rfl) fd25_0) ?_
              refine AL.s rfl (op_load_ptr1 (.e rfl) rfl rfl sc22) ?_
              refine AL.s rfl (op_moveD (.e rfl)) ?_
              obtain ⟨v15, hv15, hm⟩ := bindE hm
              refine AL.s rfl (op_indexAddrM (f := (esl D.i)) (.r rfl) (.r rfl) hv15 En.sl sl22) ?_
              refine AL.s rfl (op_load_vp1 (.e rfl) rfl sc23) ?_
              refine AL.s rfl (op_moveD (.e rfl)) ?_
              obtain ⟨v16, hv16, hm⟩ := bindE hm
              refine AL.s rfl (op_indexAddrM (f := D.i) (.r rfl) (.r rfl) hv16 En.i sl23) ?_
              refine AL.s rfl (op_load_vp1 (.e rfl) rfl sc3) ?_
              refine AL.s rfl (op_assignD (.e rfl)) ?_
              refine AL.nil ?_
              refine AW.seqD [([], []), ([], []), ([], []), ([], []), ([1], []), ([], []), ([], []), ([], []), ([], []), ([], []), ([1], []), ([], []), ([], []), ([], []), ([], []), ([], []), ([], [])] mo (by decide +kernel) ?_
              refine AD.s (ws := []) rfl rfl (fun H' _ hH => op_moveD (.e rfl)) ?_
              refine AD.s (ws := []) rfl rfl (fun H' _ hH => op_neq (.r rfl) (.r rfl)) ?_
              refine AD.s (ws := []) rfl rfl (fun H' _ hH => op_moveD (.e rfl)) ?_
              refine AD.sT rfl rfl rfl rfl (fun g H' _ hH => op_field_ptr (.e rfl) fd27_0) ?_
              refine AD.sT rfl rfl rfl rfl (fun g H' _ hH => op_load_ptr1 (.we g rfl) ((hH _ (by simp)).trans rfl) rfl sc23) ?_
              refine AD.sT rfl rfl rfl rfl (fun g H' _ hH => op_moveD (.e rfl)) ?_
              obtain ⟨v17, hv17, hm⟩ := bindE hm
              refine AD.sT rfl rfl rfl rfl (fun g H' _ hH => op_indexAddrM (f := D.i) (.we g rfl rfl) (.we g rfl rfl) (iteT g hv17) En.i sl23) ?_
              refine AD.sT rfl rfl rfl rfl (fun g H' _ hH => op_load_vp1 (.we g rfl) rfl sc3) ?_
              refine AD.sT rfl rfl rfl rfl (fun g H' _ hH => op_moveD (.e rfl)) ?_
              refine AD.sT rfl rfl rfl rfl (fun g H' _ hH => op_field_ptr (.e rfl) fd27_1) ?_
              refine AD.sT rfl rfl rfl rfl (fun g H' _ hH => op_load_ptr1 (.we g rfl) ((hH _ (by simp)).trans rfl) rfl sc23) ?_
              refine AD.sT rfl rfl rfl rfl (fun g H' _ hH => op_moveD (.e rfl)) ?_
              obtain ⟨v18, hv18, hm⟩ := bindE hm
              refine AD.sT rfl rfl rfl rfl (fun g H' _ hH => op_indexAddrM (f := D.i) (.we g rfl rfl) (.we g rfl rfl) (iteT g hv18) En.i sl23) ?_
              refine AD.sT rfl rfl rfl rfl (fun g H' _ hH => op_load_vp1 (.we g rfl) rfl sc3) ?_
              refine AD.sT rfl rfl rfl rfl (fun g H' _ hH => op_addw (.we g rfl rfl) (.we g rfl rfl)) ?_
              refine AD.sT rfl rfl rfl rfl (fun g H' _ hH => op_gtr (.we g rfl rfl) (.we g rfl rfl)) ?_
              refine AD.s (ws := []) rfl rfl (fun H' _ hH => op_and (.r rfl) (fun h => (.we h rfl rfl)) rfl) ?_
              refine AD.nil ?_
              refine AW.cond (b := _) rfl (fun hc8 => ?_) (fun hc8 => ?_)
              · replace hm := iteT hc8 hm
                refine AW.seqR ?_
                refine AL.s rfl (op_assignD (.e rfl)) ?_
                refine AL.s rfl (op_assignD (.e rfl)) ?_
                refine AL.nil ?_
                refine AW.ret ?_
                refine bq_ret ?_
                refine tq_ret ?_
                refine tq_ret ?_
                obtain rfl := Option.some.inj hm
                obtain rfl := Option.some.inj hI3
                replace hm := hk3
                try dsimp only at hm
                refine bq_ret ?_
                refine tq_ret ?_
                refine bq_ret ?_
                refine tq_ret ?_
                refine tq_ret ?_
                obtain rfl := Option.some.inj hm
                obtain rfl := Option.some.inj hI2
                replace hm := hk2
                try dsimp only at hm
                refine bq_ret ?_
                refine tq_ret ?_
                obtain rfl := Option.some.inj hm
                exact EndQ.d (.tmp (.e rfl) (.tmp (.e rfl) .nil)) rfl rfl
              · replace hm := iteF hc8 hm
                refine AW.skip ?_
                refine bq_n ?_
                refine nq ?_
                refine AW.region ?_
                refine AL.s rfl (op_moveD (.e rfl)) ?_
                refine AL.s rfl (op_addw (.r rfl) (.r rfl)) ?_
                refine AL.s rfl (op_assignD (.e rfl)) ?_
                refine AL.nil ?_
                obtain rfl := Option.some.inj hm
                exact nq ⟨_, hI3, ⟨[0, 1], rfl, rfl, rfl, ⟨(.ptr rfl), (.ptr rfl), (.d rfl), (.d rfl), (.d rfl), trivial⟩, trivial, (.row rfl (.cons (.d rfl) (.cons (.d rfl) (.cons (.d rfl) .nil))) (.row rfl (.cons (.d rfl) (.cons (.d rfl) .nil)) .nil))⟩⟩
            · replace hm := iteF hc7 hm
              refine AW.exit ?_
              refine tq_exit ?_
              refine tq_exit ?_
              obtain rfl := Option.some.inj hm
              obtain rfl := Option.some.inj hI3
              replace hm := hk3
              try dsimp only at hm
              refine bq_hit ?_
              refine nq ?_
              refine AW.region ?_
              refine AL.s rfl (op_moveD (.e rfl)) ?_
              refine AL.s rfl (op_field_ptr (.e rfl) fd27_0) ?_
              refine AL.s rfl (op_load_ptr1 (.e rfl) rfl rfl sc23) ?_
              refine AL.s rfl (op_moveD (.e rfl)) ?_
              obtain ⟨v19, hv19, hm⟩ := bindE hm
              refine AL.s rfl (op_indexAddrM (f := D.i) (.r rfl) (.r rfl) hv19 En.i sl23) ?_
              refine AL.s rfl (op_load_vp1 (.e rfl) rfl sc3) ?_
              refine AL.s rfl (op_addw (.r rfl) (.r rfl)) ?_
              refine AL.s rfl (op_assignD (.e rfl)) ?_
              refine AL.nil ?_
              refine bq_n ?_
              refine nq ?_
              refine AW.reset 0 [(2, .ptr 0 0), (3, .ptr 1 0), (6, .d (.int .i64 (IntKind.i64.wrap (s10 + v19)))), (8, .d (.int .i64 s11))] [.row [.d (.sl (a1.fCosts.map (esl D.i))), .d (.sl (a1.fRoom.map D.i)), .d (.int .i64 a1.fPenalty)], .row [.d (.sl (a2.fAsks.map D.i)), .d (.sl (a2.fLenders.map D.i))]] (WOK.g0 hw0 (by simp)) ⟨[0, 1], rfl, rfl, rfl, ⟨(.ptr rfl), (.ptr rfl), (.d rfl), (.d rfl), trivial⟩, trivial, (.row rfl (.cons (.d rfl) (.cons (.d rfl) (.cons (.d rfl) .nil))) (.row rfl (.cons (.d rfl) (.cons (.d rfl) .nil)) .nil))⟩ ?_
              refine AW.region ?_
              refine AL.s rfl (op_moveD (.e rfl)) ?_
              refine AL.s rfl (op_addw (.r rfl) (.r rfl)) ?_
              refine AL.s rfl (op_assignD (.e rfl)) ?_
              refine AL.nil ?_
              obtain rfl := Option.some.inj hm
              exact nq ⟨_, hI2, ⟨[0, 1], rfl, rfl, rfl, ⟨(.ptr rfl), (.ptr rfl), (.d rfl), (.d rfl), trivial⟩, trivial, (.row rfl (.cons (.d rfl) (.cons (.d rfl) (.cons (.d rfl) .nil))) (.row rfl (.cons (.d rfl) (.cons (.d rfl) .nil)) .nil))⟩⟩
        · replace hm := iteF hc5 hm
          refine AW.exit ?_
          refine tq_exit ?_
          refine tq_exit ?_
          obtain rfl := Option.some.inj hm
          obtain rfl := Option.some.inj hI2
          replace hm := hk2
          try dsimp only at hm
          refine bq_hit ?_
          refine nq ?_
          refine AW.seqR ?_
          refine AL.s rfl (op_moveD (.e rfl)) ?_
          refine AL.s rfl (op_assignD (.e rfl)) ?_
          refine AL.s rfl (op_assignD (.e rfl)) ?_
          refine AL.nil ?_
          refine AW.ret ?_
          obtain rfl := Option.some.inj hm
          exact EndQ.d (.tmp (.e rfl) (.tmp (.e rfl) .nil)) rfl rfl

set_option maxHeartbeats 20000000 in
theorem m_ref56_Check_ok {n : Nat} {a1 : SProblem} {a2 : (List Int)} {a3 : SPrices} {r : Int} (hm : m_ref56_Check n a1 a2 a3 = some r) : Fn Try.prog 17 [(SProblem.e a1), (.sl (a2.map D.i)), (SPrices.e a3)] (.int .i64 r) := by
  unfold m_ref56_Check at hm
  refine Fn.of_AW (fnn := Try.f17) Try.func17 rfl (Nat.le_of_ble_eq_true rfl) (fun g0 w0 hw0 => ?_)
  refine AW.seqR ?_
  refine AL.s rfl (op_box (n := 0) (.e rfl) rfl rfl rfl) ?_
  refine AL.s rfl (op_box (n := 1) (.e rfl) rfl rfl rfl) ?_
  refine AL.s rfl (op_assignD (.e rfl)) ?_
  refine AL.nil ?_
  refine AW.seqR ?_
  refine AL.s rfl (op_load_ptrA (.e rfl) rfl rfl rfl ag25) ?_
  refine AL.s rfl (op_moveD (.e rfl)) ?_
  obtain ⟨v4, hv4, hm⟩ := bindE hm
  refine AL.s rfl (op_fn Try.call11 (.e rfl) (.cons (.r rfl) (.cons (.r rfl) .nil)) (m_ref56_Cost_ok hv4)) ?_
  refine AL.s rfl (op_moveD (.e rfl)) ?_
  refine AL.s rfl (op_extractD (.e rfl) rfl) ?_
  refine AL.s rfl (op_extractD (.e rfl) rfl) ?_
  refine AL.s rfl (op_assignD (.e rfl)) ?_
  refine AL.s rfl (op_assignD (.e rfl)) ?_
  refine AL.nil ?_
  refine AW.seq ?_
  refine AW.reset 0 [(3, .ptr 0 0), (5, .ptr 1 0), (7, .d (.int .i64 v4.1)), (8, .d (.int .i64 v4.2))] [.row [.d (.sl (a1.fCosts.map (esl D.i))), .d (.sl (a1.fRoom.map D.i)), .d (.int .i64 a1.fPenalty)], .row [.d (.sl (a3.fAsks.map D.i)), .d (.sl (a3.fLenders.map D.i))]] (WOK.g0 hw0 (by simp)) ⟨[0, 1], rfl, rfl, rfl, ⟨(.ptr rfl), (.ptr rfl), (.d rfl), (.d rfl), trivial⟩, trivial, (.row rfl (.cons (.d rfl) (.cons (.d rfl) (.cons (.d rfl) .nil))) (.row rfl (.cons (.d rfl) (.cons (.d rfl) .nil)) .nil))⟩ ?_
  refine AW.seqR ?_
  refine AL.s rfl (op_moveD (.e rfl)) ?_
  refine AL.s rfl (op_neq (.r rfl) (.r rfl)) ?_
  refine AL.nil ?_
  refine AW.cond (b := _) rfl (fun hc1 => ?_) (fun hc1 => ?_)
  · replace hm := iteT hc1 hm
    refine AW.seqR ?_
    refine AL.s rfl (op_moveD (.e rfl)) ?_
    refine AL.s rfl (op_assignD (.e rfl)) ?_
    refine AL.nil ?_
    refine AW.ret ?_
    refine tq_ret ?_
    obtain rfl := Option.some.inj hm
    exact EndQ.d (.tmp (.e rfl) .nil) rfl rfl
  · replace hm := iteF hc1 hm
    refine AW.skip ?_
    refine nq ?_
    refine AW.seqR ?_
    refine AL.s rfl (op_load_ptrA (.e rfl) rfl rfl rfl ag25) ?_
    refine AL.s rfl (op_load_ptrA (.e rfl) rfl rfl rfl ag27) ?_
    obtain ⟨v5, hv5, hm⟩ := bindE hm
    refine AL.s rfl (op_fn Try.call13 (.e rfl) (.cons (.r rfl) (.cons (.r rfl) .nil)) (m_ref56_Bound_ok hv5)) ?_
    refine AL.s rfl (op_moveD (.e rfl)) ?_
    refine AL.s rfl (op_extractD (.e rfl) rfl) ?_
    refine AL.s rfl (op_extractD (.e rfl) rfl) ?_
    refine AL.s rfl (op_assignD (.e rfl)) ?_
    refine AL.s rfl (op_assignD (.e rfl)) ?_
    refine AL.nil ?_
    refine AW.seq ?_
    refine AW.seqR ?_
    refine AL.s rfl (op_moveD (.e rfl)) ?_
    refine AL.s rfl (op_neq (.r rfl) (.r rfl)) ?_
    refine AL.s rfl (op_moveD (.e rfl)) ?_
    refine AL.sF rfl rfl rfl rfl (fun g => op_moveD (.e rfl)) ?_
    refine AL.sF rfl rfl rfl rfl (fun g => op_moveD (.e rfl)) ?_
    refine AL.sF rfl rfl rfl rfl (fun g => op_neq (.we (nt g) rfl rfl) (.we (nt g) rfl rfl)) ?_
    refine AL.s rfl (op_or (.r rfl) rfl (fun h => (.we (nt h) rfl rfl))) ?_
    refine AL.nil ?_
    refine AW.cond (b := _) rfl (fun hc2 => ?_) (fun hc2 => ?_)
    · replace hm := iteT hc2 hm
      refine AW.seqR ?_
      refine AL.s rfl (op_assignD (.e rfl)) ?_
      refine AL.nil ?_
      refine AW.ret ?_
      refine tq_ret ?_
      obtain rfl := Option.some.inj hm
      exact EndQ.d (.tmp (.e rfl) .nil) rfl rfl
    · replace hm := iteF hc2 hm
      refine AW.skip ?_
      refine nq ?_
      refine AW.seqR ?_
      refine AL.s rfl (op_assignD (.e rfl)) ?_
      refine AL.nil ?_
      refine AW.ret ?_
      obtain rfl := Option.some.inj hm
      exact EndQ.d (.tmp (.e rfl) .nil) rfl rfl

end Go.Proofs.Ythjinjinnklkgaa.Ab
