/- The functions do what they are in plain Lean. Conditions: none. -/
import Derived.Test.YthjinjinnklkgaaTy
import Derived.Test.YthjinjinnklkgaaMi
import Derived.Test.YthjinjinnklkgaaFc
set_option maxRecDepth 100000
namespace Go.Proofs.Ythjinjinnklkgaa.Ab
open Go
attribute [local irreducible] AL AD AW nlO nlV nlD

set_option maxHeartbeats 20000000 in
theorem m_route_search_add_ok {n : Nat} {c1 : Ssearch} {a2 : Int} {r : Ssearch} (hm : m_route_search_add n c1 a2 = some r) : ACall Try.prog 51 [.ptr 0 0, .d (.int .i64 a2)] [.row [.d (.sl (c1.fp.fCosts.map (esl D.i))), .d (.sl (c1.fp.fRoom.map D.i)), .d (.int .i64 c1.fp.fPenalty), .d (.sl (c1.froom.map D.i)), .hs 1 0 c1.fa.length 1, .d (.int .i64 c1.ffrom)], .lst (c1.fa.map D.i) 3 1] fun r' H' => r' = resOf [] ∧ H' = [.row [.d (.sl (r.fp.fCosts.map (esl D.i))), .d (.sl (r.fp.fRoom.map D.i)), .d (.int .i64 r.fp.fPenalty), .d (.sl (r.froom.map D.i)), .hs 1 0 r.fa.length 1, .d (.int .i64 r.ffrom)], .lst (r.fa.map D.i) 3 1] := by
  unfold m_route_search_add at hm
  refine ACall.of_AWG (fnn := Try.f51) Try.func51 rfl (Nat.le_of_ble_eq_true rfl) (fun g0 w0 hw0 => ?_)
  refine AW.scope ?_
  refine AW.reset 2 [(0, .ptr 0 0), (1, .d (.int .i64 a2))] [.row [.d (.sl (c1.fp.fCosts.map (esl D.i))), .d (.sl (c1.fp.fRoom.map D.i)), .d (.int .i64 c1.fp.fPenalty), .d (.sl (c1.froom.map D.i)), .hs 1 0 c1.fa.length 1, .d (.int .i64 c1.ffrom)], .lst (c1.fa.map D.i) 3 1] (WOK.g0 hw0 (by simp)) ⟨[0, 1], rfl, rfl, rfl, ⟨(.ptr rfl), (.d rfl), trivial⟩, trivial, (.row rfl (.cons (.d rfl) (.cons (.d rfl) (.cons (.d rfl) (.cons (.d rfl) (.cons (.hs rfl rfl) (.cons (.d rfl) .nil)))))) (.lst rfl .nil))⟩ ?_
  refine AW.seqR ?_
  refine AL.s rfl (op_moveP (.e rfl)) ?_
  refine AL.s rfl (op_nilCheckP (.e rfl)) ?_
  refine AL.s rfl (op_field_ptr (.e rfl) fd88_1) ?_
  refine AL.s rfl (op_load_ptr1 (.e rfl) rfl rfl sc23) ?_
  refine AL.s rfl (op_lenM (f := D.i) (.r rfl) sl23) ?_
  refine AL.s rfl (op_assignD (.e rfl)) ?_
  refine AL.nil ?_
  refine AW.seqR ?_
  refine AL.s rfl (op_buildSlice (ds := ([(1099511627776 : Int)] : List Int).map D.i) sl23 (.cons (.r rfl) rfl (En.i.one _) .nil) rfl (by decide)) ?_
  refine AL.s rfl (op_moveD (.e rfl)) ?_
  refine AL.toD 29 rfl ?_
  obtain ⟨v3, hv3, hm⟩ := bindE hm
  refine AL.s rfl (op_callF (v := .hs 2 0 v3.length 1) (H' := [.row [.d (.sl (c1.fp.fCosts.map (esl D.i))), .d (.sl (c1.fp.fRoom.map D.i)), .d (.int .i64 c1.fp.fPenalty), .d (.sl (c1.froom.map D.i)), .hs 1 0 c1.fa.length 1, .d (.int .i64 c1.ffrom)], .lst (c1.fa.map D.i) 3 1, .lst (v3.map D.i) 3 1]) [] Try.call50 (.e rfl) (.cons (.e rfl) (.cons (.e rfl) .nil)) (m_slices_Repeat_int_int_ok hv3) rfl .nil rfl rfl rfl rfl rfl rfl rfl rfl) ?_
  refine AL.s rfl (op_assignH (.e rfl)) ?_
  refine AL.nil ?_
  refine AW.free ?_
  refine AW.free ?_
  refine AW.seqD [([], []), ([], [3]), ([], []), ([], []), ([], [4]), ([], []), ([], [])] mo (by decide +kernel) ?_
  refine AD.s (ws := []) rfl rfl (fun H' _ hH => op_moveD (.e rfl)) ?_
  obtain ⟨v4, hv4, hm⟩ := bindE hm
  refine AD.s (ws := [(3, _)]) rfl rfl (fun H' _ hH => op_makeR (res := 3) (f := D.i) (.r rfl) sl23 zr3 rfl ((hH _ (by simp)).trans rfl) hv4) ?_
  refine AD.s (ws := []) rfl rfl (fun H' _ hH => op_buildSlice (ds := ([(-1 : Int)] : List Int).map D.i) sl23 (.cons (.r rfl) rfl (En.i.one _) .nil) rfl (by decide)) ?_
  refine AD.s (ws := []) rfl rfl (fun H' _ hH => op_moveD (.e rfl)) ?_
  obtain ⟨v5, hv5, hm⟩ := bindE hm
  refine AD.s (ws := [(4, _)]) rfl rfl (fun H' _ hH => op_callNew (res := 4) Try.call50 (.e rfl) (.cons (.r rfl) (.cons (.r rfl) .nil)) (m_slices_Repeat_int_int_ok hv5) ((hH _ (by simp)).trans rfl)) ?_
  refine AD.s (ws := []) rfl rfl (fun H' _ hH => op_assignH (.e rfl)) ?_
  refine AD.s (ws := []) rfl rfl (fun H' _ hH => op_assignH (.e rfl)) ?_
  refine AD.nil ?_
  refine AW.seq ?_
  refine AW.seqR ?_
  refine AL.s rfl (op_moveP (.e rfl)) ?_
  refine AL.s rfl (op_nilCheckP (.e rfl)) ?_
  refine AL.s rfl (op_field_ptr (.e rfl) fd88_0) ?_
  refine AL.s rfl (op_field_ptr (.e rfl) fd30_0) ?_
  refine AL.s rfl (op_load_ptr1 (.e rfl) rfl rfl sc22) ?_
  refine AL.s rfl (op_moveD (.e rfl)) ?_
  obtain ⟨v6, hv6, hm⟩ := bindE hm
  refine AL.s rfl (op_indexAddrM (f := (esl D.i)) (.r rfl) (.r rfl) hv6 En.sl sl22) ?_
  refine AL.s rfl (op_load_vp1 (.e rfl) rfl sc23) ?_
  refine AL.s rfl (op_lenM (f := D.i) (.r rfl) sl23) ?_
  refine AL.s rfl (op_moveD (.e rfl)) ?_
  refine AL.nil ?_
  refine AW.block ?_
  obtain ⟨t_1, hI1, hk1⟩ := bindE hm
  refine AW.loopS (σ := (Int × (List Int) × (List Int))) (τ := ((List Int) × (List Int))) 2 (fun x => [(0, .ptr 0 0), (1, .d (.int .i64 a2)), (4, .d (.int .i64 (c1.froom.length : Int))), (5, .hs 2 0 x.2.1.length 1), (6, .hs 3 0 x.2.2.length 1), (7, .hs 4 0 v5.length 1), (44, .d (.sl (v6.map D.i))), (45, .d (.int .i64 (v6.length : Int))), (46, .d (.int .i64 x.1))]) (fun x => [.row [.d (.sl (c1.fp.fCosts.map (esl D.i))), .d (.sl (c1.fp.fRoom.map D.i)), .d (.int .i64 c1.fp.fPenalty), .d (.sl (c1.froom.map D.i)), .hs 1 0 c1.fa.length 1, .d (.int .i64 c1.ffrom)], .lst (c1.fa.map D.i) 3 1, .lst (x.2.1.map D.i) 3 1, .lst (x.2.2.map D.i) 3 1, .lst (v5.map D.i) 3 1]) hI1 (WOK.g0 hw0 (by simp)) ⟨[0, 1, 2, 3, 4], rfl, rfl, rfl, ⟨(.ptr rfl), (.d rfl), (.d rfl), (.hs rfl rfl), (.hs rfl rfl), (.hs rfl rfl), (.d rfl), (.d rfl), (.d rfl), trivial⟩, trivial, (.row rfl (.cons (.d rfl) (.cons (.d rfl) (.cons (.d rfl) (.cons (.d rfl) (.cons (.hs rfl rfl) (.cons (.d rfl) .nil)))))) (.lst rfl (.lst rfl (.lst rfl (.lst rfl .nil)))))⟩ ?_
  rintro n1 ⟨s7, s8, s9⟩ hI1
  obtain ⟨y_1, hm, hI1⟩ := iterS hI1
  replace hm : m_route_search_add_L1 n _ _ s7 s8 s9 = some y_1 := hm
  unfold m_route_search_add_L1 at hm
  try dsimp only at hm
  refine AW.seqR ?_
  refine AL.s rfl (op_lss (.r rfl) (.r rfl)) ?_
  refine AL.nil ?_
  refine AW.seq ?_
  refine AW.cond (b := _) rfl (fun hc1 => ?_) (fun hc1 => ?_)
  · replace hm := iteT hc1 hm
    refine AW.skip ?_
    refine nq ?_
    obtain ⟨t_j1, hm, hkj1⟩ := bindE hm
    refine AW.cutS (α := ((List Int) × (List Int))) 2 (fun x => x = t_j1) (fun x => [(0, .ptr 0 0), (1, .d (.int .i64 a2)), (4, .d (.int .i64 (c1.froom.length : Int))), (5, .hs 2 0 x.1.length 1), (6, .hs 3 0 x.2.length 1), (7, .hs 4 0 v5.length 1), (44, .d (.sl (v6.map D.i))), (45, .d (.int .i64 (v6.length : Int))), (46, .d (.int .i64 s7))]) (fun x => [.row [.d (.sl (c1.fp.fCosts.map (esl D.i))), .d (.sl (c1.fp.fRoom.map D.i)), .d (.int .i64 c1.fp.fPenalty), .d (.sl (c1.froom.map D.i)), .hs 1 0 c1.fa.length 1, .d (.int .i64 c1.ffrom)], .lst (c1.fa.map D.i) 3 1, .lst (x.1.map D.i) 3 1, .lst (x.2.map D.i) 3 1, .lst (v5.map D.i) 3 1]) (WOK.g0 hw0 (by simp)) ?_ ?_
    · skip
      refine AW.block ?_
      refine AW.seqR ?_
      refine AL.s rfl (op_moveD (.e rfl)) ?_
      obtain ⟨v10, hv10, hm⟩ := bindE hm
      refine AL.s rfl (op_indexAddrM (f := D.i) (.r rfl) (.r rfl) hv10 En.i sl23) ?_
      refine AL.s rfl (op_load_vp1 (.e rfl) rfl sc3) ?_
      refine AL.s rfl (op_assignD (.e rfl)) ?_
      refine AL.s rfl (op_assignD (.e rfl)) ?_
      refine AL.nil ?_
      refine AW.seqR ?_
      refine AL.s rfl (op_moveD (.e rfl)) ?_
      refine AL.s rfl (op_neq (.r rfl) (.r rfl)) ?_
      refine AL.nil ?_
      refine AW.cond (b := _) rfl (fun hc2 => ?_) (fun hc2 => ?_)
      · replace hm := iteT hc2 hm
        refine AW.region ?_
        refine AL.s rfl (op_moveH (.e rfl)) ?_
        refine AL.s rfl (op_moveD (.e rfl)) ?_
        refine AL.s rfl (op_moveH (.e rfl)) ?_
        refine AL.s rfl (op_moveD (.e rfl)) ?_
        refine AL.s rfl (op_moveD (.e rfl)) ?_
        refine AL.s rfl (op_moveD (.e rfl)) ?_
        obtain ⟨v11, hv11, hm⟩ := bindE hm
        refine AL.s rfl (op_indexAddr_hs (f := D.i) (l := s8) (.e rfl) rfl rfl (.r rfl) hv11 sl23) ?_
        obtain ⟨v12, hv12, hm⟩ := bindE hm
        refine AL.s rfl (op_store_lp (f := D.i) (fun _ => rfl) (.e rfl) (.r rfl) rfl hv12 ⟨_, rfl, rfl⟩ En.i) ?_
        obtain ⟨v13, hv13, hm⟩ := bindE hm
        refine AL.s rfl (op_indexAddr_hs (f := D.i) (l := s9) (.e rfl) rfl rfl (.r rfl) hv13 sl23) ?_
        obtain ⟨v14, hv14, hm⟩ := bindE hm
        refine AL.s rfl (op_store_lp (f := D.i) (fun _ => rfl) (.e rfl) (.r rfl) rfl hv14 ⟨_, rfl, rfl⟩ En.i) ?_
        refine AL.nil ?_
        refine bq_n ?_
        obtain rfl := Option.some.inj hm
        exact nq ⟨_, rfl, ⟨[0, 1, 2, 3, 4], rfl, rfl, rfl, ⟨(.ptr rfl), (.d rfl), (.d rfl), (.hs rfl (setI_len hv12).symm), (.hs rfl (setI_len hv14).symm), (.hs rfl rfl), (.d rfl), (.d rfl), (.d rfl), trivial⟩, trivial, (.row rfl (.cons (.d rfl) (.cons (.d rfl) (.cons (.d rfl) (.cons (.d rfl) (.cons (.hs rfl rfl) (.cons (.d rfl) .nil)))))) (.lst rfl (.lst rfl (.lst rfl (.lst rfl .nil)))))⟩⟩
      · replace hm := iteF hc2 hm
        refine AW.skip ?_
        refine bq_n ?_
        obtain rfl := Option.some.inj hm
        exact nq ⟨_, rfl, ⟨[0, 1, 2, 3, 4], rfl, rfl, rfl, ⟨(.ptr rfl), (.d rfl), (.d rfl), (.hs rfl rfl), (.hs rfl rfl), (.hs rfl rfl), (.d rfl), (.d rfl), (.d rfl), trivial⟩, trivial, (.row rfl (.cons (.d rfl) (.cons (.d rfl) (.cons (.d rfl) (.cons (.d rfl) (.cons (.hs rfl rfl) (.cons (.d rfl) .nil)))))) (.lst rfl (.lst rfl (.lst rfl (.lst rfl .nil)))))⟩⟩
    · rintro ⟨s15, s16⟩ rfl
      replace hm := hkj1
      try dsimp only at hm
      refine AW.region ?_
      refine AL.s rfl (op_addw (.r rfl) (.r rfl)) ?_
      refine AL.s rfl (op_moveD (.e rfl)) ?_
      refine AL.nil ?_
      obtain rfl := Option.some.inj hm
      exact nq ⟨_, hI1, ⟨[0, 1, 2, 3, 4], rfl, rfl, rfl, ⟨(.ptr rfl), (.d rfl), (.d rfl), (.hs rfl rfl), (.hs rfl rfl), (.hs rfl rfl), (.d rfl), (.d rfl), (.d rfl), trivial⟩, trivial, (.row rfl (.cons (.d rfl) (.cons (.d rfl) (.cons (.d rfl) (.cons (.d rfl) (.cons (.hs rfl rfl) (.cons (.d rfl) .nil)))))) (.lst rfl (.lst rfl (.lst rfl (.lst rfl .nil)))))⟩⟩
  · replace hm := iteF hc1 hm
    refine AW.exit ?_
    refine tq_exit ?_
    refine tq_exit ?_
    obtain rfl := Option.some.inj hm
    obtain rfl := Option.some.inj hI1
    replace hm := hk1
    try dsimp only at hm
    refine bq_hit ?_
    refine nq ?_
    refine AW.seq ?_
    refine AW.label ?_
    refine nq ?_
    refine AW.seq ?_
    refine AW.block ?_
    obtain ⟨t_2, hI2, hk2⟩ := bindE hm
    refine AW.loopS (σ := ((List Int) × (List Int) × (List Int))) (τ := ((List Int) × (List Int) × (List Int))) 2 (fun x => [(0, .ptr 0 0), (1, .d (.int .i64 a2)), (4, .d (.int .i64 (c1.froom.length : Int))), (5, .hs 2 0 x.1.length 1), (6, .hs 3 0 x.2.1.length 1), (7, .hs 4 0 x.2.2.length 1)]) (fun x => [.row [.d (.sl (c1.fp.fCosts.map (esl D.i))), .d (.sl (c1.fp.fRoom.map D.i)), .d (.int .i64 c1.fp.fPenalty), .d (.sl (c1.froom.map D.i)), .hs 1 0 c1.fa.length 1, .d (.int .i64 c1.ffrom)], .lst (c1.fa.map D.i) 3 1, .lst (x.1.map D.i) 3 1, .lst (x.2.1.map D.i) 3 1, .lst (x.2.2.map D.i) 3 1]) hI2 (WOK.g0 hw0 (by simp)) ⟨[0, 1, 2, 3, 4], rfl, rfl, rfl, ⟨(.ptr rfl), (.d rfl), (.d rfl), (.hs rfl rfl), (.hs rfl rfl), (.hs rfl rfl), trivial⟩, trivial, (.row rfl (.cons (.d rfl) (.cons (.d rfl) (.cons (.d rfl) (.cons (.d rfl) (.cons (.hs rfl rfl) (.cons (.d rfl) .nil)))))) (.lst rfl (.lst rfl (.lst rfl (.lst rfl .nil)))))⟩ ?_
    rintro n2 ⟨s17, s18, s19⟩ hI2
    obtain ⟨y_2, hm, hI2⟩ := iterS hI2
    replace hm : m_route_search_add_L2 n _ s17 s18 s19 = some y_2 := hm
    unfold m_route_search_add_L2 at hm
    try dsimp only at hm
    refine AW.block ?_
    refine AW.seq ?_
    refine AW.seqR ?_
    refine AL.s rfl (op_moveD (.e rfl)) ?_
    refine AL.s rfl (op_moveD (.e rfl)) ?_
    refine AL.nil ?_
    refine AW.block ?_
    obtain ⟨t_3, hI3, hk3⟩ := bindE hm
    refine AW.loopS (σ := Int) (τ := (((List Int) × (List Int) × (List Int)) ⊕ Unit)) 2 (fun x => [(0, .ptr 0 0), (1, .d (.int .i64 a2)), (4, .d (.int .i64 (c1.froom.length : Int))), (5, .hs 2 0 s17.length 1), (6, .hs 3 0 s18.length 1), (7, .hs 4 0 s19.length 1), (62, .d (.int .i64 (c1.froom.length : Int))), (63, .d (.int .i64 x))]) (fun x => [.row [.d (.sl (c1.fp.fCosts.map (esl D.i))), .d (.sl (c1.fp.fRoom.map D.i)), .d (.int .i64 c1.fp.fPenalty), .d (.sl (c1.froom.map D.i)), .hs 1 0 c1.fa.length 1, .d (.int .i64 c1.ffrom)], .lst (c1.fa.map D.i) 3 1, .lst (s17.map D.i) 3 1, .lst (s18.map D.i) 3 1, .lst (s19.map D.i) 3 1]) hI3 (WOK.g0 hw0 (by simp)) ⟨[0, 1, 2, 3, 4], rfl, rfl, rfl, ⟨(.ptr rfl), (.d rfl), (.d rfl), (.hs rfl rfl), (.hs rfl rfl), (.hs rfl rfl), (.d rfl), (.d rfl), trivial⟩, trivial, (.row rfl (.cons (.d rfl) (.cons (.d rfl) (.cons (.d rfl) (.cons (.d rfl) (.cons (.hs rfl rfl) (.cons (.d rfl) .nil)))))) (.lst rfl (.lst rfl (.lst rfl (.lst rfl .nil)))))⟩ ?_
    rintro n3 s20 hI3
    obtain ⟨y_3, hm, hI3⟩ := iterS hI3
    replace hm : m_route_search_add_L3 n _ _ _ _ s20 = some y_3 := hm
    unfold m_route_search_add_L3 at hm
    try dsimp only at hm
    refine AW.seqR ?_
    refine AL.s rfl (op_lss (.r rfl) (.r rfl)) ?_
    refine AL.nil ?_
    refine AW.seq ?_
    refine AW.cond (b := _) rfl (fun hc3 => ?_) (fun hc3 => ?_)
    · replace hm := iteT hc3 hm
      refine AW.skip ?_
      refine nq ?_
      obtain ⟨t_j2, hm, hkj2⟩ := bindE hm
      refine AW.cutS (α := Unit) 2 (fun x => (.inl x) = t_j2) (fun x => [(0, .ptr 0 0), (1, .d (.int .i64 a2)), (4, .d (.int .i64 (c1.froom.length : Int))), (5, .hs 2 0 s17.length 1), (6, .hs 3 0 s18.length 1), (7, .hs 4 0 s19.length 1), (62, .d (.int .i64 (c1.froom.length : Int))), (63, .d (.int .i64 s20))]) (fun x => [.row [.d (.sl (c1.fp.fCosts.map (esl D.i))), .d (.sl (c1.fp.fRoom.map D.i)), .d (.int .i64 c1.fp.fPenalty), .d (.sl (c1.froom.map D.i)), .hs 1 0 c1.fa.length 1, .d (.int .i64 c1.ffrom)], .lst (c1.fa.map D.i) 3 1, .lst (s17.map D.i) 3 1, .lst (s18.map D.i) 3 1, .lst (s19.map D.i) 3 1]) (WOK.g0 hw0 (by simp)) ?_ ?_
      · skip
        refine AW.block ?_
        refine AW.reset 2 [(0, .ptr 0 0), (1, .d (.int .i64 a2)), (4, .d (.int .i64 (c1.froom.length : Int))), (5, .hs 2 0 s17.length 1), (6, .hs 3 0 s18.length 1), (7, .hs 4 0 s19.length 1), (62, .d (.int .i64 (c1.froom.length : Int))), (63, .d (.int .i64 s20))] [.row [.d (.sl (c1.fp.fCosts.map (esl D.i))), .d (.sl (c1.fp.fRoom.map D.i)), .d (.int .i64 c1.fp.fPenalty), .d (.sl (c1.froom.map D.i)), .hs 1 0 c1.fa.length 1, .d (.int .i64 c1.ffrom)], .lst (c1.fa.map D.i) 3 1, .lst (s17.map D.i) 3 1, .lst (s18.map D.i) 3 1, .lst (s19.map D.i) 3 1] (WOK.g0 hw0 (by simp)) ⟨[0, 1, 2, 3, 4], rfl, rfl, rfl, ⟨(.ptr rfl), (.d rfl), (.d rfl), (.hs rfl rfl), (.hs rfl rfl), (.hs rfl rfl), (.d rfl), (.d rfl), trivial⟩, trivial, (.row rfl (.cons (.d rfl) (.cons (.d rfl) (.cons (.d rfl) (.cons (.d rfl) (.cons (.hs rfl rfl) (.cons (.d rfl) .nil)))))) (.lst rfl (.lst rfl (.lst rfl (.lst rfl .nil)))))⟩ ?_
        refine AW.seqR ?_
        refine AL.s rfl (op_moveD (.e rfl)) ?_
        refine AL.s rfl (op_assignD (.e rfl)) ?_
        refine AL.nil ?_
        refine AW.seq ?_
        refine AW.seqR ?_
        refine AL.s rfl (op_moveH (.e rfl)) ?_
        refine AL.s rfl (op_moveD (.e rfl)) ?_
        obtain ⟨v21, hv21, hm⟩ := bindE hm
        refine AL.s rfl (op_indexAddr_hs (f := D.i) (l := s17) (.e rfl) rfl rfl (.r rfl) hv21 sl23) ?_
        obtain ⟨v22, hv22, hm⟩ := bindE hm
        refine AL.s rfl (op_load_lp (f := D.i) (fun _ => rfl) (.e rfl) rfl hv22 sc3) ?_
        refine AL.s rfl (op_geq (.r rfl) (.r rfl)) ?_
        refine AL.nil ?_
        refine AW.cond (b := _) rfl (fun hc4 => ?_) (fun hc4 => ?_)
        · replace hm := iteT hc4 hm
          refine AW.exit ?_
          refine tq_exit ?_
          refine bq_hit ?_
          obtain rfl := Option.some.inj hm
          exact nq ⟨_, rfl, ⟨[0, 1, 2, 3, 4], rfl, rfl, rfl, ⟨(.ptr rfl), (.d rfl), (.d rfl), (.hs rfl rfl), (.hs rfl rfl), (.hs rfl rfl), (.d rfl), (.d rfl), trivial⟩, trivial, (.row rfl (.cons (.d rfl) (.cons (.d rfl) (.cons (.d rfl) (.cons (.d rfl) (.cons (.hs rfl rfl) (.cons (.d rfl) .nil)))))) (.lst rfl (.lst rfl (.lst rfl (.lst rfl .nil)))))⟩⟩
        · replace hm := iteF hc4 hm
          refine AW.skip ?_
          refine nq ?_
          refine AW.seqR ?_
          refine AL.s rfl (op_moveP (.e rfl)) ?_
          refine AL.s rfl (op_moveD (.e rfl)) ?_
          obtain ⟨v23, hv23, hm⟩ := bindE hm
          refine AL.s rfl (op_callF (v := .d (.sl (v23.map D.i))) (H' := [.row [.d (.sl (c1.fp.fCosts.map (esl D.i))), .d (.sl (c1.fp.fRoom.map D.i)), .d (.int .i64 c1.fp.fPenalty), .d (.sl (c1.froom.map D.i)), .hs 1 0 c1.fa.length 1, .d (.int .i64 c1.ffrom)], .lst (c1.fa.map D.i) 3 1, .lst (s17.map D.i) 3 1, .lst (s18.map D.i) 3 1, .lst (s19.map D.i) 3 1]) [0, 1] Try.call59 (.e rfl) (.cons (.e rfl) (.cons (.e rfl) .nil)) (m_route_search_assigned_ok hv23) rfl (.cons rfl (.cons rfl .nil)) rfl rfl rfl rfl rfl rfl rfl rfl) ?_
          refine AL.s rfl (op_lenM (f := D.i) (.r rfl) sl23) ?_
          refine AL.s rfl (op_moveD (.e rfl)) ?_
          refine AL.nil ?_
          refine AW.block ?_
          obtain ⟨t_4, hI4, hk4⟩ := bindE hm
          refine AW.loopS (σ := Int) (τ := (((List Int) × (List Int) × (List Int)) ⊕ Unit)) 2 (fun x => [(0, .ptr 0 0), (1, .d (.int .i64 a2)), (4, .d (.int .i64 (c1.froom.length : Int))), (5, .hs 2 0 s17.length 1), (6, .hs 3 0 s18.length 1), (7, .hs 4 0 s19.length 1), (10, .d (.int .i64 s20)), (62, .d (.int .i64 (c1.froom.length : Int))), (63, .d (.int .i64 s20)), (73, .d (.sl (v23.map D.i))), (74, .d (.int .i64 (v23.length : Int))), (75, .d (.int .i64 x))]) (fun x => [.row [.d (.sl (c1.fp.fCosts.map (esl D.i))), .d (.sl (c1.fp.fRoom.map D.i)), .d (.int .i64 c1.fp.fPenalty), .d (.sl (c1.froom.map D.i)), .hs 1 0 c1.fa.length 1, .d (.int .i64 c1.ffrom)], .lst (c1.fa.map D.i) 3 1, .lst (s17.map D.i) 3 1, .lst (s18.map D.i) 3 1, .lst (s19.map D.i) 3 1]) hI4 (WOK.g0 hw0 (by simp)) ⟨[0, 1, 2, 3, 4], rfl, rfl, rfl, ⟨(.ptr rfl), (.d rfl), (.d rfl), (.hs rfl rfl), (.hs rfl rfl), (.hs rfl rfl), (.d rfl), (.d rfl), (.d rfl), (.d rfl), (.d rfl), (.d rfl), trivial⟩, trivial, (.row rfl (.cons (.d rfl) (.cons (.d rfl) (.cons (.d rfl) (.cons (.d rfl) (.cons (.hs rfl rfl) (.cons (.d rfl) .nil)))))) (.lst rfl (.lst rfl (.lst rfl (.lst rfl .nil)))))⟩ ?_
          rintro n4 s24 hI4
          obtain ⟨y_4, hm, hI4⟩ := iterS hI4
          replace hm : m_route_search_add_L4 n _ _ _ _ _ _ s24 = some y_4 := hm
          unfold m_route_search_add_L4 at hm
          try dsimp only at hm
          refine AW.seqR ?_
          refine AL.s rfl (op_lss (.r rfl) (.r rfl)) ?_
          refine AL.nil ?_
          refine AW.seq ?_
          refine AW.cond (b := _) rfl (fun hc5 => ?_) (fun hc5 => ?_)
          · replace hm := iteT hc5 hm
            refine AW.skip ?_
            refine nq ?_
            refine AW.seq ?_
            refine AW.block ?_
            refine AW.seqR ?_
            obtain ⟨v25, hv25, hm⟩ := bindE hm
            refine AL.s rfl (op_indexAddrM (f := D.i) (.r rfl) (.r rfl) hv25 En.i sl23) ?_
            refine AL.s rfl (op_load_vp1 (.e rfl) rfl sc3) ?_
            refine AL.s rfl (op_assignD (.e rfl)) ?_
            refine AL.nil ?_
            refine AW.seqR ?_
            refine AL.s rfl (op_moveP (.e rfl)) ?_
            refine AL.s rfl (op_nilCheckP (.e rfl)) ?_
            refine AL.s rfl (op_field_ptr (.e rfl) fd88_0) ?_
            refine AL.s rfl (op_field_ptr (.e rfl) fd30_0) ?_
            refine AL.s rfl (op_load_ptr1 (.e rfl) rfl rfl sc22) ?_
            refine AL.s rfl (op_moveD (.e rfl)) ?_
            obtain ⟨v26, hv26, hm⟩ := bindE hm
            refine AL.s rfl (op_indexAddrM (f := (esl D.i)) (.r rfl) (.r rfl) hv26 En.sl sl22) ?_
            refine AL.s rfl (op_load_vp1 (.e rfl) rfl sc23) ?_
            refine AL.s rfl (op_lenM (f := D.i) (.r rfl) sl23) ?_
            refine AL.s rfl (op_moveD (.e rfl)) ?_
            refine AL.nil ?_
            refine AW.block ?_
            obtain ⟨t_5, hI5, hk5⟩ := bindE hm
            refine AW.loopS (σ := Int) (τ := (((List Int) × (List Int) × (List Int)) ⊕ Unit)) 2 (fun x => [(0, .ptr 0 0), (1, .d (.int .i64 a2)), (4, .d (.int .i64 (c1.froom.length : Int))), (5, .hs 2 0 s17.length 1), (6, .hs 3 0 s18.length 1), (7, .hs 4 0 s19.length 1), (10, .d (.int .i64 s20)), (12, .d (.int .i64 v25)), (62, .d (.int .i64 (c1.froom.length : Int))), (63, .d (.int .i64 s20)), (73, .d (.sl (v23.map D.i))), (74, .d (.int .i64 (v23.length : Int))), (75, .d (.int .i64 s24)), (86, .d (.sl (v26.map D.i))), (87, .d (.int .i64 (v26.length : Int))), (88, .d (.int .i64 x))]) (fun x => [.row [.d (.sl (c1.fp.fCosts.map (esl D.i))), .d (.sl (c1.fp.fRoom.map D.i)), .d (.int .i64 c1.fp.fPenalty), .d (.sl (c1.froom.map D.i)), .hs 1 0 c1.fa.length 1, .d (.int .i64 c1.ffrom)], .lst (c1.fa.map D.i) 3 1, .lst (s17.map D.i) 3 1, .lst (s18.map D.i) 3 1, .lst (s19.map D.i) 3 1]) hI5 (WOK.g0 hw0 (by simp)) ⟨[0, 1, 2, 3, 4], rfl, rfl, rfl, ⟨(.ptr rfl), (.d rfl), (.d rfl), (.hs rfl rfl), (.hs rfl rfl), (.hs rfl rfl), (.d rfl), (.d rfl), (.d rfl), (.d rfl), (.d rfl), (.d rfl), (.d rfl), (.d rfl), (.d rfl), (.d rfl), trivial⟩, trivial, (.row rfl (.cons (.d rfl) (.cons (.d rfl) (.cons (.d rfl) (.cons (.d rfl) (.cons (.hs rfl rfl) (.cons (.d rfl) .nil)))))) (.lst rfl (.lst rfl (.lst rfl (.lst rfl .nil)))))⟩ ?_
            rintro n5 s27 hI5
            obtain ⟨y_5, hm, hI5⟩ := iterS hI5
            replace hm : m_route_search_add_L5 n _ _ _ _ _ _ _ s27 = some y_5 := hm
            unfold m_route_search_add_L5 at hm
            try dsimp only at hm
            refine AW.seqR ?_
            refine AL.s rfl (op_lss (.r rfl) (.r rfl)) ?_
            refine AL.nil ?_
            refine AW.seq ?_
            refine AW.cond (b := _) rfl (fun hc6 => ?_) (fun hc6 => ?_)
            · replace hm := iteT hc6 hm
              refine AW.skip ?_
              refine nq ?_
              refine AW.seq ?_
              refine AW.block ?_
              refine AW.seqR ?_
              refine AL.s rfl (op_moveD (.e rfl)) ?_
              obtain ⟨v28, hv28, hm⟩ := bindE hm
              refine AL.s rfl (op_indexAddrM (f := D.i) (.r rfl) (.r rfl) hv28 En.i sl23) ?_
              refine AL.s rfl (op_load_vp1 (.e rfl) rfl sc3) ?_
              refine AL.s rfl (op_assignD (.e rfl)) ?_
              refine AL.s rfl (op_assignD (.e rfl)) ?_
              refine AL.nil ?_
              refine AW.seqD [([], []), ([], []), ([], []), ([], []), ([], []), ([2], []), ([2], []), ([], []), ([], []), ([], []), ([], []), ([0], []), ([], []), ([], []), ([], []), ([], []), ([], []), ([], []), ([], []), ([], []), ([], []), ([], []), ([], []), ([2], []), ([2], []), ([], []), ([], [])] mo (by decide +kernel) ?_
              refine AD.s (ws := []) rfl rfl (fun H' _ hH => op_moveD (.e rfl)) ?_
              refine AD.s (ws := []) rfl rfl (fun H' _ hH => op_neq (.r rfl) (.r rfl)) ?_
              refine AD.s (ws := []) rfl rfl (fun H' _ hH => op_moveD (.e rfl)) ?_
              refine AD.sT rfl rfl rfl rfl (fun g H' _ hH => op_moveH (.e rfl)) ?_
              refine AD.sT rfl rfl rfl rfl (fun g H' _ hH => op_moveD (.e rfl)) ?_
              obtain ⟨v29, hv29, hm⟩ := bindE hm
              refine AD.sT rfl rfl rfl rfl (fun g H' _ hH => op_indexAddr_hs (f := D.i) (l := s17) (.we g rfl) ((hH _ (by simp)).trans rfl) rfl (.we g rfl rfl) (iteT g hv29) sl23) ?_
              obtain ⟨v30, hv30, hm⟩ := bindE hm
              refine AD.sT rfl rfl rfl rfl (fun g H' _ hH => op_load_lp (f := D.i) (fun _ => rfl) (.we g rfl) ((hH _ (by simp)).trans rfl) (iteT g hv30) sc3) ?_
              refine AD.sT rfl rfl rfl rfl (fun g H' _ hH => op_moveP (.e rfl)) ?_
              refine AD.sT rfl rfl rfl rfl (fun g H' _ hH => op_nilCheckP (.we g rfl)) ?_
              refine AD.sT rfl rfl rfl rfl (fun g H' _ hH => op_field_ptr (.we g rfl) fd88_0) ?_
              refine AD.sT rfl rfl rfl rfl (fun g H' _ hH => op_field_ptr (.we g rfl) fd30_0) ?_
              refine AD.sT rfl rfl rfl rfl (fun g H' _ hH => op_load_ptr1 (.we g rfl) ((hH _ (by simp)).trans rfl) rfl sc22) ?_
              refine AD.sT rfl rfl rfl rfl (fun g H' _ hH => op_moveD (.e rfl)) ?_
              obtain ⟨v31, hv31, hm⟩ := bindE hm
              refine AD.sT rfl rfl rfl rfl (fun g H' _ hH => op_indexAddrM (f := (esl D.i)) (.we g rfl rfl) (.we g rfl rfl) (iteT g hv31) En.sl sl22) ?_
              refine AD.sT rfl rfl rfl rfl (fun g H' _ hH => op_load_vp1 (.we g rfl) rfl sc23) ?_
              refine AD.sT rfl rfl rfl rfl (fun g H' _ hH => op_moveD (.e rfl)) ?_
              obtain ⟨v32, hv32, hm⟩ := bindE hm
              refine AD.sT rfl rfl rfl rfl (fun g H' _ hH => op_indexAddrM (f := D.i) (.we g rfl rfl) (.we g rfl rfl) (iteT g hv32) En.i sl23) ?_
              refine AD.sT rfl rfl rfl rfl (fun g H' _ hH => op_load_vp1 (.we g rfl) rfl sc3) ?_
              refine AD.sT rfl rfl rfl rfl (fun g H' _ hH => op_subw (.we g rfl rfl) (.we g rfl rfl)) ?_
              refine AD.sT rfl rfl rfl rfl (fun g H' _ hH => op_moveD (.e rfl)) ?_
              refine AD.sT rfl rfl rfl rfl (fun g H' _ hH => op_addw (.we g rfl rfl) (.we g rfl rfl)) ?_
              refine AD.sT rfl rfl rfl rfl (fun g H' _ hH => op_moveH (.e rfl)) ?_
              refine AD.sT rfl rfl rfl rfl (fun g H' _ hH => op_moveD (.e rfl)) ?_
              obtain ⟨v33, hv33, hm⟩ := bindE hm
              refine AD.sT rfl rfl rfl rfl (fun g H' _ hH => op_indexAddr_hs (f := D.i) (l := s17) (.we g rfl) ((hH _ (by simp)).trans rfl) rfl (.we g rfl rfl) (iteT g hv33) sl23) ?_
              obtain ⟨v34, hv34, hm⟩ := bindE hm
              refine AD.sT rfl rfl rfl rfl (fun g H' _ hH => op_load_lp (f := D.i) (fun _ => rfl) (.we g rfl) ((hH _ (by simp)).trans rfl) (iteT g hv34) sc3) ?_
              refine AD.sT rfl rfl rfl rfl (fun g H' _ hH => op_lss (.we g rfl rfl) (.we g rfl rfl)) ?_
              refine AD.s (ws := []) rfl rfl (fun H' _ hH => op_and (.r rfl) (fun h => (.we h rfl rfl)) rfl) ?_
              refine AD.nil ?_
              refine AW.cond (b := _) rfl (fun hc7 => ?_) (fun hc7 => ?_)
              · replace hm := iteT hc7 hm
                refine AW.seqD [([], []), ([], []), ([], []), ([], []), ([], []), ([], []), ([], []), ([], []), ([2], []), ([2], []), ([], []), ([], []), ([], []), ([], []), ([0], []), ([], []), ([], []), ([], []), ([], []), ([], []), ([], []), ([], []), ([], []), ([], []), ([], []), ([], []), ([2], []), ([2], [2]), ([3], []), ([3], [3]), ([4], []), ([4], [4])] mo (by decide +kernel) ?_
                refine AD.s (ws := []) rfl rfl (fun H' _ hH => op_moveH (.e rfl)) ?_
                refine AD.s (ws := []) rfl rfl (fun H' _ hH => op_moveD (.e rfl)) ?_
                refine AD.s (ws := []) rfl rfl (fun H' _ hH => op_moveH (.e rfl)) ?_
                refine AD.s (ws := []) rfl rfl (fun H' _ hH => op_moveD (.e rfl)) ?_
                refine AD.s (ws := []) rfl rfl (fun H' _ hH => op_moveH (.e rfl)) ?_
                refine AD.s (ws := []) rfl rfl (fun H' _ hH => op_moveD (.e rfl)) ?_
                refine AD.s (ws := []) rfl rfl (fun H' _ hH => op_moveH (.e rfl)) ?_
                refine AD.s (ws := []) rfl rfl (fun H' _ hH => op_moveD (.e rfl)) ?_
                obtain ⟨v35, hv35, hm⟩ := bindE hm
                refine AD.s (ws := []) rfl rfl (fun H' _ hH => op_indexAddr_hs (f := D.i) (l := s17) (.e rfl) ((hH _ (by simp)).trans rfl) rfl (.r rfl) hv35 sl23) ?_
                obtain ⟨v36, hv36, hm⟩ := bindE hm
                refine AD.s (ws := []) rfl rfl (fun H' _ hH => op_load_lp (f := D.i) (fun _ => rfl) (.e rfl) ((hH _ (by simp)).trans rfl) hv36 sc3) ?_
                refine AD.s (ws := []) rfl rfl (fun H' _ hH => op_moveP (.e rfl)) ?_
                refine AD.s (ws := []) rfl rfl (fun H' _ hH => op_nilCheckP (.e rfl)) ?_
                refine AD.s (ws := []) rfl rfl (fun H' _ hH => op_field_ptr (.e rfl) fd88_0) ?_
                refine AD.s (ws := []) rfl rfl (fun H' _ hH => op_field_ptr (.e rfl) fd30_0) ?_
                refine AD.s (ws := []) rfl rfl (fun H' _ hH => op_load_ptr1 (.e rfl) ((hH _ (by simp)).trans rfl) rfl sc22) ?_
                refine AD.s (ws := []) rfl rfl (fun H' _ hH => op_moveD (.e rfl)) ?_
                obtain ⟨v37, hv37, hm⟩ := bindE hm
                refine AD.s (ws := []) rfl rfl (fun H' _ hH => op_indexAddrM (f := (esl D.i)) (.r rfl) (.r rfl) hv37 En.sl sl22) ?_
                refine AD.s (ws := []) rfl rfl (fun H' _ hH => op_load_vp1 (.e rfl) rfl sc23) ?_
                refine AD.s (ws := []) rfl rfl (fun H' _ hH => op_moveD (.e rfl)) ?_
                obtain ⟨v38, hv38, hm⟩ := bindE hm
                refine AD.s (ws := []) rfl rfl (fun H' _ hH => op_indexAddrM (f := D.i) (.r rfl) (.r rfl) hv38 En.i sl23) ?_
                refine AD.s (ws := []) rfl rfl (fun H' _ hH => op_load_vp1 (.e rfl) rfl sc3) ?_
                refine AD.s (ws := []) rfl rfl (fun H' _ hH => op_subw (.r rfl) (.r rfl)) ?_
                refine AD.s (ws := []) rfl rfl (fun H' _ hH => op_moveD (.e rfl)) ?_
                refine AD.s (ws := []) rfl rfl (fun H' _ hH => op_addw (.r rfl) (.r rfl)) ?_
                refine AD.s (ws := []) rfl rfl (fun H' _ hH => op_moveD (.e rfl)) ?_
                refine AD.s (ws := []) rfl rfl (fun H' _ hH => op_moveD (.e rfl)) ?_
                obtain ⟨v39, hv39, hm⟩ := bindE hm
                refine AD.s (ws := []) rfl rfl (fun H' _ hH => op_indexAddr_hs (f := D.i) (l := s17) (.e rfl) ((hH _ (by simp)).trans rfl) rfl (.r rfl) hv39 sl23) ?_
                obtain ⟨v40, hv40, hm⟩ := bindE hm
                refine AD.s (ws := [(2, _)]) rfl rfl (fun H' _ hH => op_store_lp (f := D.i) (fun _ => rfl) (.e rfl) (.r rfl) ((hH _ (by simp)).trans rfl) hv40 ⟨_, rfl, rfl⟩ En.i) ?_
                obtain ⟨v41, hv41, hm⟩ := bindE hm
                refine AD.s (ws := []) rfl rfl (fun H' _ hH => op_indexAddr_hs (f := D.i) (l := s18) (.e rfl) ((hH _ (by simp)).trans rfl) rfl (.r rfl) hv41 sl23) ?_
                obtain ⟨v42, hv42, hm⟩ := bindE hm
                refine AD.s (ws := [(3, _)]) rfl rfl (fun H' _ hH => op_store_lp (f := D.i) (fun _ => rfl) (.e rfl) (.r rfl) ((hH _ (by simp)).trans rfl) hv42 ⟨_, rfl, rfl⟩ En.i) ?_
                obtain ⟨v43, hv43, hm⟩ := bindE hm
                refine AD.s (ws := []) rfl rfl (fun H' _ hH => op_indexAddr_hs (f := D.i) (l := s19) (.e rfl) ((hH _ (by simp)).trans rfl) rfl (.r rfl) hv43 sl23) ?_
                obtain ⟨v44, hv44, hm⟩ := bindE hm
                refine AD.s (ws := [(4, _)]) rfl rfl (fun H' _ hH => op_store_lp (f := D.i) (fun _ => rfl) (.e rfl) (.r rfl) ((hH _ (by simp)).trans rfl) hv44 ⟨_, rfl, rfl⟩ En.i) ?_
                refine AD.nil ?_
                refine AW.exit ?_
                refine bq_miss rfl ?_
                refine tq_exit ?_
                refine tq_exit ?_
                obtain rfl := Option.some.inj hm
                obtain rfl := Option.some.inj hI5
                replace hm := hk5
                try dsimp only at hm
                refine bq_miss rfl ?_
                refine bq_miss rfl ?_
                refine tq_exit ?_
                refine tq_exit ?_
                obtain rfl := Option.some.inj hm
                obtain rfl := Option.some.inj hI4
                replace hm := hk4
                try dsimp only at hm
                refine bq_miss rfl ?_
                refine bq_miss rfl ?_
                refine tq_exit ?_
                obtain rfl := Option.some.inj hm
                replace hm := hkj2
                try dsimp only at hm
                refine tq_exit ?_
                obtain rfl := Option.some.inj hm
                obtain rfl := Option.some.inj hI3
                replace hm := hk3
                try dsimp only at hm
                refine bq_miss rfl ?_
                refine tq_exit ?_
                refine bq_hit ?_
                obtain rfl := Option.some.inj hm
                exact nq ⟨_, hI2, ⟨[0, 1, 2, 3, 4], rfl, rfl, rfl, ⟨(.ptr rfl), (.d rfl), (.d rfl), (.hs rfl (setI_len hv40).symm), (.hs rfl (setI_len hv42).symm), (.hs rfl (setI_len hv44).symm), trivial⟩, trivial, (.row rfl (.cons (.d rfl) (.cons (.d rfl) (.cons (.d rfl) (.cons (.d rfl) (.cons (.hs rfl rfl) (.cons (.d rfl) .nil)))))) (.lst rfl (.lst rfl (.lst rfl (.lst rfl .nil)))))⟩⟩
              · replace hm := iteF hc7 hm
                refine AW.skip ?_
                refine bq_n ?_
                refine nq ?_
                refine AW.reset 2 [(0, .ptr 0 0), (1, .d (.int .i64 a2)), (4, .d (.int .i64 (c1.froom.length : Int))), (5, .hs 2 0 s17.length 1), (6, .hs 3 0 s18.length 1), (7, .hs 4 0 s19.length 1), (10, .d (.int .i64 s20)), (12, .d (.int .i64 v25)), (62, .d (.int .i64 (c1.froom.length : Int))), (63, .d (.int .i64 s20)), (73, .d (.sl (v23.map D.i))), (74, .d (.int .i64 (v23.length : Int))), (75, .d (.int .i64 s24)), (86, .d (.sl (v26.map D.i))), (87, .d (.int .i64 (v26.length : Int))), (88, .d (.int .i64 s27))] [.row [.d (.sl (c1.fp.fCosts.map (esl D.i))), .d (.sl (c1.fp.fRoom.map D.i)), .d (.int .i64 c1.fp.fPenalty), .d (.sl (c1.froom.map D.i)), .hs 1 0 c1.fa.length 1, .d (.int .i64 c1.ffrom)], .lst (c1.fa.map D.i) 3 1, .lst (s17.map D.i) 3 1, .lst (s18.map D.i) 3 1, .lst (s19.map D.i) 3 1] (WOK.g0 hw0 (by simp)) ⟨[0, 1, 2, 3, 4], rfl, rfl, rfl, ⟨(.ptr rfl), (.d rfl), (.d rfl), (.hs rfl rfl), (.hs rfl rfl), (.hs rfl rfl), (.d rfl), (.d rfl), (.d rfl), (.d rfl), (.d rfl), (.d rfl), (.d rfl), (.d rfl), (.d rfl), (.d rfl), trivial⟩, trivial, (.row rfl (.cons (.d rfl) (.cons (.d rfl) (.cons (.d rfl) (.cons (.d rfl) (.cons (.hs rfl rfl) (.cons (.d rfl) .nil)))))) (.lst rfl (.lst rfl (.lst rfl (.lst rfl .nil)))))⟩ ?_
                refine AW.region ?_
                refine AL.s rfl (op_addw (.r rfl) (.r rfl)) ?_
                refine AL.s rfl (op_moveD (.e rfl)) ?_
                refine AL.nil ?_
                obtain rfl := Option.some.inj hm
                exact nq ⟨_, hI5, ⟨[0, 1, 2, 3, 4], rfl, rfl, rfl, ⟨(.ptr rfl), (.d rfl), (.d rfl), (.hs rfl rfl), (.hs rfl rfl), (.hs rfl rfl), (.d rfl), (.d rfl), (.d rfl), (.d rfl), (.d rfl), (.d rfl), (.d rfl), (.d rfl), (.d rfl), (.d rfl), trivial⟩, trivial, (.row rfl (.cons (.d rfl) (.cons (.d rfl) (.cons (.d rfl) (.cons (.d rfl) (.cons (.hs rfl rfl) (.cons (.d rfl) .nil)))))) (.lst rfl (.lst rfl (.lst rfl (.lst rfl .nil)))))⟩⟩
            · replace hm := iteF hc6 hm
              refine AW.exit ?_
              refine tq_exit ?_
              refine tq_exit ?_
              obtain rfl := Option.some.inj hm
              obtain rfl := Option.some.inj hI5
              replace hm := hk5
              try dsimp only at hm
              refine bq_hit ?_
              refine bq_n ?_
              refine nq ?_
              refine AW.region ?_
              refine AL.s rfl (op_addw (.r rfl) (.r rfl)) ?_
              refine AL.s rfl (op_moveD (.e rfl)) ?_
              refine AL.nil ?_
              obtain rfl := Option.some.inj hm
              exact nq ⟨_, hI4, ⟨[0, 1, 2, 3, 4], rfl, rfl, rfl, ⟨(.ptr rfl), (.d rfl), (.d rfl), (.hs rfl rfl), (.hs rfl rfl), (.hs rfl rfl), (.d rfl), (.d rfl), (.d rfl), (.d rfl), (.d rfl), (.d rfl), trivial⟩, trivial, (.row rfl (.cons (.d rfl) (.cons (.d rfl) (.cons (.d rfl) (.cons (.d rfl) (.cons (.hs rfl rfl) (.cons (.d rfl) .nil)))))) (.lst rfl (.lst rfl (.lst rfl (.lst rfl .nil)))))⟩⟩
          · replace hm := iteF hc5 hm
            refine AW.exit ?_
            refine tq_exit ?_
            refine tq_exit ?_
            obtain rfl := Option.some.inj hm
            obtain rfl := Option.some.inj hI4
            replace hm := hk4
            try dsimp only at hm
            refine bq_hit ?_
            refine bq_n ?_
            obtain rfl := Option.some.inj hm
            exact nq ⟨_, rfl, ⟨[0, 1, 2, 3, 4], rfl, rfl, rfl, ⟨(.ptr rfl), (.d rfl), (.d rfl), (.hs rfl rfl), (.hs rfl rfl), (.hs rfl rfl), (.d rfl), (.d rfl), trivial⟩, trivial, (.row rfl (.cons (.d rfl) (.cons (.d rfl) (.cons (.d rfl) (.cons (.d rfl) (.cons (.hs rfl rfl) (.cons (.d rfl) .nil)))))) (.lst rfl (.lst rfl (.lst rfl (.lst rfl .nil)))))⟩⟩
      · rintro ⟨⟩ rfl
        replace hm := hkj2
        try dsimp only at hm
        refine AW.region ?_
        refine AL.s rfl (op_addw (.r rfl) (.r rfl)) ?_
        refine AL.s rfl (op_moveD (.e rfl)) ?_
        refine AL.nil ?_
        obtain rfl := Option.some.inj hm
        exact nq ⟨_, hI3, ⟨[0, 1, 2, 3, 4], rfl, rfl, rfl, ⟨(.ptr rfl), (.d rfl), (.d rfl), (.hs rfl rfl), (.hs rfl rfl), (.hs rfl rfl), (.d rfl), (.d rfl), trivial⟩, trivial, (.row rfl (.cons (.d rfl) (.cons (.d rfl) (.cons (.d rfl) (.cons (.d rfl) (.cons (.hs rfl rfl) (.cons (.d rfl) .nil)))))) (.lst rfl (.lst rfl (.lst rfl (.lst rfl .nil)))))⟩⟩
    · replace hm := iteF hc3 hm
      refine AW.exit ?_
      refine tq_exit ?_
      refine tq_exit ?_
      obtain rfl := Option.some.inj hm
      obtain rfl := Option.some.inj hI3
      replace hm := hk3
      try dsimp only at hm
      refine bq_hit ?_
      refine nq ?_
      refine AW.exit ?_
      refine bq_miss rfl ?_
      refine tq_exit ?_
      obtain rfl := Option.some.inj hm
      obtain rfl := Option.some.inj hI2
      replace hm := hk2
      try dsimp only at hm
      refine bq_hit ?_
      refine nq ?_
      refine AW.seqR ?_
      refine AL.s rfl (op_moveP (.e rfl)) ?_
      refine AL.s rfl (op_nilCheckP (.e rfl)) ?_
      refine AL.s rfl (op_field_ptr (.e rfl) fd88_0) ?_
      refine AL.s rfl (op_field_ptr (.e rfl) fd30_2) ?_
      refine AL.s rfl (op_load_ptr1 (.e rfl) rfl rfl sc3) ?_
      refine AL.s rfl (op_moveD (.e rfl)) ?_
      refine AL.s rfl (op_assignD (.e rfl)) ?_
      refine AL.s rfl (op_assignD (.e rfl)) ?_
      refine AL.s rfl (op_assignD (.e rfl)) ?_
      refine AL.nil ?_
      refine AW.seq ?_
      refine AW.seqR ?_
      refine AL.s rfl (op_moveD (.e rfl)) ?_
      refine AL.s rfl (op_moveD (.e rfl)) ?_
      refine AL.nil ?_
      refine AW.block ?_
      obtain ⟨t_6, hI6, hk6⟩ := bindE hm
      refine AW.loopS (σ := (Int × Int × Int × Int)) (τ := (Int × Int)) 2 (fun x => [(0, .ptr 0 0), (5, .hs 2 0 s17.length 1), (6, .hs 3 0 s18.length 1), (7, .hs 4 0 s19.length 1), (15, .d (.int .i64 x.1)), (16, .d (.int .i64 x.2.1)), (17, .d (.int .i64 x.2.2.1)), (158, .d (.int .i64 (c1.froom.length : Int))), (159, .d (.int .i64 x.2.2.2))]) (fun x => [.row [.d (.sl (c1.fp.fCosts.map (esl D.i))), .d (.sl (c1.fp.fRoom.map D.i)), .d (.int .i64 c1.fp.fPenalty), .d (.sl (c1.froom.map D.i)), .hs 1 0 c1.fa.length 1, .d (.int .i64 c1.ffrom)], .lst (c1.fa.map D.i) 3 1, .lst (s17.map D.i) 3 1, .lst (s18.map D.i) 3 1, .lst (s19.map D.i) 3 1]) hI6 (WOK.g0 hw0 (by simp)) ⟨[0, 1, 2, 3, 4], rfl, rfl, rfl, ⟨(.ptr rfl), (.hs rfl rfl), (.hs rfl rfl), (.hs rfl rfl), (.d rfl), (.d rfl), (.d rfl), (.d rfl), (.d rfl), trivial⟩, trivial, (.row rfl (.cons (.d rfl) (.cons (.d rfl) (.cons (.d rfl) (.cons (.d rfl) (.cons (.hs rfl rfl) (.cons (.d rfl) .nil)))))) (.lst rfl (.lst rfl (.lst rfl (.lst rfl .nil)))))⟩ ?_
      rintro n6 ⟨s45, s46, s47, s48⟩ hI6
      obtain ⟨y_6, hm, hI6⟩ := iterS hI6
      replace hm : m_route_search_add_L6 n _ _ s45 s46 s47 s48 = some y_6 := hm
      unfold m_route_search_add_L6 at hm
      try dsimp only at hm
      refine AW.seqR ?_
      refine AL.s rfl (op_lss (.r rfl) (.r rfl)) ?_
      refine AL.nil ?_
      refine AW.seq ?_
      refine AW.cond (b := _) rfl (fun hc8 => ?_) (fun hc8 => ?_)
      · replace hm := iteT hc8 hm
        refine AW.skip ?_
        refine nq ?_
        refine AW.seq ?_
        refine AW.block ?_
        refine AW.seqR ?_
        refine AL.s rfl (op_moveD (.e rfl)) ?_
        refine AL.s rfl (op_assignD (.e rfl)) ?_
        refine AL.nil ?_
        refine AW.seqR ?_
        refine AL.s rfl (op_moveP (.e rfl)) ?_
        refine AL.s rfl (op_moveD (.e rfl)) ?_
        obtain ⟨v49, hv49, hm⟩ := bindE hm
        refine AL.s rfl (op_callF (v := .d (.sl (v49.map D.i))) (H' := [.row [.d (.sl (c1.fp.fCosts.map (esl D.i))), .d (.sl (c1.fp.fRoom.map D.i)), .d (.int .i64 c1.fp.fPenalty), .d (.sl (c1.froom.map D.i)), .hs 1 0 c1.fa.length 1, .d (.int .i64 c1.ffrom)], .lst (c1.fa.map D.i) 3 1, .lst (s17.map D.i) 3 1, .lst (s18.map D.i) 3 1, .lst (s19.map D.i) 3 1]) [0, 1] Try.call59 (.e rfl) (.cons (.e rfl) (.cons (.e rfl) .nil)) (m_route_search_assigned_ok hv49) rfl (.cons rfl (.cons rfl .nil)) rfl rfl rfl rfl rfl rfl rfl rfl) ?_
        refine AL.s rfl (op_assignD (.e rfl)) ?_
        refine AL.nil ?_
        obtain ⟨t_j3, hm, hkj3⟩ := bindE hm
        refine AW.cutS (α := (Int × Int × Int)) 2 (fun x => x = t_j3) (fun x => [(0, .ptr 0 0), (5, .hs 2 0 s17.length 1), (6, .hs 3 0 s18.length 1), (7, .hs 4 0 s19.length 1), (15, .d (.int .i64 x.1)), (16, .d (.int .i64 x.2.1)), (17, .d (.int .i64 x.2.2)), (18, .d (.int .i64 s48)), (19, .d (.sl (v49.map D.i))), (158, .d (.int .i64 (c1.froom.length : Int))), (159, .d (.int .i64 s48))]) (fun x => [.row [.d (.sl (c1.fp.fCosts.map (esl D.i))), .d (.sl (c1.fp.fRoom.map D.i)), .d (.int .i64 c1.fp.fPenalty), .d (.sl (c1.froom.map D.i)), .hs 1 0 c1.fa.length 1, .d (.int .i64 c1.ffrom)], .lst (c1.fa.map D.i) 3 1, .lst (s17.map D.i) 3 1, .lst (s18.map D.i) 3 1, .lst (s19.map D.i) 3 1]) (WOK.g0 hw0 (by simp)) ?_ ?_
        · skip
          refine AW.seqR ?_
          refine AL.s rfl (op_moveD (.e rfl)) ?_
          refine AL.s rfl (op_lenM (f := D.i) (.r rfl) sl23) ?_
          refine AL.s rfl (op_moveP (.e rfl)) ?_
          refine AL.s rfl (op_nilCheckP (.e rfl)) ?_
          refine AL.s rfl (op_field_ptr (.e rfl) fd88_1) ?_
          refine AL.s rfl (op_load_ptr1 (.e rfl) rfl rfl sc23) ?_
          refine AL.s rfl (op_moveD (.e rfl)) ?_
          obtain ⟨v50, hv50, hm⟩ := bindE hm
          refine AL.s rfl (op_indexAddrM (f := D.i) (.r rfl) (.r rfl) hv50 En.i sl23) ?_
          refine AL.s rfl (op_load_vp1 (.e rfl) rfl sc3) ?_
          refine AL.s rfl (op_lss (.r rfl) (.r rfl)) ?_
          refine AL.s rfl (op_moveD (.e rfl)) ?_
          refine AL.sT rfl rfl rfl rfl (fun g => op_moveH (.e rfl)) ?_
          refine AL.sT rfl rfl rfl rfl (fun g => op_moveD (.e rfl)) ?_
          obtain ⟨v51, hv51, hm⟩ := bindE hm
          refine AL.sT rfl rfl rfl rfl (fun g => op_indexAddr_hs (f := D.i) (l := s17) (.we g rfl) rfl rfl (.we g rfl rfl) (iteT g hv51) sl23) ?_
          obtain ⟨v52, hv52, hm⟩ := bindE hm
          refine AL.sT rfl rfl rfl rfl (fun g => op_load_lp (f := D.i) (fun _ => rfl) (.we g rfl) rfl (iteT g hv52) sc3) ?_
          refine AL.sT rfl rfl rfl rfl (fun g => op_moveD (.e rfl)) ?_
          refine AL.sT rfl rfl rfl rfl (fun g => op_lss (.we g rfl rfl) (.we g rfl rfl)) ?_
          refine AL.s rfl (op_and (.r rfl) (fun h => (.we h rfl rfl)) rfl) ?_
          refine AL.nil ?_
          refine AW.cond (b := _) rfl (fun hc9 => ?_) (fun hc9 => ?_)
          · replace hm := iteT hc9 hm
            refine AW.reset 2 [(0, .ptr 0 0), (5, .hs 2 0 s17.length 1), (6, .hs 3 0 s18.length 1), (7, .hs 4 0 s19.length 1), (18, .d (.int .i64 s48)), (19, .d (.sl (v49.map D.i))), (158, .d (.int .i64 (c1.froom.length : Int))), (159, .d (.int .i64 s48))] [.row [.d (.sl (c1.fp.fCosts.map (esl D.i))), .d (.sl (c1.fp.fRoom.map D.i)), .d (.int .i64 c1.fp.fPenalty), .d (.sl (c1.froom.map D.i)), .hs 1 0 c1.fa.length 1, .d (.int .i64 c1.ffrom)], .lst (c1.fa.map D.i) 3 1, .lst (s17.map D.i) 3 1, .lst (s18.map D.i) 3 1, .lst (s19.map D.i) 3 1] (WOK.g0 hw0 (by simp)) ⟨[0, 1, 2, 3, 4], rfl, rfl, rfl, ⟨(.ptr rfl), (.hs rfl rfl), (.hs rfl rfl), (.hs rfl rfl), (.d rfl), (.d rfl), (.d rfl), (.d rfl), trivial⟩, trivial, (.row rfl (.cons (.d rfl) (.cons (.d rfl) (.cons (.d rfl) (.cons (.d rfl) (.cons (.hs rfl rfl) (.cons (.d rfl) .nil)))))) (.lst rfl (.lst rfl (.lst rfl (.lst rfl .nil)))))⟩ ?_
            refine AW.region ?_
            refine AL.s rfl (op_moveH (.e rfl)) ?_
            refine AL.s rfl (op_moveD (.e rfl)) ?_
            obtain ⟨v53, hv53, hm⟩ := bindE hm
            refine AL.s rfl (op_indexAddr_hs (f := D.i) (l := s17) (.e rfl) rfl rfl (.r rfl) hv53 sl23) ?_
            obtain ⟨v54, hv54, hm⟩ := bindE hm
            refine AL.s rfl (op_load_lp (f := D.i) (fun _ => rfl) (.e rfl) rfl hv54 sc3) ?_
            refine AL.s rfl (op_moveD (.e rfl)) ?_
            refine AL.s rfl (op_assignD (.e rfl)) ?_
            refine AL.s rfl (op_assignD (.e rfl)) ?_
            refine AL.s rfl (op_assignD (.e rfl)) ?_
            refine AL.nil ?_
            obtain rfl := Option.some.inj hm
            exact nq ⟨_, rfl, ⟨[0, 1, 2, 3, 4], rfl, rfl, rfl, ⟨(.ptr rfl), (.hs rfl rfl), (.hs rfl rfl), (.hs rfl rfl), (.d rfl), (.d rfl), (.d rfl), (.d rfl), (.d rfl), (.d rfl), (.d rfl), trivial⟩, trivial, (.row rfl (.cons (.d rfl) (.cons (.d rfl) (.cons (.d rfl) (.cons (.d rfl) (.cons (.hs rfl rfl) (.cons (.d rfl) .nil)))))) (.lst rfl (.lst rfl (.lst rfl (.lst rfl .nil)))))⟩⟩
          · replace hm := iteF hc9 hm
            refine AW.skip ?_
            obtain rfl := Option.some.inj hm
            exact nq ⟨_, rfl, ⟨[0, 1, 2, 3, 4], rfl, rfl, rfl, ⟨(.ptr rfl), (.hs rfl rfl), (.hs rfl rfl), (.hs rfl rfl), (.d rfl), (.d rfl), (.d rfl), (.d rfl), (.d rfl), (.d rfl), (.d rfl), trivial⟩, trivial, (.row rfl (.cons (.d rfl) (.cons (.d rfl) (.cons (.d rfl) (.cons (.d rfl) (.cons (.hs rfl rfl) (.cons (.d rfl) .nil)))))) (.lst rfl (.lst rfl (.lst rfl (.lst rfl .nil)))))⟩⟩
        · rintro ⟨s55, s56, s57⟩ rfl
          replace hm := hkj3
          try dsimp only at hm
          refine AW.seqR ?_
          refine AL.s rfl (op_moveD (.e rfl)) ?_
          refine AL.s rfl (op_lenM (f := D.i) (.r rfl) sl23) ?_
          refine AL.s rfl (op_moveD (.e rfl)) ?_
          refine AL.nil ?_
          refine AW.block ?_
          obtain ⟨t_7, hI7, hk7⟩ := bindE hm
          refine AW.loopS (σ := (Int × Int × Int × Int)) (τ := (Int × Int × Int)) 2 (fun x => [(0, .ptr 0 0), (5, .hs 2 0 s17.length 1), (6, .hs 3 0 s18.length 1), (7, .hs 4 0 s19.length 1), (15, .d (.int .i64 x.1)), (16, .d (.int .i64 x.2.1)), (17, .d (.int .i64 x.2.2.1)), (18, .d (.int .i64 s48)), (158, .d (.int .i64 (c1.froom.length : Int))), (159, .d (.int .i64 s48)), (188, .d (.sl (v49.map D.i))), (189, .d (.int .i64 (v49.length : Int))), (190, .d (.int .i64 x.2.2.2))]) (fun x => [.row [.d (.sl (c1.fp.fCosts.map (esl D.i))), .d (.sl (c1.fp.fRoom.map D.i)), .d (.int .i64 c1.fp.fPenalty), .d (.sl (c1.froom.map D.i)), .hs 1 0 c1.fa.length 1, .d (.int .i64 c1.ffrom)], .lst (c1.fa.map D.i) 3 1, .lst (s17.map D.i) 3 1, .lst (s18.map D.i) 3 1, .lst (s19.map D.i) 3 1]) hI7 (WOK.g0 hw0 (by simp)) ⟨[0, 1, 2, 3, 4], rfl, rfl, rfl, ⟨(.ptr rfl), (.hs rfl rfl), (.hs rfl rfl), (.hs rfl rfl), (.d rfl), (.d rfl), (.d rfl), (.d rfl), (.d rfl), (.d rfl), (.d rfl), (.d rfl), (.d rfl), trivial⟩, trivial, (.row rfl (.cons (.d rfl) (.cons (.d rfl) (.cons (.d rfl) (.cons (.d rfl) (.cons (.hs rfl rfl) (.cons (.d rfl) .nil)))))) (.lst rfl (.lst rfl (.lst rfl (.lst rfl .nil)))))⟩ ?_
          rintro n7 ⟨s58, s59, s60, s61⟩ hI7
          obtain ⟨y_7, hm, hI7⟩ := iterS hI7
          replace hm : m_route_search_add_L7 n _ _ _ _ s58 s59 s60 s61 = some y_7 := hm
          unfold m_route_search_add_L7 at hm
          try dsimp only at hm
          refine AW.seqR ?_
          refine AL.s rfl (op_lss (.r rfl) (.r rfl)) ?_
          refine AL.nil ?_
          refine AW.seq ?_
          refine AW.cond (b := _) rfl (fun hc10 => ?_) (fun hc10 => ?_)
          · replace hm := iteT hc10 hm
            refine AW.skip ?_
            refine nq ?_
            obtain ⟨t_j4, hm, hkj4⟩ := bindE hm
            refine AW.cutS (α := (Int × Int × Int)) 2 (fun x => x = t_j4) (fun x => [(0, .ptr 0 0), (5, .hs 2 0 s17.length 1), (6, .hs 3 0 s18.length 1), (7, .hs 4 0 s19.length 1), (15, .d (.int .i64 x.1)), (16, .d (.int .i64 x.2.1)), (17, .d (.int .i64 x.2.2)), (18, .d (.int .i64 s48)), (158, .d (.int .i64 (c1.froom.length : Int))), (159, .d (.int .i64 s48)), (188, .d (.sl (v49.map D.i))), (189, .d (.int .i64 (v49.length : Int))), (190, .d (.int .i64 s61))]) (fun x => [.row [.d (.sl (c1.fp.fCosts.map (esl D.i))), .d (.sl (c1.fp.fRoom.map D.i)), .d (.int .i64 c1.fp.fPenalty), .d (.sl (c1.froom.map D.i)), .hs 1 0 c1.fa.length 1, .d (.int .i64 c1.ffrom)], .lst (c1.fa.map D.i) 3 1, .lst (s17.map D.i) 3 1, .lst (s18.map D.i) 3 1, .lst (s19.map D.i) 3 1]) (WOK.g0 hw0 (by simp)) ?_ ?_
            · skip
              refine AW.block ?_
              refine AW.reset 2 [(0, .ptr 0 0), (5, .hs 2 0 s17.length 1), (6, .hs 3 0 s18.length 1), (7, .hs 4 0 s19.length 1), (15, .d (.int .i64 s58)), (16, .d (.int .i64 s59)), (17, .d (.int .i64 s60)), (18, .d (.int .i64 s48)), (158, .d (.int .i64 (c1.froom.length : Int))), (159, .d (.int .i64 s48)), (188, .d (.sl (v49.map D.i))), (189, .d (.int .i64 (v49.length : Int))), (190, .d (.int .i64 s61))] [.row [.d (.sl (c1.fp.fCosts.map (esl D.i))), .d (.sl (c1.fp.fRoom.map D.i)), .d (.int .i64 c1.fp.fPenalty), .d (.sl (c1.froom.map D.i)), .hs 1 0 c1.fa.length 1, .d (.int .i64 c1.ffrom)], .lst (c1.fa.map D.i) 3 1, .lst (s17.map D.i) 3 1, .lst (s18.map D.i) 3 1, .lst (s19.map D.i) 3 1] (WOK.g0 hw0 (by simp)) ⟨[0, 1, 2, 3, 4], rfl, rfl, rfl, ⟨(.ptr rfl), (.hs rfl rfl), (.hs rfl rfl), (.hs rfl rfl), (.d rfl), (.d rfl), (.d rfl), (.d rfl), (.d rfl), (.d rfl), (.d rfl), (.d rfl), (.d rfl), trivial⟩, trivial, (.row rfl (.cons (.d rfl) (.cons (.d rfl) (.cons (.d rfl) (.cons (.d rfl) (.cons (.hs rfl rfl) (.cons (.d rfl) .nil)))))) (.lst rfl (.lst rfl (.lst rfl (.lst rfl .nil)))))⟩ ?_
              refine AW.seqR ?_
              obtain ⟨v62, hv62, hm⟩ := bindE hm
              refine AL.s rfl (op_indexAddrM (f := D.i) (.r rfl) (.r rfl) hv62 En.i sl23) ?_
              refine AL.s rfl (op_load_vp1 (.e rfl) rfl sc3) ?_
              refine AL.s rfl (op_assignD (.e rfl)) ?_
              refine AL.nil ?_
              refine AW.seqD [([], []), ([], []), ([2], []), ([2], []), ([], []), ([], []), ([], []), ([], []), ([0], []), ([], []), ([], []), ([], []), ([], []), ([], []), ([], []), ([], []), ([], []), ([], []), ([], []), ([], []), ([0], []), ([], []), ([], [])] mo (by decide +kernel) ?_
              refine AD.s (ws := []) rfl rfl (fun H' _ hH => op_moveH (.e rfl)) ?_
              refine AD.s (ws := []) rfl rfl (fun H' _ hH => op_moveD (.e rfl)) ?_
              obtain ⟨v63, hv63, hm⟩ := bindE hm
              refine AD.s (ws := []) rfl rfl (fun H' _ hH => op_indexAddr_hs (f := D.i) (l := s17) (.e rfl) ((hH _ (by simp)).trans rfl) rfl (.r rfl) hv63 sl23) ?_
              obtain ⟨v64, hv64, hm⟩ := bindE hm
              refine AD.s (ws := []) rfl rfl (fun H' _ hH => op_load_lp (f := D.i) (fun _ => rfl) (.e rfl) ((hH _ (by simp)).trans rfl) hv64 sc3) ?_
              refine AD.s (ws := []) rfl rfl (fun H' _ hH => op_moveP (.e rfl)) ?_
              refine AD.s (ws := []) rfl rfl (fun H' _ hH => op_nilCheckP (.e rfl)) ?_
              refine AD.s (ws := []) rfl rfl (fun H' _ hH => op_field_ptr (.e rfl) fd88_0) ?_
              refine AD.s (ws := []) rfl rfl (fun H' _ hH => op_field_ptr (.e rfl) fd30_0) ?_
              refine AD.s (ws := []) rfl rfl (fun H' _ hH => op_load_ptr1 (.e rfl) ((hH _ (by simp)).trans rfl) rfl sc22) ?_
              refine AD.s (ws := []) rfl rfl (fun H' _ hH => op_moveD (.e rfl)) ?_
              obtain ⟨v65, hv65, hm⟩ := bindE hm
              refine AD.s (ws := []) rfl rfl (fun H' _ hH => op_indexAddrM (f := (esl D.i)) (.r rfl) (.r rfl) hv65 En.sl sl22) ?_
              refine AD.s (ws := []) rfl rfl (fun H' _ hH => op_load_vp1 (.e rfl) rfl sc23) ?_
              refine AD.s (ws := []) rfl rfl (fun H' _ hH => op_moveD (.e rfl)) ?_
              obtain ⟨v66, hv66, hm⟩ := bindE hm
              refine AD.s (ws := []) rfl rfl (fun H' _ hH => op_indexAddrM (f := D.i) (.r rfl) (.r rfl) hv66 En.i sl23) ?_
              refine AD.s (ws := []) rfl rfl (fun H' _ hH => op_load_vp1 (.e rfl) rfl sc3) ?_
              refine AD.s (ws := []) rfl rfl (fun H' _ hH => op_subw (.r rfl) (.r rfl)) ?_
              refine AD.s (ws := []) rfl rfl (fun H' _ hH => op_moveP (.e rfl)) ?_
              refine AD.s (ws := []) rfl rfl (fun H' _ hH => op_nilCheckP (.e rfl)) ?_
              refine AD.s (ws := []) rfl rfl (fun H' _ hH => op_field_ptr (.e rfl) fd88_0) ?_
              refine AD.s (ws := []) rfl rfl (fun H' _ hH => op_field_ptr (.e rfl) fd30_2) ?_
              refine AD.s (ws := []) rfl rfl (fun H' _ hH => op_load_ptr1 (.e rfl) ((hH _ (by simp)).trans rfl) rfl sc3) ?_
              refine AD.s (ws := []) rfl rfl (fun H' _ hH => op_addw (.r rfl) (.r rfl)) ?_
              refine AD.s (ws := []) rfl rfl (fun H' _ hH => op_assignD (.e rfl)) ?_
              refine AD.nil ?_
              refine AW.seqR ?_
              refine AL.s rfl (op_moveH (.e rfl)) ?_
              refine AL.s rfl (op_moveD (.e rfl)) ?_
              obtain ⟨v67, hv67, hm⟩ := bindE hm
              refine AL.s rfl (op_indexAddr_hs (f := D.i) (l := s17) (.e rfl) rfl rfl (.r rfl) hv67 sl23) ?_
              obtain ⟨v68, hv68, hm⟩ := bindE hm
              refine AL.s rfl (op_load_lp (f := D.i) (fun _ => rfl) (.e rfl) rfl hv68 sc3) ?_
              refine AL.s rfl (op_lss (.r rfl) (.r rfl)) ?_
              refine AL.s rfl (op_moveD (.e rfl)) ?_
              refine AL.sT rfl rfl rfl rfl (fun g => op_moveD (.e rfl)) ?_
              refine AL.sT rfl rfl rfl rfl (fun g => op_moveD (.e rfl)) ?_
              refine AL.sT rfl rfl rfl rfl (fun g => op_lss (.we g rfl rfl) (.we g rfl rfl)) ?_
              refine AL.s rfl (op_and (.r rfl) (fun h => (.we h rfl rfl)) rfl) ?_
              refine AL.nil ?_
              refine AW.cond (b := _) rfl (fun hc11 => ?_) (fun hc11 => ?_)
              · replace hm := iteT hc11 hm
                refine AW.region ?_
                refine AL.s rfl (op_moveD (.e rfl)) ?_
                refine AL.s rfl (op_moveD (.e rfl)) ?_
                refine AL.s rfl (op_moveD (.e rfl)) ?_
                refine AL.s rfl (op_assignD (.e rfl)) ?_
                refine AL.s rfl (op_assignD (.e rfl)) ?_
                refine AL.s rfl (op_assignD (.e rfl)) ?_
                refine AL.nil ?_
                refine bq_n ?_
                obtain rfl := Option.some.inj hm
                exact nq ⟨_, rfl, ⟨[0, 1, 2, 3, 4], rfl, rfl, rfl, ⟨(.ptr rfl), (.hs rfl rfl), (.hs rfl rfl), (.hs rfl rfl), (.d rfl), (.d rfl), (.d rfl), (.d rfl), (.d rfl), (.d rfl), (.d rfl), (.d rfl), (.d rfl), trivial⟩, trivial, (.row rfl (.cons (.d rfl) (.cons (.d rfl) (.cons (.d rfl) (.cons (.d rfl) (.cons (.hs rfl rfl) (.cons (.d rfl) .nil)))))) (.lst rfl (.lst rfl (.lst rfl (.lst rfl .nil)))))⟩⟩
              · replace hm := iteF hc11 hm
                refine AW.skip ?_
                refine bq_n ?_
                obtain rfl := Option.some.inj hm
                exact nq ⟨_, rfl, ⟨[0, 1, 2, 3, 4], rfl, rfl, rfl, ⟨(.ptr rfl), (.hs rfl rfl), (.hs rfl rfl), (.hs rfl rfl), (.d rfl), (.d rfl), (.d rfl), (.d rfl), (.d rfl), (.d rfl), (.d rfl), (.d rfl), (.d rfl), trivial⟩, trivial, (.row rfl (.cons (.d rfl) (.cons (.d rfl) (.cons (.d rfl) (.cons (.d rfl) (.cons (.hs rfl rfl) (.cons (.d rfl) .nil)))))) (.lst rfl (.lst rfl (.lst rfl (.lst rfl .nil)))))⟩⟩
            · rintro ⟨s69, s70, s71⟩ rfl
              replace hm := hkj4
              try dsimp only at hm
              refine AW.region ?_
              refine AL.s rfl (op_addw (.r rfl) (.r rfl)) ?_
              refine AL.s rfl (op_moveD (.e rfl)) ?_
              refine AL.nil ?_
              obtain rfl := Option.some.inj hm
              exact nq ⟨_, hI7, ⟨[0, 1, 2, 3, 4], rfl, rfl, rfl, ⟨(.ptr rfl), (.hs rfl rfl), (.hs rfl rfl), (.hs rfl rfl), (.d rfl), (.d rfl), (.d rfl), (.d rfl), (.d rfl), (.d rfl), (.d rfl), (.d rfl), (.d rfl), trivial⟩, trivial, (.row rfl (.cons (.d rfl) (.cons (.d rfl) (.cons (.d rfl) (.cons (.d rfl) (.cons (.hs rfl rfl) (.cons (.d rfl) .nil)))))) (.lst rfl (.lst rfl (.lst rfl (.lst rfl .nil)))))⟩⟩
          · replace hm := iteF hc10 hm
            refine AW.exit ?_
            refine tq_exit ?_
            refine tq_exit ?_
            obtain rfl := Option.some.inj hm
            obtain rfl := Option.some.inj hI7
            replace hm := hk7
            try dsimp only at hm
            refine bq_hit ?_
            refine bq_n ?_
            refine nq ?_
            refine AW.region ?_
            refine AL.s rfl (op_addw (.r rfl) (.r rfl)) ?_
            refine AL.s rfl (op_moveD (.e rfl)) ?_
            refine AL.nil ?_
            obtain rfl := Option.some.inj hm
            exact nq ⟨_, hI6, ⟨[0, 1, 2, 3, 4], rfl, rfl, rfl, ⟨(.ptr rfl), (.hs rfl rfl), (.hs rfl rfl), (.hs rfl rfl), (.d rfl), (.d rfl), (.d rfl), (.d rfl), (.d rfl), trivial⟩, trivial, (.row rfl (.cons (.d rfl) (.cons (.d rfl) (.cons (.d rfl) (.cons (.d rfl) (.cons (.hs rfl rfl) (.cons (.d rfl) .nil)))))) (.lst rfl (.lst rfl (.lst rfl (.lst rfl .nil)))))⟩⟩
      · replace hm := iteF hc8 hm
        refine AW.exit ?_
        refine tq_exit ?_
        refine tq_exit ?_
        obtain rfl := Option.some.inj hm
        obtain rfl := Option.some.inj hI6
        replace hm := hk6
        try dsimp only at hm
        refine bq_hit ?_
        refine nq ?_
        obtain ⟨t_j5, hm, hkj5⟩ := bindE hm
        refine AW.cutS (α := (List Int)) 2 (fun x => x = t_j5) (fun x => [(0, .ptr 0 0), (6, .hs 3 0 s18.length 1), (7, .hs 4 0 s19.length 1), (16, .d (.int .i64 s46))]) (fun x => [.row [.d (.sl (c1.fp.fCosts.map (esl D.i))), .d (.sl (c1.fp.fRoom.map D.i)), .d (.int .i64 c1.fp.fPenalty), .d (.sl (c1.froom.map D.i)), .hs 1 0 x.length 1, .d (.int .i64 c1.ffrom)], .lst (x.map D.i) 3 1, .lst (s17.map D.i) 3 1, .lst (s18.map D.i) 3 1, .lst (s19.map D.i) 3 1]) (WOK.g0 hw0 (by simp)) ?_ ?_
        · skip
          refine AW.seqR ?_
          refine AL.s rfl (op_moveD (.e rfl)) ?_
          refine AL.s rfl (op_neq (.r rfl) (.r rfl)) ?_
          refine AL.nil ?_
          refine AW.cond (b := _) rfl (fun hc12 => ?_) (fun hc12 => ?_)
          · replace hm := iteT hc12 hm
            refine AW.region ?_
            refine AL.s rfl (op_moveP (.e rfl)) ?_
            refine AL.s rfl (op_nilCheckP (.e rfl)) ?_
            refine AL.s rfl (op_field_ptr (.e rfl) fd88_2) ?_
            refine AL.s rfl (op_load_ptr1 (.e rfl) rfl rfl sc23) ?_
            refine AL.s rfl (op_moveD (.e rfl)) ?_
            obtain ⟨v72, hv72, hm⟩ := bindE hm
            refine AL.s rfl (op_indexAddr_hs (f := D.i) (l := c1.fa) (.e rfl) rfl rfl (.r rfl) hv72 sl23) ?_
            obtain ⟨v73, hv73, hm⟩ := bindE hm
            refine AL.s rfl (op_store_lp (f := D.i) (fun _ => rfl) (.e rfl) (.r rfl) rfl hv73 ⟨_, rfl, rfl⟩ En.i) ?_
            refine AL.nil ?_
            obtain rfl := Option.some.inj hm
            exact nq ⟨_, rfl, ⟨[0, 1, 2, 3, 4], rfl, rfl, rfl, ⟨(.ptr rfl), (.hs rfl rfl), (.hs rfl rfl), (.d rfl), trivial⟩, trivial, (.row rfl (.cons (.d rfl) (.cons (.d rfl) (.cons (.d rfl) (.cons (.d rfl) (.cons (.hs rfl (setI_len hv73).symm) (.cons (.d rfl) .nil)))))) (.lst rfl (.lst rfl (.lst rfl (.lst rfl .nil)))))⟩⟩
          · replace hm := iteF hc12 hm
            refine AW.skip ?_
            obtain rfl := Option.some.inj hm
            exact nq ⟨_, rfl, ⟨[0, 1, 2, 3, 4], rfl, rfl, rfl, ⟨(.ptr rfl), (.hs rfl rfl), (.hs rfl rfl), (.d rfl), trivial⟩, trivial, (.row rfl (.cons (.d rfl) (.cons (.d rfl) (.cons (.d rfl) (.cons (.d rfl) (.cons (.hs rfl rfl) (.cons (.d rfl) .nil)))))) (.lst rfl (.lst rfl (.lst rfl (.lst rfl .nil)))))⟩⟩
        · rintro s74 rfl
          replace hm := hkj5
          try dsimp only at hm
          refine AW.seqR ?_
          refine AL.s rfl (op_moveD (.e rfl)) ?_
          refine AL.s rfl (op_assignD (.e rfl)) ?_
          refine AL.nil ?_
          refine AW.block ?_
          obtain ⟨t_8, hI8, hk8⟩ := bindE hm
          refine AW.loopS (σ := (Int × (List Int))) (τ := (List Int)) 2 (fun x => [(0, .ptr 0 0), (6, .hs 3 0 s18.length 1), (7, .hs 4 0 s19.length 1), (23, .d (.int .i64 x.1))]) (fun x => [.row [.d (.sl (c1.fp.fCosts.map (esl D.i))), .d (.sl (c1.fp.fRoom.map D.i)), .d (.int .i64 c1.fp.fPenalty), .d (.sl (c1.froom.map D.i)), .hs 1 0 x.2.length 1, .d (.int .i64 c1.ffrom)], .lst (x.2.map D.i) 3 1, .lst (s17.map D.i) 3 1, .lst (s18.map D.i) 3 1, .lst (s19.map D.i) 3 1]) hI8 (WOK.g0 hw0 (by simp)) ⟨[0, 1, 2, 3, 4], rfl, rfl, rfl, ⟨(.ptr rfl), (.hs rfl rfl), (.hs rfl rfl), (.d rfl), trivial⟩, trivial, (.row rfl (.cons (.d rfl) (.cons (.d rfl) (.cons (.d rfl) (.cons (.d rfl) (.cons (.hs rfl rfl) (.cons (.d rfl) .nil)))))) (.lst rfl (.lst rfl (.lst rfl (.lst rfl .nil)))))⟩ ?_
          rintro n8 ⟨s75, s76⟩ hI8
          obtain ⟨y_8, hm, hI8⟩ := iterS hI8
          replace hm : m_route_search_add_L8 n _ s75 s76 = some y_8 := hm
          unfold m_route_search_add_L8 at hm
          try dsimp only at hm
          refine AW.seq ?_
          refine AW.seqR ?_
          refine AL.s rfl (op_moveD (.e rfl)) ?_
          refine AL.s rfl (op_neq (.r rfl) (.r rfl)) ?_
          refine AL.nil ?_
          refine AW.cond (b := _) rfl (fun hc13 => ?_) (fun hc13 => ?_)
          · replace hm := iteT hc13 hm
            refine AW.skip ?_
            refine nq ?_
            refine AW.seq ?_
            refine AW.block ?_
            refine AW.drawn [([], []), ([], []), ([], []), ([0], []), ([], []), ([], []), ([3], []), ([3], []), ([], []), ([1], []), ([1], [1])] mo (by decide +kernel) ?_
            refine AD.s (ws := []) rfl rfl (fun H' _ hH => op_moveP (.e rfl)) ?_
            refine AD.s (ws := []) rfl rfl (fun H' _ hH => op_nilCheckP (.e rfl)) ?_
            refine AD.s (ws := []) rfl rfl (fun H' _ hH => op_field_ptr (.e rfl) fd88_2) ?_
            refine AD.s (ws := []) rfl rfl (fun H' _ hH => op_load_ptr1 (.e rfl) ((hH _ (by simp)).trans rfl) rfl sc23) ?_
            refine AD.s (ws := []) rfl rfl (fun H' _ hH => op_moveH (.e rfl)) ?_
            refine AD.s (ws := []) rfl rfl (fun H' _ hH => op_moveD (.e rfl)) ?_
            obtain ⟨v77, hv77, hm⟩ := bindE hm
            refine AD.s (ws := []) rfl rfl (fun H' _ hH => op_indexAddr_hs (f := D.i) (l := s18) (.e rfl) ((hH _ (by simp)).trans rfl) rfl (.r rfl) hv77 sl23) ?_
            obtain ⟨v78, hv78, hm⟩ := bindE hm
            refine AD.s (ws := []) rfl rfl (fun H' _ hH => op_load_lp (f := D.i) (fun _ => rfl) (.e rfl) ((hH _ (by simp)).trans rfl) hv78 sc3) ?_
            refine AD.s (ws := []) rfl rfl (fun H' _ hH => op_moveD (.e rfl)) ?_
            obtain ⟨v79, hv79, hm⟩ := bindE hm
            refine AD.s (ws := []) rfl rfl (fun H' _ hH => op_indexAddr_hs (f := D.i) (l := s76) (.e rfl) ((hH _ (by simp)).trans rfl) rfl (.r rfl) hv79 sl23) ?_
            obtain ⟨v80, hv80, hm⟩ := bindE hm
            refine AD.s (ws := [(1, _)]) rfl rfl (fun H' _ hH => op_store_lp (f := D.i) (fun _ => rfl) (.e rfl) (.r rfl) ((hH _ (by simp)).trans rfl) hv80 ⟨_, rfl, rfl⟩ En.i) ?_
            refine AD.nil ?_
            refine bq_n ?_
            refine nq ?_
            refine AW.region ?_
            refine AL.s rfl (op_moveH (.e rfl)) ?_
            refine AL.s rfl (op_moveD (.e rfl)) ?_
            obtain ⟨v81, hv81, hm⟩ := bindE hm
            refine AL.s rfl (op_indexAddr_hs (f := D.i) (l := s19) (.e rfl) rfl rfl (.r rfl) hv81 sl23) ?_
            obtain ⟨v82, hv82, hm⟩ := bindE hm
            refine AL.s rfl (op_load_lp (f := D.i) (fun _ => rfl) (.e rfl) rfl hv82 sc3) ?_
            refine AL.s rfl (op_assignD (.e rfl)) ?_
            refine AL.nil ?_
            obtain rfl := Option.some.inj hm
            exact nq ⟨_, hI8, ⟨[0, 1, 2, 3, 4], rfl, rfl, rfl, ⟨(.ptr rfl), (.hs rfl rfl), (.hs rfl rfl), (.d rfl), trivial⟩, trivial, (.row rfl (.cons (.d rfl) (.cons (.d rfl) (.cons (.d rfl) (.cons (.d rfl) (.cons (.hs rfl (setI_len hv80).symm) (.cons (.d rfl) .nil)))))) (.lst rfl (.lst rfl (.lst rfl (.lst rfl .nil)))))⟩⟩
          · replace hm := iteF hc13 hm
            refine AW.exit ?_
            refine tq_exit ?_
            refine tq_exit ?_
            obtain rfl := Option.some.inj hm
            obtain rfl := Option.some.inj hI8
            replace hm := hk8
            try dsimp only at hm
            refine bq_hit ?_
            refine sq_n ?_
            obtain rfl := Option.some.inj hm
            exact ⟨_, [0, 1], .nil, rfl, rfl, .nil, (.row rfl (.cons (.d rfl) (.cons (.d rfl) (.cons (.d rfl) (.cons (.d rfl) (.cons (.hs rfl rfl) (.cons (.d rfl) .nil)))))) (.lst rfl .nil))⟩

end Go.Proofs.Ythjinjinnklkgaa.Ab
