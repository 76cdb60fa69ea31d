/- The functions do what they are in plain Lean. Conditions: none. -/
import Derived.Test.YthjinjinnklkgaaTy
import Derived.Test.YthjinjinnklkgaaMi
import Derived.Test.YthjinjinnklkgaaFb
set_option maxRecDepth 100000
namespace Go.Proofs.Ythjinjinnklkgaa.Ab
open Go
attribute [local irreducible] AL AD AW nlO nlV nlD

set_option maxHeartbeats 20000000 in
theorem m_slices_Clone_int_int_ok {n : Nat} {a1 : (List Int)} {r : (List Int)} (hm : m_slices_Clone_int_int n a1 = some r) : ACall Try.prog 35 [.d (.sl (a1.map D.i))] [] fun r' H' => r' = resOf [.hs 0 0 r.length 1] ∧ H' = [.lst (r.map D.i) 3 1] := by
  unfold m_slices_Clone_int_int at hm
  refine ACall.of_AWG (fnn := Try.f35) Try.func35 rfl (Nat.le_of_ble_eq_true rfl) (fun g0 w0 hw0 => ?_)
  refine AW.seqR ?_
  refine AL.s rfl (op_assignN (.e rfl)) ?_
  refine AL.nil ?_
  refine AW.seq ?_
  refine AW.seqR ?_
  refine AL.s rfl (op_moveD (.e rfl)) ?_
  refine AL.sE rfl (op_nilS (.r rfl) rfl sl23) ?_
  rintro _ ⟨b0, rfl, hb0⟩
  refine AL.nil ?_
  refine AW.cond (b := _) rfl (fun hc0 => ?_) (fun hc0 => ?_)
  · have hm : some ([] : (List Int)) = some r := by have ha := hb0 hc0; simp only [List.map_eq_nil_iff] at ha; subst ha; simpa [app] using hm
    refine AW.seqR ?_
    refine AL.s rfl (op_assignN (.e rfl)) ?_
    refine AL.nil ?_
    refine AW.lstize (n := 0) 2 3 1 rfl rfl ?_
    refine AW.ret ?_
    refine tq_ret ?_
    obtain rfl := Option.some.inj hm
    exact ⟨_, [0], (.tmp (.e rfl) .nil), rfl, rfl, (.cons (.hs rfl rfl) .nil), (.lst rfl .nil)⟩
  · skip
    refine AW.skip ?_
    refine nq ?_
    refine AW.seqR ?_
    refine AL.s rfl (op_buildSlice (ds := ([] : List Int).map D.i) sl23 .nil rfl (by decide)) ?_
    refine AL.s rfl (op_moveD (.e rfl)) ?_
    obtain ⟨v2, hv2, hm⟩ := bindE hm
    refine AL.s rfl (op_appendEH (n := 0) (f := D.i) (l' := a1) sl23 (.e rfl) (.r rfl) rfl En.i hv2) ?_
    refine AL.s rfl (op_assignH (.e rfl)) ?_
    refine AL.nil ?_
    refine AW.ret ?_
    obtain rfl := Option.some.inj hm
    exact ⟨_, [1], (.tmp (.e rfl) .nil), rfl, rfl, (.cons (.hs rfl rfl) .nil), (.lst rfl .nil)⟩

set_option maxHeartbeats 20000000 in
theorem m_math_bits_Mul64_ok {n : Nat} {a1 : Int} {a2 : Int} {r : (Int × Int)} (hm : m_math_bits_Mul64 n a1 a2 = some r) : Fn Try.prog 62 [(.int .u64 a1), (.int .u64 a2)] (.tup [(.int .u64 r.1), (.int .u64 r.2)]) := by
  unfold m_math_bits_Mul64 at hm
  refine Fn.of_AW (fnn := Try.f62) Try.func62 rfl (Nat.le_of_ble_eq_true rfl) (fun g0 w0 hw0 => ?_)
  refine AW.reset 0 [(0, .d (.int .u64 a1)), (1, .d (.int .u64 a2))] [] (WOK.g0 hw0 (by simp)) ⟨[], rfl, rfl, rfl, ⟨(.d rfl), (.d rfl), trivial⟩, trivial, .nil⟩ ?_
  refine AW.seqR ?_
  refine AL.s rfl (op_assignD (.e rfl)) ?_
  refine AL.s rfl (op_assignD (.e rfl)) ?_
  refine AL.nil ?_
  refine AW.seqR ?_
  refine AL.s rfl (op_moveD (.e rfl)) ?_
  refine AL.s rfl (op_andM (.r rfl) (.r rfl)) ?_
  refine AL.s rfl (op_assignD (.e rfl)) ?_
  refine AL.nil ?_
  refine AW.seqR ?_
  refine AL.s rfl (op_moveD (.e rfl)) ?_
  obtain ⟨v3, hv3, hm⟩ := bindE hm
  refine AL.s rfl (op_shrM (.r rfl) (.r rfl) hv3) ?_
  refine AL.s rfl (op_assignD (.e rfl)) ?_
  refine AL.nil ?_
  refine AW.seqR ?_
  refine AL.s rfl (op_moveD (.e rfl)) ?_
  refine AL.s rfl (op_andM (.r rfl) (.r rfl)) ?_
  refine AL.s rfl (op_assignD (.e rfl)) ?_
  refine AL.nil ?_
  refine AW.seqR ?_
  refine AL.s rfl (op_moveD (.e rfl)) ?_
  obtain ⟨v4, hv4, hm⟩ := bindE hm
  refine AL.s rfl (op_shrM (.r rfl) (.r rfl) hv4) ?_
  refine AL.s rfl (op_assignD (.e rfl)) ?_
  refine AL.nil ?_
  refine AW.seqR ?_
  refine AL.s rfl (op_moveD (.e rfl)) ?_
  refine AL.s rfl (op_moveD (.e rfl)) ?_
  refine AL.s rfl (op_mulw (.r rfl) (.r rfl)) ?_
  refine AL.s rfl (op_assignD (.e rfl)) ?_
  refine AL.nil ?_
  refine AW.seqR ?_
  refine AL.s rfl (op_moveD (.e rfl)) ?_
  refine AL.s rfl (op_moveD (.e rfl)) ?_
  refine AL.s rfl (op_mulw (.r rfl) (.r rfl)) ?_
  refine AL.s rfl (op_moveD (.e rfl)) ?_
  obtain ⟨v5, hv5, hm⟩ := bindE hm
  refine AL.s rfl (op_shrM (.r rfl) (.r rfl) hv5) ?_
  refine AL.s rfl (op_addw (.r rfl) (.r rfl)) ?_
  refine AL.s rfl (op_assignD (.e rfl)) ?_
  refine AL.nil ?_
  refine AW.seqR ?_
  refine AL.s rfl (op_moveD (.e rfl)) ?_
  refine AL.s rfl (op_andM (.r rfl) (.r rfl)) ?_
  refine AL.s rfl (op_assignD (.e rfl)) ?_
  refine AL.nil ?_
  refine AW.seqR ?_
  refine AL.s rfl (op_moveD (.e rfl)) ?_
  obtain ⟨v6, hv6, hm⟩ := bindE hm
  refine AL.s rfl (op_shrM (.r rfl) (.r rfl) hv6) ?_
  refine AL.s rfl (op_assignD (.e rfl)) ?_
  refine AL.nil ?_
  refine AW.seqR ?_
  refine AL.s rfl (op_moveD (.e rfl)) ?_
  refine AL.s rfl (op_moveD (.e rfl)) ?_
  refine AL.s rfl (op_moveD (.e rfl)) ?_
  refine AL.s rfl (op_mulw (.r rfl) (.r rfl)) ?_
  refine AL.s rfl (op_addw (.r rfl) (.r rfl)) ?_
  refine AL.s rfl (op_assignD (.e rfl)) ?_
  refine AL.nil ?_
  refine AW.seqR ?_
  refine AL.s rfl (op_moveD (.e rfl)) ?_
  refine AL.s rfl (op_moveD (.e rfl)) ?_
  refine AL.s rfl (op_mulw (.r rfl) (.r rfl)) ?_
  refine AL.s rfl (op_moveD (.e rfl)) ?_
  refine AL.s rfl (op_addw (.r rfl) (.r rfl)) ?_
  refine AL.s rfl (op_moveD (.e rfl)) ?_
  obtain ⟨v7, hv7, hm⟩ := bindE hm
  refine AL.s rfl (op_shrM (.r rfl) (.r rfl) hv7) ?_
  refine AL.s rfl (op_addw (.r rfl) (.r rfl)) ?_
  refine AL.s rfl (op_assignD (.e rfl)) ?_
  refine AL.nil ?_
  refine AW.reset 0 [(0, .d (.int .u64 a1)), (1, .d (.int .u64 a2)), (4, .d (.int .u64 (IntKind.u64.wrap ((IntKind.u64.wrap ((IntKind.u64.wrap (v3 * v4)) + v6)) + v7))))] [] (WOK.g0 hw0 (by simp)) ⟨[], rfl, rfl, rfl, ⟨(.d rfl), (.d rfl), (.d rfl), trivial⟩, trivial, .nil⟩ ?_
  refine AW.seqR ?_
  refine AL.s rfl (op_moveD (.e rfl)) ?_
  refine AL.s rfl (op_moveD (.e rfl)) ?_
  refine AL.s rfl (op_mulw (.r rfl) (.r rfl)) ?_
  refine AL.s rfl (op_assignD (.e rfl)) ?_
  refine AL.nil ?_
  refine AW.ret ?_
  obtain rfl := Option.some.inj hm
  exact EndQ.d (.tmp (.e rfl) (.tmp (.e rfl) .nil)) rfl rfl

set_option maxHeartbeats 20000000 in
theorem m_math_bits_Mul_ok {n : Nat} {a1 : Int} {a2 : Int} {r : (Int × Int)} (hm : m_math_bits_Mul n a1 a2 = some r) : Fn Try.prog 58 [(.int .u64 a1), (.int .u64 a2)] (.tup [(.int .u64 r.1), (.int .u64 r.2)]) := by
  unfold m_math_bits_Mul at hm
  refine Fn.of_AW (fnn := Try.f58) Try.func58 rfl (Nat.le_of_ble_eq_true rfl) (fun g0 w0 hw0 => ?_)
  refine AW.seqR ?_
  refine AL.s rfl (op_assignD (.e rfl)) ?_
  refine AL.s rfl (op_assignD (.e rfl)) ?_
  refine AL.nil ?_
  refine AW.seq ?_
  refine AW.cond (b := false) rfl (fun hc => by cases hc) (fun hc => ?_)
  refine AW.skip ?_
  refine nq ?_
  refine AW.seqR ?_
  refine AL.s rfl (op_moveD (.e rfl)) ?_
  refine AL.s rfl (op_moveD (.e rfl)) ?_
  obtain ⟨v3, hv3, hm⟩ := bindE hm
  refine AL.s rfl (op_fn Try.call62 (.e rfl) (.cons (.r rfl) (.cons (.r rfl) .nil)) (m_math_bits_Mul64_ok hv3)) ?_
  refine AL.s rfl (op_moveD (.e rfl)) ?_
  refine AL.s rfl (op_extractD (.e rfl) rfl) ?_
  refine AL.s rfl (op_extractD (.e rfl) rfl) ?_
  refine AL.s rfl (op_assignD (.e rfl)) ?_
  refine AL.s rfl (op_assignD (.e rfl)) ?_
  refine AL.nil ?_
  refine AW.seqR ?_
  refine AL.s rfl (op_moveD (.e rfl)) ?_
  refine AL.s rfl (op_moveD (.e rfl)) ?_
  refine AL.s rfl (op_assignD (.e rfl)) ?_
  refine AL.s rfl (op_assignD (.e rfl)) ?_
  refine AL.nil ?_
  refine AW.ret ?_
  obtain rfl := Option.some.inj hm
  exact EndQ.d (.tmp (.e rfl) (.tmp (.e rfl) .nil)) rfl rfl

set_option maxHeartbeats 20000000 in
theorem m_slices_Repeat_int_int_ok {n : Nat} {a1 : (List Int)} {a2 : Int} {r : (List Int)} (hm : m_slices_Repeat_int_int n a1 a2 = some r) : ACall Try.prog 50 [.d (.sl (a1.map D.i)), .d (.int .i64 a2)] [] fun r' H' => r' = resOf [.hs 0 0 r.length 1] ∧ H' = [.lst (r.map D.i) 3 1] := by
  unfold m_slices_Repeat_int_int at hm
  refine ACall.of_AWG (fnn := Try.f50) Try.func50 rfl (Nat.le_of_ble_eq_true rfl) (fun g0 w0 hw0 => ?_)
  refine AW.reset 0 [(0, .d (.sl (a1.map D.i))), (1, .d (.int .i64 a2))] [] (WOK.g0 hw0 (by simp)) ⟨[], rfl, rfl, rfl, ⟨(.d rfl), (.d rfl), trivial⟩, trivial, .nil⟩ ?_
  refine AW.seqR ?_
  refine AL.s rfl (op_assignN (.e rfl)) ?_
  refine AL.nil ?_
  refine AW.seq ?_
  refine AW.seqR ?_
  refine AL.s rfl (op_moveD (.e rfl)) ?_
  refine AL.s rfl (op_lss (.r rfl) (.r rfl)) ?_
  refine AL.nil ?_
  refine AW.cond (b := _) rfl (fun hc1 => ?_) (fun hc1 => ?_)
  · replace hm := iteT hc1 hm
    cases hm
  · replace hm := iteF hc1 hm
    refine AW.skip ?_
    refine nq ?_
    refine AW.seqR ?_
    refine AL.s rfl (op_moveD (.e rfl)) ?_
    refine AL.s rfl (op_lenM (f := D.i) (.r rfl) sl23) ?_
    refine AL.s rfl (op_conv_int (.r rfl) ⟨_, Try.underlying3⟩ Try.underlying95) ?_
    refine AL.s rfl (op_moveD (.e rfl)) ?_
    refine AL.s rfl (op_conv_int (.r rfl) ⟨_, Try.underlying3⟩ Try.underlying95) ?_
    obtain ⟨v3, hv3, hm⟩ := bindE hm
    refine AL.s rfl (op_fn Try.call58 (.e rfl) (.cons (.r rfl) (.cons (.r rfl) .nil)) (m_math_bits_Mul_ok hv3)) ?_
    refine AL.s rfl (op_moveD (.e rfl)) ?_
    refine AL.s rfl (op_extractD (.e rfl) rfl) ?_
    refine AL.s rfl (op_extractD (.e rfl) rfl) ?_
    refine AL.s rfl (op_assignD (.e rfl)) ?_
    refine AL.s rfl (op_assignD (.e rfl)) ?_
    refine AL.nil ?_
    refine AW.seq ?_
    refine AW.seqR ?_
    refine AL.s rfl (op_moveD (.e rfl)) ?_
    refine AL.s rfl (op_gtr (.r rfl) (.r rfl)) ?_
    refine AL.s rfl (op_moveD (.e rfl)) ?_
    refine AL.sF rfl rfl rfl rfl (fun g => op_moveD (.e rfl)) ?_
    refine AL.sF rfl rfl rfl rfl (fun g => op_gtr (.we (nt g) rfl rfl) (.r rfl)) ?_
    refine AL.s rfl (op_or (.r rfl) rfl (fun h => (.we (nt h) rfl rfl))) ?_
    refine AL.nil ?_
    refine AW.cond (b := _) rfl (fun hc2 => ?_) (fun hc2 => ?_)
    · replace hm := iteT hc2 hm
      cases hm
    · replace hm := iteF hc2 hm
      refine AW.skip ?_
      refine nq ?_
      refine AW.seqR ?_
      refine AL.s rfl (op_moveD (.e rfl)) ?_
      refine AL.s rfl (op_conv_int (.r rfl) ⟨_, Try.underlying95⟩ Try.underlying3) ?_
      obtain ⟨v4, hv4, hm⟩ := bindE hm
      refine AL.s rfl (op_makeM (n := 0) (f := D.i) (.r rfl) sl23 zr3 rfl rfl hv4) ?_
      refine AL.s rfl (op_assignH (.e rfl)) ?_
      refine AL.nil ?_
      refine AW.seqR ?_
      refine AL.s rfl (op_moveH (.e rfl)) ?_
      refine AL.s rfl (op_moveD (.e rfl)) ?_
      refine AL.s rfl (op_copyD (f := D.i) (l := v4) (src := a1) (fun _ => rfl) En.i (.e rfl) rfl (Nat.le_of_eq ((Nat.zero_add _).trans (rfl : _ = _).symm)) (.r rfl) sl23) ?_
      refine AL.s rfl (op_assignD (.e rfl)) ?_
      refine AL.nil ?_
      refine AW.seq ?_
      refine AW.block ?_
      obtain ⟨t_1, hI1, hk1⟩ := bindE hm
      refine AW.loopS (σ := (Int × (List Int))) (τ := (List Int)) 0 (fun x => [(7, .hs 0 0 x.2.length 1), (8, .d (.int .i64 x.1))]) (fun x => [.lst (x.2.map D.i) 3 1]) hI1 (WOK.g0 hw0 (by simp)) ⟨[0], rfl, rfl, rfl, ⟨(.hs rfl (cpyL_len (Nat.le_of_eq ((Nat.zero_add _).trans (rfl : _ = _).symm))).symm), (.d rfl), trivial⟩, trivial, (.lst rfl .nil)⟩ ?_
      rintro n1 ⟨s5, s6⟩ hI1
      obtain ⟨y_1, hm, hI1⟩ := iterS hI1
      replace hm : m_slices_Repeat_int_int_L1 n s5 s6 = some y_1 := hm
      unfold m_slices_Repeat_int_int_L1 at hm
      try dsimp only at hm
      refine AW.seq ?_
      refine AW.seqR ?_
      refine AL.s rfl (op_moveD (.e rfl)) ?_
      refine AL.s rfl (op_moveH (.e rfl)) ?_
      refine AL.s rfl (op_len_hs (.e rfl) rfl sl23) ?_
      refine AL.s rfl (op_lss (.r rfl) (.r rfl)) ?_
      refine AL.nil ?_
      refine AW.cond (b := _) rfl (fun hc3 => ?_) (fun hc3 => ?_)
      · replace hm := iteT hc3 hm
        refine AW.skip ?_
        refine nq ?_
        refine AW.block ?_
        refine AW.drawn [([], []), ([], []), ([], []), ([0], []), ([], []), ([], []), ([0], []), ([0], [0]), ([], []), ([], [])] mo (by decide +kernel) ?_
        refine AD.s (ws := []) rfl rfl (fun H' _ hH => op_moveD (.e rfl)) ?_
        refine AD.s (ws := []) rfl rfl (fun H' _ hH => op_moveH (.e rfl)) ?_
        refine AD.s (ws := []) rfl rfl (fun H' _ hH => op_moveD (.e rfl)) ?_
        obtain ⟨v7, hv7, hm⟩ := bindE hm
        refine AD.s (ws := []) rfl rfl (fun H' _ hH => op_sliceH (f := D.i) (l := s6) (.e rfl) ((hH _ (by simp)).trans rfl) rfl sl23 (.r rfl) rfl hv7) ?_
        refine AD.s (ws := []) rfl rfl (fun H' _ hH => op_moveH (.e rfl)) ?_
        refine AD.s (ws := []) rfl rfl (fun H' _ hH => op_moveD (.e rfl)) ?_
        obtain ⟨v8, hv8, hm⟩ := bindE hm
        refine AD.s (ws := []) rfl rfl (fun H' _ hH => op_sliceH (f := D.i) (l := s6) (.e rfl) ((hH _ (by simp)).trans rfl) rfl sl23 rfl (.r rfl) hv8) ?_
        refine AD.s (ws := [(0, _)]) rfl rfl (fun H' _ hH => op_copyH (f := D.i) (l := s6) (l2 := s6) (fun _ => rfl) En.i (.e rfl) ((hH _ (by simp)).trans rfl) (by have := slc_le hv7; first | omega | (have := rfl; omega)) (.e rfl) ((hH _ (by simp)).trans rfl) rfl (by have := slc_le hv8; first | omega | (have := rfl; omega)) sl23) ?_
        refine AD.s (ws := []) rfl rfl (fun H' _ hH => op_addw (.r rfl) (.r rfl)) ?_
        refine AD.s (ws := []) rfl rfl (fun H' _ hH => op_assignD (.e rfl)) ?_
        refine AD.nil ?_
        refine bq_n ?_
        obtain rfl := Option.some.inj hm
        exact nq ⟨_, hI1, ⟨[0], rfl, rfl, rfl, ⟨(.hs rfl (cpyL_len (by have := slc_le hv7; first | omega | (have := rfl; omega))).symm), (.d rfl), trivial⟩, trivial, (.lst rfl .nil)⟩⟩
      · replace hm := iteF hc3 hm
        refine AW.exit ?_
        refine tq_exit ?_
        refine tq_exit ?_
        obtain rfl := Option.some.inj hm
        obtain rfl := Option.some.inj hI1
        replace hm := hk1
        try dsimp only at hm
        refine bq_hit ?_
        refine nq ?_
        refine AW.seqR ?_
        refine AL.s rfl (op_moveH (.e rfl)) ?_
        refine AL.s rfl (op_assignH (.e rfl)) ?_
        refine AL.nil ?_
        refine AW.ret ?_
        obtain rfl := Option.some.inj hm
        exact ⟨_, [0], (.tmp (.e rfl) .nil), rfl, rfl, (.cons (.hs rfl rfl) .nil), (.lst rfl .nil)⟩

set_option maxHeartbeats 20000000 in
theorem m_route_search_assigned_ok {n : Nat} {c1 : Ssearch} {a2 : Int} {r : (List Int)} (hm : m_route_search_assigned n c1 a2 = some r) : ACall Try.prog 59 [.ptr 0 0, .d (.int .i64 a2)] [.row [.d (.sl (c1.fp.fCosts.map (esl D.i))), .d (.sl (c1.fp.fRoom.map D.i)), .d (.int .i64 c1.fp.fPenalty), .d (.sl (c1.froom.map D.i)), .hs 1 0 c1.fa.length 1, .d (.int .i64 c1.ffrom)], .lst (c1.fa.map D.i) 3 1] fun r' H' => r' = resOf [.d (.sl (r.map D.i))] ∧ H' = [.row [.d (.sl (c1.fp.fCosts.map (esl D.i))), .d (.sl (c1.fp.fRoom.map D.i)), .d (.int .i64 c1.fp.fPenalty), .d (.sl (c1.froom.map D.i)), .hs 1 0 c1.fa.length 1, .d (.int .i64 c1.ffrom)], .lst (c1.fa.map D.i) 3 1] := by
  unfold m_route_search_assigned at hm
  refine ACall.of_AWG (fnn := Try.f59) Try.func59 rfl (Nat.le_of_ble_eq_true rfl) (fun g0 w0 hw0 => ?_)
  refine AW.reset 2 [(0, .ptr 0 0), (1, .d (.int .i64 a2))] [.row [.d (.sl (c1.fp.fCosts.map (esl D.i))), .d (.sl (c1.fp.fRoom.map D.i)), .d (.int .i64 c1.fp.fPenalty), .d (.sl (c1.froom.map D.i)), .hs 1 0 c1.fa.length 1, .d (.int .i64 c1.ffrom)], .lst (c1.fa.map D.i) 3 1] (WOK.g0 hw0 (by simp)) ⟨[0, 1], rfl, rfl, rfl, ⟨(.ptr rfl), (.d rfl), trivial⟩, trivial, (.row rfl (.cons (.d rfl) (.cons (.d rfl) (.cons (.d rfl) (.cons (.d rfl) (.cons (.hs rfl rfl) (.cons (.d rfl) .nil)))))) (.lst rfl .nil))⟩ ?_
  refine AW.seqR ?_
  refine AL.s rfl (op_assignN (.e rfl)) ?_
  refine AL.nil ?_
  refine AW.seqR ?_
  refine AL.s rfl (op_assignN (.e rfl)) ?_
  refine AL.nil ?_
  refine AW.seq ?_
  refine AW.seqR ?_
  refine AL.s rfl (op_moveP (.e rfl)) ?_
  refine AL.s rfl (op_nilCheckP (.e rfl)) ?_
  refine AL.s rfl (op_field_ptr (.e rfl) fd88_3) ?_
  refine AL.s rfl (op_load_ptr1 (.e rfl) rfl rfl sc3) ?_
  refine AL.s rfl (op_assignD (.e rfl)) ?_
  refine AL.nil ?_
  refine AW.block ?_
  refine AW.tokenize (n := 2) 5 3 1 rfl rfl (by simp) ?_
  obtain ⟨t_1, hI1, hk1⟩ := bindE hm
  refine AW.loopS (σ := ((List Int) × Int)) (τ := (List Int)) 2 (fun x => [(0, .ptr 0 0), (1, .d (.int .i64 a2)), (5, .tk 2 (x.1.map D.i)), (6, .d (.int .i64 x.2))]) (fun x => [.row [.d (.sl (c1.fp.fCosts.map (esl D.i))), .d (.sl (c1.fp.fRoom.map D.i)), .d (.int .i64 c1.fp.fPenalty), .d (.sl (c1.froom.map D.i)), .hs 1 0 c1.fa.length 1, .d (.int .i64 c1.ffrom)], .lst (c1.fa.map D.i) 3 1, .tok x.1.length 3 1]) hI1 (WOK.g0 hw0 (by simp)) ⟨[0, 1, 2], rfl, rfl, rfl, ⟨(.ptr rfl), (.d rfl), (.tk rfl), (.d rfl), trivial⟩, trivial, (.row rfl (.cons (.d rfl) (.cons (.d rfl) (.cons (.d rfl) (.cons (.d rfl) (.cons (.hs rfl rfl) (.cons (.d rfl) .nil)))))) (.lst rfl (.tok rfl .nil)))⟩ ?_
  rintro n1 ⟨s3, s4⟩ hI1
  obtain ⟨y_1, hm, hI1⟩ := iterS hI1
  replace hm : m_route_search_assigned_L1 n _ _ s3 s4 = some y_1 := hm
  unfold m_route_search_assigned_L1 at hm
  try dsimp only at hm
  refine AW.seq ?_
  refine AW.seqR ?_
  refine AL.s rfl (op_moveD (.e rfl)) ?_
  refine AL.s rfl (op_moveP (.e rfl)) ?_
  refine AL.s rfl (op_nilCheckP (.e rfl)) ?_
  refine AL.s rfl (op_field_ptr (.e rfl) fd88_2) ?_
  refine AL.s rfl (op_load_ptr1 (.e rfl) rfl rfl sc23) ?_
  refine AL.s rfl (op_len_hs (.e rfl) rfl sl23) ?_
  refine AL.s rfl (op_lss (.r rfl) (.r rfl)) ?_
  refine AL.nil ?_
  refine AW.cond (b := _) rfl (fun hc1 => ?_) (fun hc1 => ?_)
  · replace hm := iteT hc1 hm
    refine AW.skip ?_
    refine nq ?_
    obtain ⟨t_j1, hm, hkj1⟩ := bindE hm
    refine AW.cutS (α := (List Int)) 2 (fun x => x = t_j1) (fun x => [(0, .ptr 0 0), (1, .d (.int .i64 a2)), (5, .tk 2 (x.map D.i)), (6, .d (.int .i64 s4))]) (fun x => [.row [.d (.sl (c1.fp.fCosts.map (esl D.i))), .d (.sl (c1.fp.fRoom.map D.i)), .d (.int .i64 c1.fp.fPenalty), .d (.sl (c1.froom.map D.i)), .hs 1 0 c1.fa.length 1, .d (.int .i64 c1.ffrom)], .lst (c1.fa.map D.i) 3 1, .tok x.length 3 1]) (WOK.g0 hw0 (by simp)) ?_ ?_
    · skip
      refine AW.block ?_
      refine AW.seqR ?_
      refine AL.s rfl (op_moveP (.e rfl)) ?_
      refine AL.s rfl (op_nilCheckP (.e rfl)) ?_
      refine AL.s rfl (op_field_ptr (.e rfl) fd88_2) ?_
      refine AL.s rfl (op_load_ptr1 (.e rfl) rfl rfl sc23) ?_
      refine AL.s rfl (op_moveD (.e rfl)) ?_
      obtain ⟨v5, hv5, hm⟩ := bindE hm
      refine AL.s rfl (op_indexAddr_hs (f := D.i) (l := c1.fa) (.e rfl) rfl rfl (.r rfl) hv5 sl23) ?_
      obtain ⟨v6, hv6, hm⟩ := bindE hm
      refine AL.s rfl (op_load_lp (f := D.i) (fun _ => rfl) (.e rfl) rfl hv6 sc3) ?_
      refine AL.s rfl (op_moveD (.e rfl)) ?_
      refine AL.s rfl (op_eql (.r rfl) (.r rfl)) ?_
      refine AL.nil ?_
      refine AW.cond (b := _) rfl (fun hc2 => ?_) (fun hc2 => ?_)
      · replace hm := iteT hc2 hm
        refine AW.region ?_
        refine AL.s rfl (op_moveT (.e rfl)) ?_
        refine AL.s rfl (op_moveD (.e rfl)) ?_
        refine AL.s rfl (op_buildSlice (ds := ([s4] : List Int).map D.i) sl23 (.cons (.r rfl) rfl (En.i.one _) .nil) rfl (by decide)) ?_
        obtain ⟨v7, hv7, hm⟩ := bindE hm
        refine AL.s rfl (op_appendM (f := D.i) (l' := ([s4] : List Int)) sl23 (.e rfl) (.r rfl) rfl rfl En.i hv7) ?_
        refine AL.s rfl (op_assignT (.e rfl)) ?_
        refine AL.nil ?_
        refine bq_n ?_
        obtain rfl := Option.some.inj hm
        exact nq ⟨_, rfl, ⟨[0, 1, 2], rfl, rfl, rfl, ⟨(.ptr rfl), (.d rfl), (.tk rfl), (.d rfl), trivial⟩, trivial, (.row rfl (.cons (.d rfl) (.cons (.d rfl) (.cons (.d rfl) (.cons (.d rfl) (.cons (.hs rfl rfl) (.cons (.d rfl) .nil)))))) (.lst rfl (.tok rfl .nil)))⟩⟩
      · replace hm := iteF hc2 hm
        refine AW.skip ?_
        refine bq_n ?_
        obtain rfl := Option.some.inj hm
        exact nq ⟨_, rfl, ⟨[0, 1, 2], rfl, rfl, rfl, ⟨(.ptr rfl), (.d rfl), (.tk rfl), (.d rfl), trivial⟩, trivial, (.row rfl (.cons (.d rfl) (.cons (.d rfl) (.cons (.d rfl) (.cons (.d rfl) (.cons (.hs rfl rfl) (.cons (.d rfl) .nil)))))) (.lst rfl (.tok rfl .nil)))⟩⟩
    · rintro s8 rfl
      replace hm := hkj1
      try dsimp only at hm
      refine AW.region ?_
      refine AL.s rfl (op_moveD (.e rfl)) ?_
      refine AL.s rfl (op_addw (.r rfl) (.r rfl)) ?_
      refine AL.s rfl (op_assignD (.e rfl)) ?_
      refine AL.nil ?_
      obtain rfl := Option.some.inj hm
      exact nq ⟨_, hI1, ⟨[0, 1, 2], rfl, rfl, rfl, ⟨(.ptr rfl), (.d rfl), (.tk rfl), (.d rfl), trivial⟩, trivial, (.row rfl (.cons (.d rfl) (.cons (.d rfl) (.cons (.d rfl) (.cons (.d rfl) (.cons (.hs rfl rfl) (.cons (.d rfl) .nil)))))) (.lst rfl (.tok rfl .nil)))⟩⟩
  · replace hm := iteF hc1 hm
    refine AW.exit ?_
    refine tq_exit ?_
    refine tq_exit ?_
    obtain rfl := Option.some.inj hm
    obtain rfl := Option.some.inj hI1
    replace hm := hk1
    try dsimp only at hm
    refine bq_hit ?_
    refine nq ?_
    refine AW.seqR ?_
    refine AL.s rfl (op_moveT (.e rfl)) ?_
    refine AL.s rfl (op_assignT (.e rfl)) ?_
    refine AL.nil ?_
    refine AW.ret ?_
    obtain rfl := Option.some.inj hm
    exact ⟨_, [0, 1], (.tmp (.e rfl) .nil), rfl, rfl, (.cons (.d rfl) .nil), (.row rfl (.cons (.d rfl) (.cons (.d rfl) (.cons (.d rfl) (.cons (.d rfl) (.cons (.hs rfl rfl) (.cons (.d rfl) .nil)))))) (.lst rfl .nil))⟩

end Go.Proofs.Ythjinjinnklkgaa.Ab
