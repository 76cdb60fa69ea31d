/- The functions do what they are in plain Lean. Conditions: none. -/
import Derived.Test.YthjinjinnklkgaaTy
import Derived.Test.YthjinjinnklkgaaMi
import Derived.Test.YthjinjinnklkgaaFg
set_option maxRecDepth 100000
namespace Go.Proofs.Ythjinjinnklkgaa.Ab
open Go
attribute [local irreducible] AL AD AW nlO nlV nlD

set_option maxHeartbeats 20000000 in
theorem m_law56_RouteMore_ok {n : Nat} {a1 : SProblem} {a2 : A22} {a3 : (List Int)} {r : Bool} (hm : m_law56_RouteMore n a1 a2 a3 = some r) : Fn Try.prog 6 [(SProblem.e a1), (A22.e a2), (.sl (a3.map D.i))] (.bool r) := by
  unfold m_law56_RouteMore at hm
  refine Fn.of_AW (fnn := Try.f6) Try.func6 rfl (Nat.le_of_ble_eq_true rfl) (fun g0 w0 hw0 => ?_)
  refine AW.reset 0 [(0, .d (SProblem.e a1)), (1, .d (A22.e a2)), (2, .d (.sl (a3.map D.i)))] [] (WOK.g0 hw0 (by simp)) ⟨[], rfl, rfl, rfl, ⟨(.d rfl), (.d rfl), (.d rfl), trivial⟩, trivial, .nil⟩ ?_
  refine AW.seqR ?_
  refine AL.s rfl (op_box (n := 0) (.e rfl) rfl rfl rfl) ?_
  refine AL.s rfl (op_box (n := 1) (.e rfl) rfl rfl rfl) ?_
  refine AL.s rfl (op_assignD (.e rfl)) ?_
  refine AL.nil ?_
  refine AW.seq ?_
  refine AW.seqR ?_
  obtain ⟨v4, hv4, hm⟩ := bindE hm
  refine AL.s rfl (op_fn Try.call8 (.e rfl) .nil (m_law56_awake_ok hv4)) ?_
  refine AL.s rfl (op_not (.r rfl)) ?_
  refine AL.s rfl (op_moveD (.e rfl)) ?_
  refine AL.sF rfl rfl rfl rfl (fun g => op_load_ptrA (.e rfl) rfl rfl rfl ag25) ?_
  obtain ⟨v5, hv5, hm⟩ := bindE hm
  refine AL.sF rfl rfl rfl rfl (fun g => op_fn Try.call15 (.e rfl) (.cons (.we (nt g) rfl rfl) .nil) (m_ref56_Valid_ok (iteT (nt g) hv5))) ?_
  refine AL.sF rfl rfl rfl rfl (fun g => op_not (.we (nt g) rfl rfl)) ?_
  refine AL.s rfl (op_or (.r rfl) rfl (fun h => (.we (nt h) rfl rfl))) ?_
  refine AL.s rfl (op_moveD (.e rfl)) ?_
  refine AL.sF rfl rfl rfl rfl (fun g => op_field_ptr (.e rfl) fd25_1) ?_
  refine AL.sF rfl rfl rfl rfl (fun g => op_load_ptr1 (.we (nt g) rfl) rfl rfl sc23) ?_
  refine AL.sF rfl rfl rfl rfl (fun g => op_lenM (f := D.i) (.we (nt g) rfl rfl) sl23) ?_
  refine AL.sF rfl rfl rfl rfl (fun g => op_gtr (.we (nt g) rfl rfl) (.r rfl)) ?_
  refine AL.s rfl (op_or (.r rfl) rfl (fun h => (.we (nt h) rfl rfl))) ?_
  refine AL.s rfl (op_moveD (.e rfl)) ?_
  refine AL.sF rfl rfl rfl rfl (fun g => op_field_ptr (.e rfl) fd25_0) ?_
  refine AL.sF rfl rfl rfl rfl (fun g => op_load_ptr1 (.we (nt g) rfl) rfl rfl sc22) ?_
  refine AL.sF rfl rfl rfl rfl (fun g => op_lenM (f := (esl D.i)) (.we (nt g) rfl rfl) sl22) ?_
  refine AL.sF rfl rfl rfl rfl (fun g => op_gtr (.we (nt g) rfl rfl) (.r rfl)) ?_
  refine AL.s rfl (op_or (.r rfl) rfl (fun h => (.we (nt h) rfl rfl))) ?_
  refine AL.s rfl (op_moveD (.e rfl)) ?_
  refine AL.sF rfl rfl rfl rfl (fun g => op_field_ptr (.e rfl) fd25_0) ?_
  refine AL.sF rfl rfl rfl rfl (fun g => op_load_ptr1 (.we (nt g) rfl) rfl rfl sc22) ?_
  refine AL.sF rfl rfl rfl rfl (fun g => op_lenM (f := (esl D.i)) (.we (nt g) rfl rfl) sl22) ?_
  refine AL.sF rfl rfl rfl rfl (fun g => op_eql (.we (nt g) rfl rfl) (.r rfl)) ?_
  refine AL.s rfl (op_or (.r rfl) rfl (fun h => (.we (nt h) rfl rfl))) ?_
  refine AL.s rfl (op_moveD (.e rfl)) ?_
  refine AL.sF rfl rfl rfl rfl (fun g => op_field_ptr (.e rfl) fd25_1) ?_
  refine AL.sF rfl rfl rfl rfl (fun g => op_load_ptr1 (.we (nt g) rfl) rfl rfl sc23) ?_
  refine AL.sF rfl rfl rfl rfl (fun g => op_lenM (f := D.i) (.we (nt g) rfl rfl) sl23) ?_
  refine AL.sF rfl rfl rfl rfl (fun g => op_eql (.we (nt g) rfl rfl) (.r rfl)) ?_
  refine AL.s rfl (op_or (.r rfl) rfl (fun h => (.we (nt h) rfl rfl))) ?_
  refine AL.s rfl (op_moveD (.e rfl)) ?_
  refine AL.sF rfl rfl rfl rfl (fun g => op_moveD (.e rfl)) ?_
  refine AL.sF rfl rfl rfl rfl (fun g => op_lenM (f := D.i) (.we (nt g) rfl rfl) sl23) ?_
  refine AL.sF rfl rfl rfl rfl (fun g => op_gtr (.we (nt g) rfl rfl) (.r rfl)) ?_
  refine AL.s rfl (op_or (.r rfl) rfl (fun h => (.we (nt h) rfl rfl))) ?_
  refine AL.nil ?_
  refine AW.cond (b := _) rfl (fun hc1 => ?_) (fun hc1 => ?_)
  · replace hm := iteT hc1 hm
    refine AW.seqR ?_
    obtain ⟨v6, hv6, hm⟩ := bindE hm
    refine AL.s rfl (op_fn Try.call8 (.e rfl) .nil (m_law56_awake_ok hv6)) ?_
    refine AL.s rfl (op_assignD (.e rfl)) ?_
    refine AL.nil ?_
    refine AW.ret ?_
    refine tq_ret ?_
    obtain rfl := Option.some.inj hm
    exact EndQ.d (.tmp (.e rfl) .nil) rfl rfl
  · replace hm := iteF hc1 hm
    refine AW.skip ?_
    refine nq ?_
    refine AW.seqR ?_
    refine AL.s rfl (op_assignF (.e rfl)) ?_
    refine AL.nil ?_
    refine AW.seqR ?_
    refine AL.s rfl (op_moveF (.e rfl)) ?_
    refine AL.s rfl (op_load_ptrA (.e rfl) rfl rfl rfl ag25) ?_
    obtain ⟨v7, hv7, hm⟩ := bindE hm
    refine AL.s rfl (op_fn Try.call21 (.e rfl) (.cons (.r rfl) .nil) (m_law56_RouteMore_1_ok hv7)) ?_
    refine AL.s rfl (op_assignD (.e rfl)) ?_
    refine AL.nil ?_
    refine AW.reset 0 [(2, .d (.sl (a3.map D.i))), (3, .ptr 0 0), (4, .ptr 1 0), (7, .fn (.func 21) []), (8, .d (.int .i64 v7))] [.row [.d (.sl (a1.fCosts.map (esl D.i))), .d (.sl (a1.fRoom.map D.i)), .d (.int .i64 a1.fPenalty)], .row [.d (.int .u8 a2.e0), .d (.int .u8 a2.e1)]] (WOK.g0 hw0 (by simp)) ⟨[0, 1], rfl, rfl, rfl, ⟨(.d rfl), (.ptr rfl), (.ptr rfl), .fn0, (.d rfl), trivial⟩, trivial, (.row rfl (.cons (.d rfl) (.cons (.d rfl) (.cons (.d rfl) .nil))) (.row rfl (.cons (.d rfl) (.cons (.d rfl) .nil)) .nil))⟩ ?_
    refine AW.seqD [([], []), ([1], []), ([], []), ([], []), ([0], []), ([], []), ([], []), ([], []), ([1], []), ([], []), ([], []), ([0], []), ([], []), ([], []), ([], []), ([], [])] mo (by decide +kernel) ?_
    refine AD.s (ws := []) rfl rfl (fun H' _ hH => op_indexAddr_arr (i := 0) (.e rfl) (.r rfl) rfl (by decide) Try.underlying47 ⟨_, rfl, rfl⟩) ?_
    refine AD.s (ws := []) rfl rfl (fun H' _ hH => op_load_ptr1 (.e rfl) ((hH _ (by simp)).trans rfl) rfl sc5) ?_
    refine AD.s (ws := []) rfl rfl (fun H' _ hH => op_conv_int (.r rfl) ⟨_, Try.underlying5⟩ Try.underlying3) ?_
    refine AD.s (ws := []) rfl rfl (fun H' _ hH => op_field_ptr (.e rfl) fd25_0) ?_
    refine AD.s (ws := []) rfl rfl (fun H' _ hH => op_load_ptr1 (.e rfl) ((hH _ (by simp)).trans rfl) rfl sc22) ?_
    refine AD.s (ws := []) rfl rfl (fun H' _ hH => op_lenM (f := (esl D.i)) (.r rfl) sl22) ?_
    obtain ⟨v8, hv8, hm⟩ := bindE hm
    refine AD.s (ws := []) rfl rfl (fun H' _ hH => op_remM (.r rfl) (.r rfl) hv8) ?_
    refine AD.s (ws := []) rfl rfl (fun H' _ hH => op_indexAddr_arr (i := 1) (.e rfl) (.r rfl) rfl (by decide) Try.underlying47 ⟨_, rfl, rfl⟩) ?_
    refine AD.s (ws := []) rfl rfl (fun H' _ hH => op_load_ptr1 (.e rfl) ((hH _ (by simp)).trans rfl) rfl sc5) ?_
    refine AD.s (ws := []) rfl rfl (fun H' _ hH => op_conv_int (.r rfl) ⟨_, Try.underlying5⟩ Try.underlying3) ?_
    refine AD.s (ws := []) rfl rfl (fun H' _ hH => op_field_ptr (.e rfl) fd25_1) ?_
    refine AD.s (ws := []) rfl rfl (fun H' _ hH => op_load_ptr1 (.e rfl) ((hH _ (by simp)).trans rfl) rfl sc23) ?_
    refine AD.s (ws := []) rfl rfl (fun H' _ hH => op_lenM (f := D.i) (.r rfl) sl23) ?_
    obtain ⟨v9, hv9, hm⟩ := bindE hm
    refine AD.s (ws := []) rfl rfl (fun H' _ hH => op_remM (.r rfl) (.r rfl) hv9) ?_
    refine AD.s (ws := []) rfl rfl (fun H' _ hH => op_assignD (.e rfl)) ?_
    refine AD.s (ws := []) rfl rfl (fun H' _ hH => op_assignD (.e rfl)) ?_
    refine AD.nil ?_
    refine AW.seqR ?_
    refine AL.s rfl (op_load_ptrA (.e rfl) rfl rfl rfl ag25) ?_
    refine AL.s rfl (op_alloc (n := 2) zr25 rfl) ?_
    refine AL.s rfl (op_storeA (.e rfl) (.e rfl) rfl rfl ⟨_, rfl, rfl⟩ rfl (Nat.le_of_ble_eq_true rfl)) ?_
    refine AL.nil ?_
    refine AW.seqR ?_
    refine AL.s rfl (op_buildSlice (ds := ([] : List Int).map D.i) sl23 .nil rfl (by decide)) ?_
    refine AL.s rfl (op_field_ptr (.e rfl) fd25_1) ?_
    refine AL.s rfl (op_load_ptr1 (.e rfl) rfl rfl sc23) ?_
    obtain ⟨v10, hv10, hm⟩ := bindE hm
    refine AL.s rfl (op_appendEH (n := 3) (f := D.i) (l' := a1.fRoom) sl23 (.e rfl) (.r rfl) rfl En.i hv10) ?_
    refine AL.s rfl (op_field_ptr (.e rfl) fd25_1) ?_
    refine AL.s rfl (op_store (.e rfl) (.e rfl) rfl rfl rfl ⟨_, rfl, rfl⟩ rfl (Nat.le_of_ble_eq_true rfl)) ?_
    refine AL.nil ?_
    refine AW.seqD [([], []), ([2], []), ([], []), ([], []), ([2], []), ([], []), ([4], []), ([4], []), ([], []), ([], []), ([4], []), ([4], [4])] mo (by decide +kernel) ?_
    refine AD.s (ws := []) rfl rfl (fun H' _ hH => op_field_ptr (.e rfl) fd25_1) ?_
    refine AD.s (ws := []) rfl rfl (fun H' _ hH => op_load_ptr1 (.e rfl) ((hH _ (by simp)).trans rfl) rfl sc23) ?_
    refine AD.s (ws := []) rfl rfl (fun H' _ hH => op_moveD (.e rfl)) ?_
    refine AD.s (ws := []) rfl rfl (fun H' _ hH => op_field_ptr (.e rfl) fd25_1) ?_
    refine AD.s (ws := []) rfl rfl (fun H' _ hH => op_load_ptr1 (.e rfl) ((hH _ (by simp)).trans rfl) rfl sc23) ?_
    refine AD.s (ws := []) rfl rfl (fun H' _ hH => op_moveD (.e rfl)) ?_
    obtain ⟨v11, hv11, hm⟩ := bindE hm
    refine AD.s (ws := []) rfl rfl (fun H' _ hH => op_indexAddr_hs (f := D.i) (l := v10) (.e rfl) ((hH _ (by simp)).trans rfl) rfl (.r rfl) hv11 sl23) ?_
    obtain ⟨v12, hv12, hm⟩ := bindE hm
    refine AD.s (ws := []) rfl rfl (fun H' _ hH => op_load_lp (f := D.i) (fun _ => rfl) (.e rfl) ((hH _ (by simp)).trans rfl) hv12 sc3) ?_
    refine AD.s (ws := []) rfl rfl (fun H' _ hH => op_addw (.r rfl) (.r rfl)) ?_
    refine AD.s (ws := []) rfl rfl (fun H' _ hH => op_min (.r rfl) (.r rfl)) ?_
    obtain ⟨v13, hv13, hm⟩ := bindE hm
    refine AD.s (ws := []) rfl rfl (fun H' _ hH => op_indexAddr_hs (f := D.i) (l := v10) (.e rfl) ((hH _ (by simp)).trans rfl) rfl (.r rfl) hv13 sl23) ?_
    obtain ⟨v14, hv14, hm⟩ := bindE hm
    refine AD.s (ws := [(4, _)]) rfl rfl (fun H' _ hH => op_store_lp (f := D.i) (fun _ => rfl) (.e rfl) (.r rfl) ((hH _ (by simp)).trans rfl) hv14 ⟨_, rfl, rfl⟩ En.i) ?_
    refine AD.nil ?_
    refine AW.seqR ?_
    refine AL.s rfl (op_load_ptrA (.e rfl) rfl rfl rfl ag25) ?_
    refine AL.s rfl (op_alloc (n := 5) zr25 rfl) ?_
    refine AL.s rfl (op_storeA (.e rfl) (.e rfl) rfl rfl ⟨_, rfl, rfl⟩ rfl (Nat.le_of_ble_eq_true rfl)) ?_
    refine AL.nil ?_
    refine AW.seqR ?_
    refine AL.s rfl (op_field_ptr (.e rfl) fd25_2) ?_
    refine AL.s rfl (op_load_ptr1 (.e rfl) rfl rfl sc3) ?_
    obtain ⟨v15, hv15, hm⟩ := bindE hm
    refine AL.s rfl (op_quoM (.r rfl) (.r rfl) hv15) ?_
    refine AL.s rfl (op_field_ptr (.e rfl) fd25_2) ?_
    refine AL.s rfl (op_storeD (.e rfl) (.e rfl) rfl rfl rfl ⟨_, rfl, rfl⟩ (Nat.le_of_ble_eq_true rfl)) ?_
    refine AL.nil ?_
    refine AW.seqR ?_
    refine AL.s rfl (op_buildSlice (ds := ([] : List (List Int)).map (esl D.i)) sl22 .nil rfl (by decide)) ?_
    refine AL.s rfl (op_field_ptr (.e rfl) fd25_0) ?_
    refine AL.s rfl (op_load_ptr1 (.e rfl) rfl rfl sc22) ?_
    obtain ⟨v16, hv16, hm⟩ := bindE hm
    refine AL.s rfl (op_appendEH (n := 6) (f := (esl D.i)) (l' := a1.fCosts) sl22 (.e rfl) (.r rfl) rfl En.sl hv16) ?_
    obtain ⟨v17, hv17, hm⟩ := bindE hm
    refine AL.toNl (f := D.i) (e := 3) (eo := 23) (l := v16) 7 rfl hv17 ?_
    refine AL.s rfl (op_field_ptr (.e rfl) fd25_0) ?_
    refine AL.s rfl (op_store (.e rfl) (.e rfl) rfl rfl rfl ⟨_, rfl, rfl⟩ rfl (Nat.le_of_ble_eq_true rfl)) ?_
    refine AL.nil ?_
    refine AW.reset 0 [(2, .d (.sl (a3.map D.i))), (3, .ptr 0 0), (7, .fn (.func 21) []), (8, .d (.int .i64 v7)), (9, .d (.int .i64 v8)), (10, .d (.int .i64 v9)), (11, .ptr 2 0), (12, .ptr 5 0)] [.row [.d (.sl (a1.fCosts.map (esl D.i))), .d (.sl (a1.fRoom.map D.i)), .d (.int .i64 a1.fPenalty)], .row [.d (.int .u8 a2.e0), .d (.int .u8 a2.e1)], .row [.d (.sl (a1.fCosts.map (esl D.i))), .hs 4 0 v14.length 1, .d (.int .i64 a1.fPenalty)], .dead, .lst (v14.map D.i) 3 1, .row [.hs 7 0 v16.length 1, .d (.sl (a1.fRoom.map D.i)), .d (.int .i64 v15)], .dead, .ob (nlO 3 23 v16.length (nlD D.i v17))] (WOK.g0 hw0 (by simp)) ⟨[0, 1, 2, 3, 4, 5, 6, 7], rfl, rfl, rfl, ⟨(.d rfl), (.ptr rfl), .fn0, (.d rfl), (.d rfl), (.d rfl), (.ptr rfl), (.ptr rfl), trivial⟩, trivial, (.row rfl (.cons (.d rfl) (.cons (.d rfl) (.cons (.d rfl) .nil))) (.row rfl (.cons (.d rfl) (.cons (.d rfl) .nil)) (.row rfl (.cons (.d rfl) (.cons (.hs rfl (setI_len hv14).symm) (.cons (.d rfl) .nil))) (.dead (.lst rfl (.row rfl (.cons (.hs rfl rfl) (.cons (.d rfl) (.cons (.d rfl) .nil))) (.dead (.ob rfl obR_nl .nil))))))))⟩ ?_
    refine AW.free ?_
    refine AW.free ?_
    refine AW.seqD [([], []), ([5], []), ([], []), ([], []), ([], []), ([0], []), ([], []), ([], []), ([], []), ([], [8, 9]), ([7], []), ([7, 9], [9, 7])] mo (by decide +kernel) ?_
    refine AD.s (ws := []) rfl rfl (fun H' _ hH => op_field_ptr (.e rfl) fd25_0) ?_
    refine AD.s (ws := []) rfl rfl (fun H' _ hH => op_load_ptr1 (.e rfl) ((hH _ (by simp)).trans rfl) rfl sc22) ?_
    refine AD.s (ws := []) rfl rfl (fun H' _ hH => op_moveD (.e rfl)) ?_
    refine AD.s (ws := []) rfl rfl (fun H' _ hH => op_buildSlice (ds := ([] : List Int).map D.i) sl23 .nil rfl (by decide)) ?_
    refine AD.s (ws := []) rfl rfl (fun H' _ hH => op_field_ptr (.e rfl) fd25_0) ?_
    refine AD.s (ws := []) rfl rfl (fun H' _ hH => op_load_ptr1 (.e rfl) ((hH _ (by simp)).trans rfl) rfl sc22) ?_
    refine AD.s (ws := []) rfl rfl (fun H' _ hH => op_moveD (.e rfl)) ?_
    obtain ⟨v18, hv18, hm⟩ := bindE hm
    refine AD.s (ws := []) rfl rfl (fun H' _ hH => op_indexAddrM (f := (esl D.i)) (.r rfl) (.r rfl) hv18 En.sl sl22) ?_
    refine AD.s (ws := []) rfl rfl (fun H' _ hH => op_load_vp1 (.e rfl) rfl sc23) ?_
    obtain ⟨v19, hv19, hm⟩ := bindE hm
    refine AD.s (ws := [(8, _), (9, _)]) rfl rfl (fun H' _ hH => op_appendEHR (r0 := 8) (r1 := 9) (f := D.i) (l' := v18) sl23 (.e rfl) (.r rfl) (by simp) ((hH _ (by simp)).trans rfl) ((hH _ (by simp)).trans rfl) (by decide) En.i hv19) ?_
    obtain ⟨v20, hv20, hm⟩ := bindE hm
    refine AD.s (ws := []) rfl rfl (fun H' _ hH => op_indexAddr_nlO (f := D.i) (M := v17) (.e rfl) ((hH _ (by simp)).trans rfl) (.r rfl) hv20 sl22) ?_
    obtain ⟨v21, hv21, hm⟩ := bindE hm
    refine AD.s (ws := [(9, _), (7, _)]) rfl rfl (fun H' _ hH => op_store_nlp (f := D.i) (M := v17) (a := v8) (l := v19) (.e rfl) (fun _ => rfl) (.e rfl) rfl ((hH _ (by simp)).trans rfl) ((hH _ (by simp)).trans rfl) hv21 ⟨_, rfl, rfl⟩) ?_
    refine AD.nil ?_
    obtain ⟨t_j1, hm, hkj1⟩ := bindE hm
    refine AW.cutS (α := (List (Bool × (List Int)))) 0 (fun x => x = t_j1) (fun x => [(2, .d (.sl (a3.map D.i))), (3, .ptr 0 0), (7, .fn (.func 21) []), (8, .d (.int .i64 v7)), (11, .ptr 2 0), (12, .ptr 5 0)]) (fun x => [.row [.d (.sl (a1.fCosts.map (esl D.i))), .d (.sl (a1.fRoom.map D.i)), .d (.int .i64 a1.fPenalty)], .row [.d (.int .u8 a2.e0), .d (.int .u8 a2.e1)], .row [.d (.sl (a1.fCosts.map (esl D.i))), .hs 4 0 v14.length 1, .d (.int .i64 a1.fPenalty)], .dead, .lst (v14.map D.i) 3 1, .row [.hs 7 0 v16.length 1, .d (.sl (a1.fRoom.map D.i)), .d (.int .i64 v15)], .dead, .ob (nlO 3 23 v16.length (nlD D.i x)), .dead, .dead]) (WOK.g0 hw0 (by simp)) ?_ ?_
    · skip
      refine AW.seqR ?_
      refine AL.s rfl (op_field_ptr (.e rfl) fd25_0) ?_
      refine AL.s rfl (op_load_ptr1 (.e rfl) rfl rfl sc22) ?_
      refine AL.s rfl (op_moveD (.e rfl)) ?_
      refine AL.openNl 7 rfl (fun Vs_7 => ?_)
      obtain ⟨v22, hv22, hm⟩ := bindE hm
      refine AL.s rfl (op_indexAddr_nl (f := D.i) (M := v21) (.e rfl) rfl (.r rfl) hv22 sl22) ?_
      obtain ⟨v23, hv23, hm⟩ := bindE hm
      refine AL.s rfl (op_loadRow_nl (f := D.i) (M := v21) (.e rfl) rfl hv23 sc23) ?_
      refine AL.s rfl (op_moveD (.e rfl)) ?_
      obtain ⟨v24, hv24, hm⟩ := bindE hm
      refine AL.s rfl (op_indexAddr_nlr (id := 7) (f := D.i) (M := v21) (a := v8) (.r rfl) (fun _ => rfl) rfl (.r rfl) hv24 sl23) ?_
      obtain ⟨v25, hv25, hm⟩ := bindE hm
      refine AL.s rfl (op_load_nle (id := 7) (f := D.i) (M := v21) (a := v8) (c := v9) (.r rfl) (fun _ => rfl) rfl hv25 sc3) ?_
      refine AL.s rfl (op_gtr (.r rfl) (.r rfl)) ?_
      refine AL.closeNl 7 rfl ?_
      refine AL.nil ?_
      refine AW.cond (b := _) rfl (fun hc2 => ?_) (fun hc2 => ?_)
      · replace hm := iteT hc2 hm
        refine AW.region ?_
        refine AL.s rfl (op_field_ptr (.e rfl) fd25_0) ?_
        refine AL.s rfl (op_load_ptr1 (.e rfl) rfl rfl sc22) ?_
        refine AL.s rfl (op_moveD (.e rfl)) ?_
        refine AL.openNl 7 rfl (fun Vs_8 => ?_)
        obtain ⟨v26, hv26, hm⟩ := bindE hm
        refine AL.s rfl (op_indexAddr_nl (f := D.i) (M := v21) (.e rfl) rfl (.r rfl) hv26 sl22) ?_
        obtain ⟨v27, hv27, hm⟩ := bindE hm
        refine AL.s rfl (op_loadRow_nl (f := D.i) (M := v21) (.e rfl) rfl hv27 sc23) ?_
        refine AL.s rfl (op_moveD (.e rfl)) ?_
        obtain ⟨v28, hv28, hm⟩ := bindE hm
        refine AL.s rfl (op_indexAddr_nlr (id := 7) (f := D.i) (M := v21) (a := v8) (.r rfl) (fun _ => rfl) rfl (.r rfl) hv28 sl23) ?_
        obtain ⟨v29, hv29, hm⟩ := bindE hm
        refine AL.s rfl (op_load_nle (id := 7) (f := D.i) (M := v21) (a := v8) (c := v9) (.r rfl) (fun _ => rfl) rfl hv29 sc3) ?_
        obtain ⟨v30, hv30, hm⟩ := bindE hm
        refine AL.s rfl (op_quoM (.r rfl) (.r rfl) hv30) ?_
        obtain ⟨v31, hv31, hm⟩ := bindE hm
        refine AL.s rfl (op_indexAddr_nlr (id := 7) (f := D.i) (M := v21) (a := v8) (.r rfl) (fun _ => rfl) rfl (.r rfl) hv31 sl23) ?_
        obtain ⟨v32, hv32, hm⟩ := bindE hm
        refine AL.s rfl (op_store_nle (id := 7) (f := D.i) (M := v21) (a := v8) (c := v9) (.r rfl) (fun _ => rfl) En.i (.r rfl) rfl hv32 ⟨_, rfl, rfl⟩) ?_
        refine AL.closeNl 7 rfl ?_
        refine AL.nil ?_
        obtain rfl := Option.some.inj hm
        exact nq ⟨_, rfl, ⟨[0, 1, 2, 3, 4, 5, 6, 7, 8, 9], rfl, rfl, rfl, ⟨(.d rfl), (.ptr rfl), .fn0, (.d rfl), (.ptr rfl), (.ptr rfl), trivial⟩, trivial, (.row rfl (.cons (.d rfl) (.cons (.d rfl) (.cons (.d rfl) .nil))) (.row rfl (.cons (.d rfl) (.cons (.d rfl) .nil)) (.row rfl (.cons (.d rfl) (.cons (.hs rfl rfl) (.cons (.d rfl) .nil))) (.dead (.lst rfl (.row rfl (.cons (.hs rfl rfl) (.cons (.d rfl) (.cons (.d rfl) .nil))) (.dead (.ob rfl obR_nl (.dead (.dead .nil))))))))))⟩⟩
      · replace hm := iteF hc2 hm
        refine AW.skip ?_
        obtain rfl := Option.some.inj hm
        exact nq ⟨_, rfl, ⟨[0, 1, 2, 3, 4, 5, 6, 7, 8, 9], rfl, rfl, rfl, ⟨(.d rfl), (.ptr rfl), .fn0, (.d rfl), (.ptr rfl), (.ptr rfl), trivial⟩, trivial, (.row rfl (.cons (.d rfl) (.cons (.d rfl) (.cons (.d rfl) .nil))) (.row rfl (.cons (.d rfl) (.cons (.d rfl) .nil)) (.row rfl (.cons (.d rfl) (.cons (.hs rfl rfl) (.cons (.d rfl) .nil))) (.dead (.lst rfl (.row rfl (.cons (.hs rfl rfl) (.cons (.d rfl) (.cons (.d rfl) .nil))) (.dead (.ob rfl obR_nl (.dead (.dead .nil))))))))))⟩⟩
    · rintro s33 rfl
      replace hm := hkj1
      try dsimp only at hm
      refine AW.seqR ?_
      refine AL.s rfl (op_load_ptrA (.e rfl) rfl rfl rfl ag25) ?_
      refine AL.s rfl (op_alloc (n := 10) zr25 rfl) ?_
      refine AL.s rfl (op_storeA (.e rfl) (.e rfl) rfl rfl ⟨_, rfl, rfl⟩ rfl (Nat.le_of_ble_eq_true rfl)) ?_
      refine AL.nil ?_
      refine AW.seqR ?_
      refine AL.s rfl (op_buildSlice (ds := ([] : List Int).map D.i) sl23 .nil rfl (by decide)) ?_
      refine AL.s rfl (op_field_ptr (.e rfl) fd25_1) ?_
      refine AL.s rfl (op_load_ptr1 (.e rfl) rfl rfl sc23) ?_
      obtain ⟨v34, hv34, hm⟩ := bindE hm
      refine AL.s rfl (op_appendEH (n := 11) (f := D.i) (l' := a1.fRoom) sl23 (.e rfl) (.r rfl) rfl En.i hv34) ?_
      refine AL.s rfl (op_buildSlice (ds := ([(1 : Int)] : List Int).map D.i) sl23 (.cons (.r rfl) rfl (En.i.one _) .nil) rfl (by decide)) ?_
      obtain ⟨v35, hv35, hm⟩ := bindE hm
      refine AL.s rfl (op_appendHM (n := 13) (f := D.i) (l := v34) (l' := ([(1 : Int)] : List Int)) sl23 (.e rfl) (.r rfl) rfl rfl rfl En.i hv35) ?_
      refine AL.s rfl (op_field_ptr (.e rfl) fd25_1) ?_
      refine AL.s rfl (op_store (.e rfl) (.e rfl) rfl rfl rfl ⟨_, rfl, rfl⟩ rfl (Nat.le_of_ble_eq_true rfl)) ?_
      refine AL.nil ?_
      refine AW.seqR ?_
      refine AL.s rfl (op_field_ptr (.e rfl) fd25_0) ?_
      refine AL.s rfl (op_storeNil (.e rfl) (.e rfl) rfl rfl ⟨_, rfl, rfl⟩ (Nat.le_of_ble_eq_true rfl)) ?_
      refine AL.nil ?_
      refine AW.seq ?_
      refine AW.seqR ?_
      refine AL.s rfl (op_field_ptr (.e rfl) fd25_0) ?_
      refine AL.s rfl (op_load_ptr1 (.e rfl) rfl rfl sc22) ?_
      refine AL.s rfl (op_lenM (f := (esl D.i)) (.r rfl) sl22) ?_
      refine AL.s rfl (op_moveD (.e rfl)) ?_
      refine AL.nil ?_
      refine AW.block ?_
      refine AW.lstizeC (n := 14) 10 0 23 1 rfl rfl rfl ?_
      obtain ⟨t_1, hI1, hk1⟩ := bindE hm
      refine AW.loopS (σ := (Int × (List (List Int)))) (τ := (List (List Int))) 0 (fun x => [(2, .d (.sl (a3.map D.i))), (7, .fn (.func 21) []), (8, .d (.int .i64 v7)), (11, .ptr 2 0), (12, .ptr 5 0), (13, .ptr 10 0), (141, .d (.sl (a1.fCosts.map (esl D.i)))), (142, .d (.int .i64 (a1.fCosts.length : Int))), (143, .d (.int .i64 x.1))]) (fun x => [.row [.d (.sl (a1.fCosts.map (esl D.i))), .d (.sl (a1.fRoom.map D.i)), .d (.int .i64 a1.fPenalty)], .row [.d (.int .u8 a2.e0), .d (.int .u8 a2.e1)], .row [.d (.sl (a1.fCosts.map (esl D.i))), .hs 4 0 v14.length 1, .d (.int .i64 a1.fPenalty)], .dead, .lst (v14.map D.i) 3 1, .row [.hs 7 0 v16.length 1, .d (.sl (a1.fRoom.map D.i)), .d (.int .i64 v15)], .dead, .ob (nlO 3 23 v16.length (nlD D.i s33)), .dead, .dead, .row [.hs 14 0 x.2.length 1, .hs 13 0 v35.length 1, .d (.int .i64 a1.fPenalty)], .dead, .dead, .lst (v35.map D.i) 3 1, .lst (x.2.map (esl D.i)) 23 1]) hI1 (WOK.g0 hw0 (by simp)) ⟨[0, 1, 2, 3, 4, 5, 6, 7, 8, 9, 10, 11, 12, 13, 14], rfl, rfl, rfl, ⟨(.d rfl), .fn0, (.d rfl), (.ptr rfl), (.ptr rfl), (.ptr rfl), (.d rfl), (.d rfl), (.d rfl), trivial⟩, trivial, (.row rfl (.cons (.d rfl) (.cons (.d rfl) (.cons (.d rfl) .nil))) (.row rfl (.cons (.d rfl) (.cons (.d rfl) .nil)) (.row rfl (.cons (.d rfl) (.cons (.hs rfl rfl) (.cons (.d rfl) .nil))) (.dead (.lst rfl (.row rfl (.cons (.hs rfl rfl) (.cons (.d rfl) (.cons (.d rfl) .nil))) (.dead (.ob rfl obR_nl (.dead (.dead (.row rfl (.cons (.hs rfl rfl) (.cons (.hs rfl rfl) (.cons (.d rfl) .nil))) (.dead (.dead (.lst rfl (.lst rfl .nil)))))))))))))))⟩ ?_
      rintro n1 ⟨s36, s37⟩ hI1
      obtain ⟨y_1, hm, hI1⟩ := iterS hI1
      replace hm : m_law56_RouteMore_L1 n _ _ s36 s37 = some y_1 := hm
      unfold m_law56_RouteMore_L1 at hm
      try dsimp only at hm
      refine AW.seqR ?_
      refine AL.s rfl (op_lss (.r rfl) (.r rfl)) ?_
      refine AL.nil ?_
      refine AW.seq ?_
      refine AW.cond (b := _) rfl (fun hc3 => ?_) (fun hc3 => ?_)
      · replace hm := iteT hc3 hm
        refine AW.skip ?_
        refine nq ?_
        refine AW.seq ?_
        refine AW.block ?_
        refine AW.seqR ?_
        refine AL.s rfl (op_moveD (.e rfl)) ?_
        obtain ⟨v38, hv38, hm⟩ := bindE hm
        refine AL.s rfl (op_indexAddrM (f := (esl D.i)) (.r rfl) (.r rfl) hv38 En.sl sl22) ?_
        refine AL.s rfl (op_load_vp1 (.e rfl) rfl sc23) ?_
        refine AL.s rfl (op_assignD (.e rfl)) ?_
        refine AL.s rfl (op_assignD (.e rfl)) ?_
        refine AL.nil ?_
        refine AW.seqR ?_
        refine AL.s rfl (op_assignD (.e rfl)) ?_
        refine AL.nil ?_
        obtain ⟨t_j2, hm, hkj2⟩ := bindE hm
        refine AW.cutS (α := Int) 0 (fun x => x = t_j2) (fun x => [(2, .d (.sl (a3.map D.i))), (7, .fn (.func 21) []), (8, .d (.int .i64 v7)), (11, .ptr 2 0), (12, .ptr 5 0), (13, .ptr 10 0), (15, .d (.sl (v38.map D.i))), (16, .d (.int .i64 x)), (141, .d (.sl (a1.fCosts.map (esl D.i)))), (142, .d (.int .i64 (a1.fCosts.length : Int))), (143, .d (.int .i64 s36))]) (fun x => [.row [.d (.sl (a1.fCosts.map (esl D.i))), .d (.sl (a1.fRoom.map D.i)), .d (.int .i64 a1.fPenalty)], .row [.d (.int .u8 a2.e0), .d (.int .u8 a2.e1)], .row [.d (.sl (a1.fCosts.map (esl D.i))), .hs 4 0 v14.length 1, .d (.int .i64 a1.fPenalty)], .dead, .lst (v14.map D.i) 3 1, .row [.hs 7 0 v16.length 1, .d (.sl (a1.fRoom.map D.i)), .d (.int .i64 v15)], .dead, .ob (nlO 3 23 v16.length (nlD D.i s33)), .dead, .dead, .row [.hs 14 0 s37.length 1, .hs 13 0 v35.length 1, .d (.int .i64 a1.fPenalty)], .dead, .dead, .lst (v35.map D.i) 3 1, .lst (s37.map (esl D.i)) 23 1]) (WOK.g0 hw0 (by simp)) ?_ ?_
        · skip
          refine AW.seqR ?_
          refine AL.s rfl (op_moveD (.e rfl)) ?_
          refine AL.s rfl (op_moveD (.e rfl)) ?_
          refine AL.s rfl (op_lenM (f := D.i) (.r rfl) sl23) ?_
          refine AL.s rfl (op_lss (.r rfl) (.r rfl)) ?_
          refine AL.nil ?_
          refine AW.cond (b := _) rfl (fun hc4 => ?_) (fun hc4 => ?_)
          · replace hm := iteT hc4 hm
            refine AW.region ?_
            refine AL.s rfl (op_moveD (.e rfl)) ?_
            refine AL.s rfl (op_moveD (.e rfl)) ?_
            obtain ⟨v39, hv39, hm⟩ := bindE hm
            refine AL.s rfl (op_indexAddrM (f := D.i) (.r rfl) (.r rfl) hv39 En.i sl23) ?_
            refine AL.s rfl (op_load_vp1 (.e rfl) rfl sc3) ?_
            refine AL.s rfl (op_min (.r rfl) (.r rfl)) ?_
            refine AL.s rfl (op_max (.r rfl) (.r rfl)) ?_
            refine AL.s rfl (op_assignD (.e rfl)) ?_
            refine AL.nil ?_
            obtain rfl := Option.some.inj hm
            exact nq ⟨_, rfl, ⟨[0, 1, 2, 3, 4, 5, 6, 7, 8, 9, 10, 11, 12, 13, 14], rfl, rfl, rfl, ⟨(.d rfl), .fn0, (.d rfl), (.ptr rfl), (.ptr rfl), (.ptr rfl), (.d rfl), (.d rfl), (.d rfl), (.d rfl), (.d rfl), trivial⟩, trivial, (.row rfl (.cons (.d rfl) (.cons (.d rfl) (.cons (.d rfl) .nil))) (.row rfl (.cons (.d rfl) (.cons (.d rfl) .nil)) (.row rfl (.cons (.d rfl) (.cons (.hs rfl rfl) (.cons (.d rfl) .nil))) (.dead (.lst rfl (.row rfl (.cons (.hs rfl rfl) (.cons (.d rfl) (.cons (.d rfl) .nil))) (.dead (.ob rfl obR_nl (.dead (.dead (.row rfl (.cons (.hs rfl rfl) (.cons (.hs rfl rfl) (.cons (.d rfl) .nil))) (.dead (.dead (.lst rfl (.lst rfl .nil)))))))))))))))⟩⟩
          · replace hm := iteF hc4 hm
            refine AW.skip ?_
            obtain rfl := Option.some.inj hm
            exact nq ⟨_, rfl, ⟨[0, 1, 2, 3, 4, 5, 6, 7, 8, 9, 10, 11, 12, 13, 14], rfl, rfl, rfl, ⟨(.d rfl), .fn0, (.d rfl), (.ptr rfl), (.ptr rfl), (.ptr rfl), (.d rfl), (.d rfl), (.d rfl), (.d rfl), (.d rfl), trivial⟩, trivial, (.row rfl (.cons (.d rfl) (.cons (.d rfl) (.cons (.d rfl) .nil))) (.row rfl (.cons (.d rfl) (.cons (.d rfl) .nil)) (.row rfl (.cons (.d rfl) (.cons (.hs rfl rfl) (.cons (.d rfl) .nil))) (.dead (.lst rfl (.row rfl (.cons (.hs rfl rfl) (.cons (.d rfl) (.cons (.d rfl) .nil))) (.dead (.ob rfl obR_nl (.dead (.dead (.row rfl (.cons (.hs rfl rfl) (.cons (.hs rfl rfl) (.cons (.d rfl) .nil))) (.dead (.dead (.lst rfl (.lst rfl .nil)))))))))))))))⟩⟩
        · rintro s40 rfl
          replace hm := hkj2
          try dsimp only at hm
          refine AW.reset 0 [(2, .d (.sl (a3.map D.i))), (7, .fn (.func 21) []), (8, .d (.int .i64 v7)), (11, .ptr 2 0), (12, .ptr 5 0), (13, .ptr 10 0), (15, .d (.sl (v38.map D.i))), (16, .d (.int .i64 s40)), (141, .d (.sl (a1.fCosts.map (esl D.i)))), (142, .d (.int .i64 (a1.fCosts.length : Int))), (143, .d (.int .i64 s36))] [.row [.d (.sl (a1.fCosts.map (esl D.i))), .d (.sl (a1.fRoom.map D.i)), .d (.int .i64 a1.fPenalty)], .row [.d (.int .u8 a2.e0), .d (.int .u8 a2.e1)], .row [.d (.sl (a1.fCosts.map (esl D.i))), .hs 4 0 v14.length 1, .d (.int .i64 a1.fPenalty)], .dead, .lst (v14.map D.i) 3 1, .row [.hs 7 0 v16.length 1, .d (.sl (a1.fRoom.map D.i)), .d (.int .i64 v15)], .dead, .ob (nlO 3 23 v16.length (nlD D.i s33)), .dead, .dead, .row [.hs 14 0 s37.length 1, .hs 13 0 v35.length 1, .d (.int .i64 a1.fPenalty)], .dead, .dead, .lst (v35.map D.i) 3 1, .lst (s37.map (esl D.i)) 23 1] (WOK.g0 hw0 (by simp)) ⟨[0, 1, 2, 3, 4, 5, 6, 7, 8, 9, 10, 11, 12, 13, 14], rfl, rfl, rfl, ⟨(.d rfl), .fn0, (.d rfl), (.ptr rfl), (.ptr rfl), (.ptr rfl), (.d rfl), (.d rfl), (.d rfl), (.d rfl), (.d rfl), trivial⟩, trivial, (.row rfl (.cons (.d rfl) (.cons (.d rfl) (.cons (.d rfl) .nil))) (.row rfl (.cons (.d rfl) (.cons (.d rfl) .nil)) (.row rfl (.cons (.d rfl) (.cons (.hs rfl rfl) (.cons (.d rfl) .nil))) (.dead (.lst rfl (.row rfl (.cons (.hs rfl rfl) (.cons (.d rfl) (.cons (.d rfl) .nil))) (.dead (.ob rfl obR_nl (.dead (.dead (.row rfl (.cons (.hs rfl rfl) (.cons (.hs rfl rfl) (.cons (.d rfl) .nil))) (.dead (.dead (.lst rfl (.lst rfl .nil)))))))))))))))⟩ ?_
          refine AW.free ?_
          refine AW.free ?_
          refine AW.free ?_
          refine AW.free ?_
          refine AW.drawn [([], []), ([10], []), ([], []), ([], []), ([], [15]), ([], []), ([], []), ([15], [15]), ([], []), ([14], [14, 16]), ([], []), ([10], [10])] mo (by decide +kernel) ?_
          refine AD.s (ws := []) rfl rfl (fun H' _ hH => op_field_ptr (.e rfl) fd25_0) ?_
          refine AD.s (ws := []) rfl rfl (fun H' _ hH => op_load_ptr1 (.e rfl) ((hH _ (by simp)).trans rfl) rfl sc22) ?_
          refine AD.s (ws := []) rfl rfl (fun H' _ hH => op_buildSlice (ds := ([] : List Int).map D.i) sl23 .nil rfl (by decide)) ?_
          refine AD.s (ws := []) rfl rfl (fun H' _ hH => op_moveD (.e rfl)) ?_
          obtain ⟨v41, hv41, hm⟩ := bindE hm
          refine AD.s (ws := [(15, _)]) rfl rfl (fun H' _ hH => op_appendERM (res := 15) (f := D.i) (l := ([] : List Int)) (l' := v38) sl23 (.e rfl) (.r rfl) ((hH _ (by simp)).trans rfl) En.i hv41) ?_
          refine AD.s (ws := []) rfl rfl (fun H' _ hH => op_moveD (.e rfl)) ?_
          refine AD.s (ws := []) rfl rfl (fun H' _ hH => op_buildSlice (ds := ([s40] : List Int).map D.i) sl23 (.cons (.r rfl) rfl (En.i.one _) .nil) rfl (by decide)) ?_
          obtain ⟨v42, hv42, hm⟩ := bindE hm
          refine AD.s (ws := [(15, _)]) rfl rfl (fun H' _ hH => op_appendM (f := D.i) (l' := ([s40] : List Int)) sl23 (.e rfl) (.r rfl) ((hH _ (by simp)).trans rfl) rfl En.i hv42) ?_
          refine AD.s (ws := []) rfl rfl (fun H' _ hH => op_buildSlice (ds := ([v42] : List (List Int)).map (esl D.i)) sl22 (.cons (.r rfl) rfl (En.sl.one _) .nil) rfl (by decide)) ?_
          obtain ⟨v43, hv43, hm⟩ := bindE hm
          refine AD.s (ws := [(14, _), (16, _)]) rfl rfl (fun H' _ hH => op_appendHRM (res := 16) (f := (esl D.i)) (l := s37) (l' := ([v42] : List (List Int))) sl22 (.e rfl) (.r rfl) ((hH _ (by simp)).trans rfl) rfl ((hH _ (by simp)).trans rfl) En.sl hv43) ?_
          refine AD.s (ws := []) rfl rfl (fun H' _ hH => op_field_ptr (.e rfl) fd25_0) ?_
          refine AD.s (ws := [(10, _)]) rfl rfl (fun H' _ hH => op_store (.e rfl) (.e rfl) ((hH _ (by simp)).trans rfl) rfl rfl ⟨_, rfl, rfl⟩ rfl (Nat.le_of_ble_eq_true rfl)) ?_
          refine AD.nil ?_
          refine bq_n ?_
          refine nq ?_
          refine AW.region ?_
          refine AL.s rfl (op_addw (.r rfl) (.r rfl)) ?_
          refine AL.s rfl (op_moveD (.e rfl)) ?_
          refine AL.nil ?_
          obtain rfl := Option.some.inj hm
          exact nq ⟨_, hI1, ⟨[0, 1, 2, 3, 4, 5, 6, 7, 8, 9, 10, 11, 12, 13, 16], rfl, rfl, rfl, ⟨(.d rfl), .fn0, (.d rfl), (.ptr rfl), (.ptr rfl), (.ptr rfl), (.d rfl), (.d rfl), (.d rfl), trivial⟩, trivial, (.row rfl (.cons (.d rfl) (.cons (.d rfl) (.cons (.d rfl) .nil))) (.row rfl (.cons (.d rfl) (.cons (.d rfl) .nil)) (.row rfl (.cons (.d rfl) (.cons (.hs rfl rfl) (.cons (.d rfl) .nil))) (.dead (.lst rfl (.row rfl (.cons (.hs rfl rfl) (.cons (.d rfl) (.cons (.d rfl) .nil))) (.dead (.ob rfl obR_nl (.dead (.dead (.row rfl (.cons (.hs rfl rfl) (.cons (.hs rfl rfl) (.cons (.d rfl) .nil))) (.dead (.dead (.lst rfl (.lst rfl .nil)))))))))))))))⟩⟩
      · replace hm := iteF hc3 hm
        refine AW.exit ?_
        refine tq_exit ?_
        refine tq_exit ?_
        obtain rfl := Option.some.inj hm
        obtain rfl := Option.some.inj hI1
        replace hm := hk1
        try dsimp only at hm
        refine bq_hit ?_
        refine nq ?_
        refine AW.seq ?_
        refine AW.freezeC (f := D.i) (l := v14) 4 [] 2 1 rfl rfl En.i trivial rfl rfl ?_
        refine AW.freezeNlC (f := D.i) (M := s33) 7 [] 5 0 rfl (fun _ => rfl) trivial rfl rfl ?_
        refine AW.freezeC (f := (esl D.i)) (l := s37) 14 [] 10 0 rfl rfl En.sl trivial rfl rfl ?_
        refine AW.freezeC (f := D.i) (l := v35) 13 [] 10 1 rfl rfl En.i trivial rfl rfl ?_
        refine AW.seqR ?_
        refine AL.s rfl (op_load_ptrA (.e rfl) rfl rfl rfl ag25) ?_
        refine AL.s rfl (op_load_ptrA (.e rfl) rfl rfl rfl ag25) ?_
        refine AL.s rfl (op_load_ptrA (.e rfl) rfl rfl rfl ag25) ?_
        refine AL.s rfl (op_buildSlice (ds := ([(⟨a1.fCosts, v14, a1.fPenalty⟩ : SProblem), (⟨(s33.map Prod.snd), a1.fRoom, v15⟩ : SProblem), (⟨s37, v35, a1.fPenalty⟩ : SProblem)] : List SProblem).map SProblem.e) sl49 (.cons (.r rfl) rfl (enSProblem.one _) (.cons (.r rfl) rfl (enSProblem.one _) (.cons (.r rfl) rfl (enSProblem.one _) .nil))) rfl (by decide)) ?_
        refine AL.s rfl (op_lenM (f := SProblem.e) (.r rfl) sl49) ?_
        refine AL.s rfl (op_moveD (.e rfl)) ?_
        refine AL.nil ?_
        refine AW.block ?_
        obtain ⟨t_2, hI2, hk2⟩ := bindE hm
        refine AW.loopS (σ := Int) (τ := (Bool ⊕ Unit)) 0 (fun x => [(7, .fn (.func 21) []), (8, .d (.int .i64 v7)), (173, .ex (([(⟨a1.fCosts, v14, a1.fPenalty⟩ : SProblem), (⟨(s33.map Prod.snd), a1.fRoom, v15⟩ : SProblem), (⟨s37, v35, a1.fPenalty⟩ : SProblem)] : List SProblem).map SProblem.e)), (174, .d (.int .i64 (([(⟨a1.fCosts, v14, a1.fPenalty⟩ : SProblem), (⟨(s33.map Prod.snd), a1.fRoom, v15⟩ : SProblem), (⟨s37, v35, a1.fPenalty⟩ : SProblem)] : List SProblem).length : Int))), (175, .d (.int .i64 x))]) (fun x => [.row [.d (.sl (a1.fCosts.map (esl D.i))), .d (.sl (a1.fRoom.map D.i)), .d (.int .i64 a1.fPenalty)], .row [.d (.int .u8 a2.e0), .d (.int .u8 a2.e1)], .row [.d (.sl (a1.fCosts.map (esl D.i))), .d (.sl (v14.map D.i)), .d (.int .i64 a1.fPenalty)], .dead, .dead, .row [.d (.sl ((s33.map Prod.snd).map (esl D.i))), .d (.sl (a1.fRoom.map D.i)), .d (.int .i64 v15)], .dead, .dead, .dead, .dead, .row [.d (.sl (s37.map (esl D.i))), .d (.sl (v35.map D.i)), .d (.int .i64 a1.fPenalty)], .dead, .dead, .dead, .dead]) hI2 (WOK.g0 hw0 (by simp)) ⟨[0, 1, 2, 3, 4, 5, 6, 7, 8, 9, 10, 11, 12, 13, 14], rfl, rfl, rfl, ⟨.fn0, (.d rfl), .ex, (.d rfl), (.d rfl), trivial⟩, trivial, (.row rfl (.cons (.d rfl) (.cons (.d rfl) (.cons (.d rfl) .nil))) (.row rfl (.cons (.d rfl) (.cons (.d rfl) .nil)) (.row rfl (.cons (.d rfl) (.cons (.d rfl) (.cons (.d rfl) .nil))) (.dead (.dead (.row rfl (.cons (.d rfl) (.cons (.d rfl) (.cons (.d rfl) .nil))) (.dead (.dead (.dead (.dead (.row rfl (.cons (.d rfl) (.cons (.d rfl) (.cons (.d rfl) .nil))) (.dead (.dead (.dead (.dead .nil)))))))))))))))⟩ ?_
        rintro n2 s44 hI2
        obtain ⟨y_2, hm, hI2⟩ := iterS hI2
        replace hm : m_law56_RouteMore_L2 n _ _ _ _ _ _ _ s44 = some y_2 := hm
        unfold m_law56_RouteMore_L2 at hm
        try dsimp only at hm
        refine AW.seqR ?_
        refine AL.s rfl (op_lss (.r rfl) (.r rfl)) ?_
        refine AL.nil ?_
        refine AW.seq ?_
        refine AW.cond (b := _) rfl (fun hc5 => ?_) (fun hc5 => ?_)
        · replace hm := iteT hc5 hm
          refine AW.skip ?_
          refine nq ?_
          refine AW.seq ?_
          refine AW.block ?_
          refine AW.seqR ?_
          obtain ⟨v45, hv45, hm⟩ := bindE hm
          refine AL.s rfl (op_indexAddrM (f := SProblem.e) (.r rfl) (.r rfl) hv45 enSProblem sl49) ?_
          refine AL.s rfl (op_loadA (.e rfl) rfl ag25) ?_
          refine AL.s rfl (op_alloc (n := 15) zr25 rfl) ?_
          refine AL.s rfl (op_store (.e rfl) (.e rfl) rfl rfl rfl ⟨_, rfl, rfl⟩ rfl (Nat.le_of_ble_eq_true rfl)) ?_
          refine AL.nil ?_
          refine AW.seqR ?_
          refine AL.s rfl (op_moveF (.e rfl)) ?_
          refine AL.s rfl (op_load_ptrA (.e rfl) rfl rfl rfl ag25) ?_
          obtain ⟨v46, hv46, hm⟩ := bindE hm
          refine AL.s rfl (op_fn Try.call21 (.e rfl) (.cons (.r rfl) .nil) (m_law56_RouteMore_1_ok hv46)) ?_
          refine AL.s rfl (op_assignD (.e rfl)) ?_
          refine AL.nil ?_
          refine AW.seqR ?_
          refine AL.s rfl (op_moveD (.e rfl)) ?_
          refine AL.s rfl (op_lss (.r rfl) (.r rfl)) ?_
          refine AL.s rfl (op_moveD (.e rfl)) ?_
          refine AL.sF rfl rfl rfl rfl (fun g => op_moveD (.e rfl)) ?_
          refine AL.sF rfl rfl rfl rfl (fun g => op_moveD (.e rfl)) ?_
          refine AL.sF rfl rfl rfl rfl (fun g => op_gtr (.we (nt g) rfl rfl) (.we (nt g) rfl rfl)) ?_
          refine AL.s rfl (op_or (.r rfl) rfl (fun h => (.we (nt h) rfl rfl))) ?_
          refine AL.nil ?_
          refine AW.cond (b := _) rfl (fun hc6 => ?_) (fun hc6 => ?_)
          · replace hm := iteT hc6 hm
            refine AW.seqR ?_
            refine AL.s rfl (op_assignD (.e rfl)) ?_
            refine AL.nil ?_
            refine AW.ret ?_
            refine bq_ret ?_
            refine tq_ret ?_
            refine tq_ret ?_
            obtain rfl := Option.some.inj hm
            obtain rfl := Option.some.inj hI2
            replace hm := hk2
            try dsimp only at hm
            refine bq_ret ?_
            refine tq_ret ?_
            obtain rfl := Option.some.inj hm
            exact EndQ.d (.tmp (.e rfl) .nil) rfl rfl
          · replace hm := iteF hc6 hm
            refine AW.skip ?_
            refine bq_n ?_
            refine nq ?_
            refine AW.region ?_
            refine AL.s rfl (op_addw (.r rfl) (.r rfl)) ?_
            refine AL.s rfl (op_moveD (.e rfl)) ?_
            refine AL.nil ?_
            obtain rfl := Option.some.inj hm
            exact nq ⟨_, hI2, ⟨[0, 1, 2, 3, 4, 5, 6, 7, 8, 9, 10, 11, 12, 13, 14], rfl, rfl, rfl, ⟨.fn0, (.d rfl), .ex, (.d rfl), (.d rfl), trivial⟩, trivial, (.row rfl (.cons (.d rfl) (.cons (.d rfl) (.cons (.d rfl) .nil))) (.row rfl (.cons (.d rfl) (.cons (.d rfl) .nil)) (.row rfl (.cons (.d rfl) (.cons (.d rfl) (.cons (.d rfl) .nil))) (.dead (.dead (.row rfl (.cons (.d rfl) (.cons (.d rfl) (.cons (.d rfl) .nil))) (.dead (.dead (.dead (.dead (.row rfl (.cons (.d rfl) (.cons (.d rfl) (.cons (.d rfl) .nil))) (.dead (.dead (.dead (.dead .nil)))))))))))))))⟩⟩
        · replace hm := iteF hc5 hm
          refine AW.exit ?_
          refine tq_exit ?_
          refine tq_exit ?_
          obtain rfl := Option.some.inj hm
          obtain rfl := Option.some.inj hI2
          replace hm := hk2
          try dsimp only at hm
          refine bq_hit ?_
          refine nq ?_
          refine AW.seqR ?_
          refine AL.s rfl (op_moveD (.e rfl)) ?_
          refine AL.s rfl (op_geq (.r rfl) (.r rfl)) ?_
          refine AL.s rfl (op_assignD (.e rfl)) ?_
          refine AL.nil ?_
          refine AW.ret ?_
          obtain rfl := Option.some.inj hm
          exact EndQ.d (.tmp (.e rfl) .nil) rfl rfl

end Go.Proofs.Ythjinjinnklkgaa.Ab
