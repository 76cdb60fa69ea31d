/- The functions do what they are in plain Lean. Conditions: none. -/
import Derived.Test.YteocmikmbiimcaaTy
import Derived.Test.YteocmikmbiimcaaMi
set_option maxRecDepth 100000
namespace Go.Proofs.Yteocmikmbiimcaa.Ab
open Go
attribute [local irreducible] AL AD AW

set_option maxHeartbeats 20000000 in
theorem m_request_in_ok {n : Nat} {a1 : Int} {a2 : Int} {a3 : Int} {r : Bool} (hm : m_request_in n a1 a2 a3 = some r) : Fn Try.prog 9 [(.int .i64 a1), (.int .i64 a2), (.int .i64 a3)] (.bool r) := by
  unfold m_request_in at hm
  refine Fn.of_AW (fnn := Try.f9) Try.func9 rfl (Nat.le_of_ble_eq_true rfl) (fun g0 w0 hw0 => ?_)
  refine AW.seqR ?_
  refine AL.s rfl (op_assignD (.e rfl)) ?_
  refine AL.nil ?_
  refine AW.seqR ?_
  refine AL.s rfl (op_moveD (.e rfl)) ?_
  refine AL.s rfl (op_moveD (.e rfl)) ?_
  refine AL.s rfl (op_geq (.r rfl) (.r rfl)) ?_
  refine AL.s rfl (op_moveD (.e rfl)) ?_
  refine AL.sT rfl rfl rfl rfl (fun g => op_moveD (.e rfl)) ?_
  refine AL.sT rfl rfl rfl rfl (fun g => op_moveD (.e rfl)) ?_
  refine AL.sT rfl rfl rfl rfl (fun g => op_leq (.we g rfl rfl) (.we g rfl rfl)) ?_
  refine AL.s rfl (op_and (.r rfl) (fun h => (.we h rfl rfl)) rfl) ?_
  refine AL.s rfl (op_assignD (.e rfl)) ?_
  refine AL.nil ?_
  refine AW.ret ?_
  obtain rfl := Option.some.inj hm
  exact EndQ.d (.tmp (.e rfl) .nil) rfl rfl

set_option maxHeartbeats 20000000 in
theorem m_request_Name_1_ok {n : Nat} {a1 : Int} {r : Bool} (hm : m_request_Name_1 n a1 = some r) : Fn Try.prog 28 [(.int .u8 a1)] (.bool r) := by
  unfold m_request_Name_1 at hm
  refine Fn.of_AW (fnn := Try.f28) Try.func28 rfl (Nat.le_of_ble_eq_true rfl) (fun g0 w0 hw0 => ?_)
  refine AW.seqR ?_
  refine AL.s rfl (op_assignD (.e rfl)) ?_
  refine AL.nil ?_
  refine AW.seqR ?_
  refine AL.s rfl (op_moveD (.e rfl)) ?_
  refine AL.s rfl (op_geq (.r rfl) (.r rfl)) ?_
  refine AL.s rfl (op_moveD (.e rfl)) ?_
  refine AL.sT rfl rfl rfl rfl (fun g => op_moveD (.e rfl)) ?_
  refine AL.sT rfl rfl rfl rfl (fun g => op_leq (.we g rfl rfl) (.r rfl)) ?_
  refine AL.s rfl (op_and (.r rfl) (fun h => (.we h rfl rfl)) rfl) ?_
  refine AL.s rfl (op_assignD (.e rfl)) ?_
  refine AL.nil ?_
  refine AW.ret ?_
  obtain rfl := Option.some.inj hm
  exact EndQ.d (.tmp (.e rfl) .nil) rfl rfl

set_option maxHeartbeats 20000000 in
theorem m_slices_IndexFunc_byte_byte_ok {n : Nat} {H : List HE} {a1 : (List Int)} {p2 : Int → Option Bool} {r : Int} {ff_p2 : FuncId} {caps_p2 : List V} (hff_p2 : ∀ (a : Array Value) (w : World), (callFunc ff_p2 a).run Try.prog w = .ok (.enter ff_p2 a) w) (hF_p2 : ∀ (y1 : Int) (b : Bool), p2 y1 = some b → ACall Try.prog ff_p2 (.d (.int .u8 y1) :: caps_p2) H fun r' H' => r' = .d (.bool b) ∧ H' = H) (hm : m_slices_IndexFunc_byte_byte n a1 p2 = some r) : ACall Try.prog 46 [.d (.sl (a1.map (D.int .u8))), .fn (.func ff_p2) caps_p2] H fun r' H' => r' = .d (.int .i64 r) ∧ H' = H := by
  unfold m_slices_IndexFunc_byte_byte at hm
  refine ACall.of_AW (fnn := Try.f46) Try.func46 rfl (Nat.le_of_ble_eq_true rfl) (fun g0 w0 hw0 => ?_)
  refine AW.seqR ?_
  refine AL.s rfl (op_assignD (.e rfl)) ?_
  refine AL.nil ?_
  refine AW.seq ?_
  refine AW.seqR ?_
  refine AL.s rfl (op_moveD (.e rfl)) ?_
  refine AL.s rfl (op_lenM (f := (D.int .u8)) (.r rfl) sl70) ?_
  refine AL.s rfl (op_moveD (.e rfl)) ?_
  refine AL.nil ?_
  refine AW.block ?_
  obtain ⟨t_1, hI1, hk1⟩ := bindE hm
  refine AW.loopN (σ := Int) (τ := (Int ⊕ Unit)) [0, 1, 7] (fun x => [(8, .d (.int .i64 x))]) hI1 ⟨by first | exact .of rfl | exact .d rfl, trivial⟩ ?_
  rintro n1 s3 hI1
  obtain ⟨y_1, hm, hI1⟩ := iterS hI1
  replace hm : m_slices_IndexFunc_byte_byte_L1 n _ _ s3 = some y_1 := hm
  unfold m_slices_IndexFunc_byte_byte_L1 at hm
  try dsimp only at hm
  refine AW.seqR ?_
  refine AL.s rfl (op_lss (.r rfl) (.r rfl)) ?_
  refine AL.nil ?_
  refine AW.seq ?_
  refine AW.cond (b := _) rfl (fun hc1 => ?_) (fun hc1 => ?_)
  · replace hm := iteT hc1 hm
    refine AW.skip ?_
    refine nq ?_
    refine AW.seq ?_
    refine AW.block ?_
    refine AW.seqR ?_
    refine AL.s rfl (op_moveD (.e rfl)) ?_
    refine AL.s rfl (op_assignD (.e rfl)) ?_
    refine AL.nil ?_
    refine AW.seqR ?_
    refine AL.s rfl (op_moveF (.e rfl)) ?_
    refine AL.s rfl (op_moveD (.e rfl)) ?_
    refine AL.s rfl (op_moveD (.e rfl)) ?_
    obtain ⟨v4, hv4, hm⟩ := bindE hm
    refine AL.s rfl (op_indexAddrM (f := (D.int .u8)) (.r rfl) (.r rfl) hv4 En.int sl70) ?_
    refine AL.s rfl (op_load_vp1 (.e rfl) rfl sc5) ?_
    obtain ⟨v5, hv5, hm⟩ := bindE hm
    refine AL.s rfl (op_call hff_p2 (.e rfl) (.cons (.e rfl) .nil) (hF_p2 _ _ hv5)) ?_
    refine AL.nil ?_
    refine AW.cond (b := _) rfl (fun hc2 => ?_) (fun hc2 => ?_)
    · replace hm := iteT hc2 hm
      refine AW.seqR ?_
      refine AL.s rfl (op_moveD (.e rfl)) ?_
      refine AL.s rfl (op_assignD (.e rfl)) ?_
      refine AL.nil ?_
      refine AW.ret ?_
      refine bq_ret ?_
      refine tq_ret ?_
      refine tq_ret ?_
      obtain rfl := Option.some.inj hm
      obtain rfl := Option.some.inj hI1
      replace hm := hk1
      try dsimp only at hm
      refine bq_ret ?_
      refine tq_ret ?_
      obtain rfl := Option.some.inj hm
      exact ⟨_, _, (.tmp (.e rfl) .nil), .d rfl, rfl, rfl⟩
    · replace hm := iteF hc2 hm
      refine AW.skip ?_
      refine bq_n ?_
      refine nq ?_
      refine AW.region ?_
      refine AL.s rfl (op_addw (.r rfl) (.r rfl)) ?_
      refine AL.s rfl (op_moveD (.e rfl)) ?_
      refine AL.nil ?_
      obtain rfl := Option.some.inj hm
      exact nq ⟨_, hI1, ⟨by first | exact .of rfl | exact .d rfl, trivial⟩, ⟨rfl, rfl, rfl, trivial⟩, rfl⟩
  · replace hm := iteF hc1 hm
    refine AW.exit ?_
    refine tq_exit ?_
    refine tq_exit ?_
    obtain rfl := Option.some.inj hm
    obtain rfl := Option.some.inj hI1
    replace hm := hk1
    try dsimp only at hm
    refine bq_hit ?_
    refine nq ?_
    refine AW.seqR ?_
    refine AL.s rfl (op_assignD (.e rfl)) ?_
    refine AL.nil ?_
    refine AW.ret ?_
    obtain rfl := Option.some.inj hm
    exact ⟨_, _, (.tmp (.e rfl) .nil), .d rfl, rfl, rfl⟩

set_option maxHeartbeats 20000000 in
theorem m_slices_ContainsFunc_byte_byte_ok {n : Nat} {H : List HE} {a1 : (List Int)} {p2 : Int → Option Bool} {r : Bool} {ff_p2 : FuncId} {caps_p2 : List V} (hff_p2 : ∀ (a : Array Value) (w : World), (callFunc ff_p2 a).run Try.prog w = .ok (.enter ff_p2 a) w) (hF_p2 : ∀ (y1 : Int) (b : Bool), p2 y1 = some b → ACall Try.prog ff_p2 (.d (.int .u8 y1) :: caps_p2) H fun r' H' => r' = .d (.bool b) ∧ H' = H) (hm : m_slices_ContainsFunc_byte_byte n a1 p2 = some r) : ACall Try.prog 30 [.d (.sl (a1.map (D.int .u8))), .fn (.func ff_p2) caps_p2] H fun r' H' => r' = .d (.bool r) ∧ H' = H := by
  unfold m_slices_ContainsFunc_byte_byte at hm
  refine ACall.of_AW (fnn := Try.f30) Try.func30 rfl (Nat.le_of_ble_eq_true rfl) (fun g0 w0 hw0 => ?_)
  refine AW.seqR ?_
  refine AL.s rfl (op_assignD (.e rfl)) ?_
  refine AL.nil ?_
  refine AW.seqR ?_
  refine AL.s rfl (op_moveD (.e rfl)) ?_
  refine AL.s rfl (op_moveF (.e rfl)) ?_
  obtain ⟨v3, hv3, hm⟩ := bindE hm
  refine AL.s rfl (op_call Try.call46 (.e rfl) (.cons (.e rfl) (.cons (.e rfl) .nil)) (m_slices_IndexFunc_byte_byte_ok hff_p2 hF_p2 hv3)) ?_
  refine AL.s rfl (op_geq (.r rfl) (.r rfl)) ?_
  refine AL.s rfl (op_assignD (.e rfl)) ?_
  refine AL.nil ?_
  refine AW.ret ?_
  obtain rfl := Option.some.inj hm
  exact ⟨_, _, (.tmp (.e rfl) .nil), .d rfl, rfl, rfl⟩

set_option maxHeartbeats 20000000 in
theorem m_request_Name_2_ok {n : Nat} {a1 : Int} {r : Bool} (hm : m_request_Name_2 n a1 = some r) : FnR Try.prog 29 [.d (.int .u8 a1), .ptr 0 0] [.row [.fn (.func 28) []]] (.bool r) := by
  unfold m_request_Name_2 at hm
  refine ACall.of_AW (fnn := Try.f29) Try.func29 rfl (Nat.le_of_ble_eq_true rfl) (fun g0 w0 hw0 => ?_)
  refine AW.seqR ?_
  refine AL.s rfl (op_assignD (.e rfl)) ?_
  refine AL.nil ?_
  refine AW.seqR ?_
  refine AL.s rfl (op_load_ptr1 (.e rfl) rfl rfl sc68) ?_
  refine AL.s rfl (op_moveD (.e rfl)) ?_
  obtain ⟨v2, hv2, hm⟩ := bindE hm
  refine AL.s rfl (op_fn Try.call28 (.e rfl) (.cons (.r rfl) .nil) (m_request_Name_1_ok hv2)) ?_
  refine AL.s rfl (op_not (.r rfl)) ?_
  refine AL.s rfl (op_moveD (.e rfl)) ?_
  refine AL.sT rfl rfl rfl rfl (fun g => op_moveD (.e rfl)) ?_
  refine AL.sT rfl rfl rfl rfl (fun g => op_lss (.we g rfl rfl) (.r rfl)) ?_
  refine AL.sT rfl rfl rfl rfl (fun g => op_moveD (.we g rfl)) ?_
  refine AL.sFF rfl rfl rfl rfl (fun gp g => op_moveD (.e rfl)) ?_
  refine AL.sFF rfl rfl rfl rfl (fun gp g => op_gtr (.we (an gp (nt g)) rfl rfl) (.r rfl)) ?_
  refine AL.sT rfl rfl rfl rfl (fun g => op_or (.we g rfl rfl) rfl (fun h => (.we (an g (nt h)) rfl rfl))) ?_
  refine AL.s rfl (op_and (.r rfl) (fun h => (.we h rfl rfl)) rfl) ?_
  refine AL.s rfl (op_moveD (.e rfl)) ?_
  refine AL.sT rfl rfl rfl rfl (fun g => op_moveD (.e rfl)) ?_
  refine AL.sT rfl rfl rfl rfl (fun g => op_neq (.we g rfl rfl) (.r rfl)) ?_
  refine AL.s rfl (op_and (.r rfl) (fun h => (.we h rfl rfl)) rfl) ?_
  refine AL.s rfl (op_assignD (.e rfl)) ?_
  refine AL.nil ?_
  refine AW.ret ?_
  obtain rfl := Option.some.inj hm
  exact ⟨_, _, (.tmp (.e rfl) .nil), .d rfl, rfl, rfl⟩

set_option maxHeartbeats 20000000 in
theorem m_request_Name_ok {n : Nat} {a1 : (List UInt8)} {r : Bool} (hm : m_request_Name n a1 = some r) : Fn Try.prog 10 [(.str a1)] (.bool r) := by
  unfold m_request_Name at hm
  refine Fn.of_AW (fnn := Try.f10) Try.func10 rfl (Nat.le_of_ble_eq_true rfl) (fun g0 w0 hw0 => ?_)
  refine AW.seqR ?_
  refine AL.s rfl (op_assignD (.e rfl)) ?_
  refine AL.nil ?_
  refine AW.seqR ?_
  refine AL.s rfl (op_alloc (n := 0) zr68 rfl) ?_
  refine AL.s rfl (op_store (.e rfl) (.e rfl) rfl rfl rfl ⟨_, rfl, rfl⟩ rfl (Nat.le_of_ble_eq_true rfl)) ?_
  refine AL.nil ?_
  refine AW.seqR ?_
  refine AL.s rfl (op_makeFunc (.cons (.e rfl) .nil)) ?_
  refine AL.s rfl (op_assignF (.e rfl)) ?_
  refine AL.nil ?_
  refine AW.seqD [([], []), ([], []), ([], []), ([], []), ([], []), ([], []), ([], []), ([], []), ([0], []), ([], []), ([], []), ([], []), ([], []), ([], []), ([], []), ([], []), ([], []), ([0], []), ([], []), ([], []), ([], [])] mo (by decide +kernel) ?_
  refine AD.s (ws := []) rfl rfl (fun H' _ hH => op_moveD (.e rfl)) ?_
  refine AD.s (ws := []) rfl rfl (fun H' _ hH => op_neqS (.r rfl) (.r rfl)) ?_
  refine AD.s (ws := []) rfl rfl (fun H' _ hH => op_moveD (.e rfl)) ?_
  refine AD.sT rfl rfl rfl rfl (fun g H' _ hH => op_moveD (.e rfl)) ?_
  refine AD.sT rfl rfl rfl rfl (fun g H' _ hH => op_lenS (.we g rfl rfl) Try.underlying9) ?_
  refine AD.sT rfl rfl rfl rfl (fun g H' _ hH => op_leq (.we g rfl rfl) (.r rfl)) ?_
  refine AD.s (ws := []) rfl rfl (fun H' _ hH => op_and (.r rfl) (fun h => (.we h rfl rfl)) rfl) ?_
  refine AD.s (ws := []) rfl rfl (fun H' _ hH => op_moveD (.e rfl)) ?_
  refine AD.sT rfl rfl rfl rfl (fun g H' _ hH => op_load_ptr1 (.e rfl) ((hH _ (by simp)).trans rfl) rfl sc68) ?_
  refine AD.sT rfl rfl rfl rfl (fun g H' _ hH => op_moveD (.e rfl)) ?_
  obtain ⟨v2, hv2, hm⟩ := bindE hm
  refine AD.sT rfl rfl rfl rfl (fun g H' _ hH => op_indexSM (.we g rfl rfl) (.r rfl) (iteT g hv2) Try.underlying9) ?_
  obtain ⟨v3, hv3, hm⟩ := bindE hm
  refine AD.sT rfl rfl rfl rfl (fun g H' _ hH => op_fn Try.call28 (.we g rfl) (.cons (.we g rfl rfl) .nil) (m_request_Name_1_ok (iteT g hv3))) ?_
  refine AD.s (ws := []) rfl rfl (fun H' _ hH => op_and (.r rfl) (fun h => (.we h rfl rfl)) rfl) ?_
  refine AD.s (ws := []) rfl rfl (fun H' _ hH => op_moveD (.e rfl)) ?_
  refine AD.sT rfl rfl rfl rfl (fun g H' _ hH => op_moveD (.e rfl)) ?_
  refine AD.sT rfl rfl rfl rfl (fun g H' _ hH => op_bytesM (.we g rfl rfl) Try.underlying9 Try.underlying70 Try.underlying5) ?_
  refine AD.sT rfl rfl rfl rfl (fun g H' _ hH => op_moveF (.e rfl)) ?_
  obtain ⟨v4, hv4, hm⟩ := bindE hm
  refine AD.sT rfl rfl rfl rfl (fun g H' _ hH => op_call Try.call30 (.e rfl) (.cons (.we g rfl) (.cons (.we g rfl) .nil)) (m_slices_ContainsFunc_byte_byte_ok Try.call29 (fun _ _ hb => FnR.at [0] (m_request_Name_2_ok hb) (.cons ((hH _ (by simp)).trans rfl) rfl .nil) (.cons (.d _) (.cons (.ptr rfl) .nil)) rfl) (iteT g hv4))) ?_
  refine AD.sT rfl rfl rfl rfl (fun g H' _ hH => op_not (.we g rfl rfl)) ?_
  refine AD.s (ws := []) rfl rfl (fun H' _ hH => op_and (.r rfl) (fun h => (.we h rfl rfl)) rfl) ?_
  refine AD.s (ws := []) rfl rfl (fun H' _ hH => op_assignD (.e rfl)) ?_
  refine AD.nil ?_
  refine AW.ret ?_
  obtain rfl := Option.some.inj hm
  exact EndQ.d (.tmp (.e rfl) .nil) rfl rfl

set_option maxHeartbeats 20000000 in
theorem m_request_New_ok {n : Nat} {a1 : Int} {a2 : Int} {a3 : (List UInt8)} {a4 : Int} {r : (SRequest × Int)} (hm : m_request_New n a1 a2 a3 a4 = some r) : Fn Try.prog 4 [(.int .i64 a1), (.int .i64 a2), (.str a3), (.int .i64 a4)] (.tup [(SRequest.e r.1), (.int .i64 r.2)]) := by
  unfold m_request_New at hm
  refine Fn.of_AW (fnn := Try.f4) Try.func4 rfl (Nat.le_of_ble_eq_true rfl) (fun g0 w0 hw0 => ?_)
  refine AW.seqR ?_
  refine AL.s rfl (op_alloc (n := 0) zr26 rfl) ?_
  refine AL.s rfl (op_assignD (.e rfl)) ?_
  refine AL.nil ?_
  refine AW.seq ?_
  refine AW.block ?_
  refine AW.seqR ?_
  refine AL.s rfl (op_moveD (.e rfl)) ?_
  obtain ⟨v5, hv5, hm⟩ := bindE hm
  refine AL.s rfl (op_fn Try.call9 (.e rfl) (.cons (.r rfl) (.cons (.r rfl) (.cons (.r rfl) .nil))) (m_request_in_ok hv5)) ?_
  refine AL.s rfl (op_not (.r rfl)) ?_
  refine AL.s rfl (op_moveD (.e rfl)) ?_
  refine AL.sF rfl rfl rfl rfl (fun g => op_moveD (.e rfl)) ?_
  obtain ⟨v6, hv6, hm⟩ := bindE hm
  refine AL.sF rfl rfl rfl rfl (fun g => op_fn Try.call9 (.e rfl) (.cons (.we (nt g) rfl rfl) (.cons (.r rfl) (.cons (.r rfl) .nil))) (m_request_in_ok (iteT (nt g) hv6))) ?_
  refine AL.sF rfl rfl rfl rfl (fun g => op_not (.we (nt g) rfl rfl)) ?_
  refine AL.s rfl (op_or (.r rfl) rfl (fun h => (.we (nt h) rfl rfl))) ?_
  refine AL.s rfl (op_assignD (.e rfl)) ?_
  refine AL.nil ?_
  refine AW.cond (b := _) rfl (fun hc1 => ?_) (fun hc1 => ?_)
  · replace hm := iteT hc1 hm
    refine AW.reset 0 [(8, .ptr 0 0)] [.row [.d (.int .i64 (0 : Int)), .d (.int .i64 (0 : Int)), .d (.str ([] : List UInt8)), .d (.int .i64 (0 : Int)), .d (.int .i64 (0 : Int)), .d (.str ([] : List UInt8)), .ex ([].map D.str), .d (.int .i64 (0 : Int)), .d (.int .i64 (0 : Int))]] (WOK.g0 hw0 (by simp)) ⟨[0], rfl, rfl, rfl, ⟨(.ptr rfl), trivial⟩, trivial, (.row rfl (.cons (.d rfl) (.cons (.d rfl) (.cons (.d rfl) (.cons (.d rfl) (.cons (.d rfl) (.cons (.d rfl) (.cons .ex (.cons (.d rfl) (.cons (.d rfl) .nil))))))))) .nil)⟩ ?_
    refine AW.seqR ?_
    refine AL.s rfl (op_build bd26 .nil) ?_
    refine AL.s rfl (op_storeA (.e rfl) (.e rfl) rfl rfl ⟨_, rfl, rfl⟩ rfl (Nat.le_of_ble_eq_true rfl)) ?_
    refine AL.s rfl (op_assignD (.e rfl)) ?_
    refine AL.nil ?_
    refine AW.ret ?_
    refine bq_ret ?_
    refine tq_ret ?_
    obtain rfl := Option.some.inj hm
    exact EndQ.d (.cellA (.e rfl) rfl rfl rfl ag26 (.tmp (.e rfl) .nil)) rfl rfl
  · replace hm := iteF hc1 hm
    refine AW.seqR ?_
    refine AL.s rfl (op_moveD (.e rfl)) ?_
    obtain ⟨v7, hv7, hm⟩ := bindE hm
    refine AL.s rfl (op_fn Try.call10 (.e rfl) (.cons (.r rfl) .nil) (m_request_Name_ok hv7)) ?_
    refine AL.s rfl (op_not (.r rfl)) ?_
    refine AL.s rfl (op_assignD (.e rfl)) ?_
    refine AL.nil ?_
    refine AW.cond (b := _) rfl (fun hc2 => ?_) (fun hc2 => ?_)
    · replace hm := iteT hc2 hm
      refine AW.seqR ?_
      refine AL.s rfl (op_build bd26 .nil) ?_
      refine AL.s rfl (op_storeA (.e rfl) (.e rfl) rfl rfl ⟨_, rfl, rfl⟩ rfl (Nat.le_of_ble_eq_true rfl)) ?_
      refine AL.s rfl (op_assignD (.e rfl)) ?_
      refine AL.nil ?_
      refine AW.ret ?_
      refine bq_ret ?_
      refine tq_ret ?_
      obtain rfl := Option.some.inj hm
      exact EndQ.d (.cellA (.e rfl) rfl rfl rfl ag26 (.tmp (.e rfl) .nil)) rfl rfl
    · replace hm := iteF hc2 hm
      refine AW.seqR ?_
      refine AL.s rfl (op_moveD (.e rfl)) ?_
      obtain ⟨v8, hv8, hm⟩ := bindE hm
      refine AL.s rfl (op_fn Try.call9 (.e rfl) (.cons (.r rfl) (.cons (.r rfl) (.cons (.r rfl) .nil))) (m_request_in_ok hv8)) ?_
      refine AL.s rfl (op_not (.r rfl)) ?_
      refine AL.s rfl (op_assignD (.e rfl)) ?_
      refine AL.nil ?_
      refine AW.cond (b := _) rfl (fun hc3 => ?_) (fun hc3 => ?_)
      · replace hm := iteT hc3 hm
        refine AW.seqR ?_
        refine AL.s rfl (op_build bd26 .nil) ?_
        refine AL.s rfl (op_storeA (.e rfl) (.e rfl) rfl rfl ⟨_, rfl, rfl⟩ rfl (Nat.le_of_ble_eq_true rfl)) ?_
        refine AL.s rfl (op_assignD (.e rfl)) ?_
        refine AL.nil ?_
        refine AW.ret ?_
        refine bq_ret ?_
        refine tq_ret ?_
        obtain rfl := Option.some.inj hm
        exact EndQ.d (.cellA (.e rfl) rfl rfl rfl ag26 (.tmp (.e rfl) .nil)) rfl rfl
      · replace hm := iteF hc3 hm
        refine AW.skip ?_
        refine bq_n ?_
        refine nq ?_
        refine AW.seqR ?_
        refine AL.s rfl (op_moveD (.e rfl)) ?_
        refine AL.s rfl (op_moveD (.e rfl)) ?_
        refine AL.s rfl (op_moveD (.e rfl)) ?_
        refine AL.s rfl (op_moveD (.e rfl)) ?_
        refine AL.s rfl (op_build bd26 (.cons (.e rfl) rfl rfl rfl rfl (Nat.le_of_ble_eq_true rfl) (.cons (.e rfl) rfl rfl rfl rfl (Nat.le_of_ble_eq_true rfl) (.cons (.e rfl) rfl rfl rfl rfl (Nat.le_of_ble_eq_true rfl) (.cons (.e rfl) rfl rfl rfl rfl (Nat.le_of_ble_eq_true rfl) (.cons (.e rfl) rfl rfl rfl rfl (Nat.le_of_ble_eq_true rfl) .nil)))))) ?_
        refine AL.s rfl (op_storeA (.e rfl) (.e rfl) rfl rfl ⟨_, rfl, rfl⟩ rfl (Nat.le_of_ble_eq_true rfl)) ?_
        refine AL.s rfl (op_assignD (.e rfl)) ?_
        refine AL.nil ?_
        refine AW.ret ?_
        obtain rfl := Option.some.inj hm
        exact EndQ.d (.cellA (.e rfl) rfl rfl rfl ag26 (.tmp (.e rfl) .nil)) rfl rfl

set_option maxHeartbeats 20000000 in
theorem m_route_in_ok {n : Nat} {a1 : Int} {a2 : Int} {a3 : Int} {r : Bool} (hm : m_route_in n a1 a2 a3 = some r) : Fn Try.prog 13 [(.int .i64 a1), (.int .i64 a2), (.int .i64 a3)] (.bool r) := by
  unfold m_route_in at hm
  refine Fn.of_AW (fnn := Try.f13) Try.func13 rfl (Nat.le_of_ble_eq_true rfl) (fun g0 w0 hw0 => ?_)
  refine AW.seqR ?_
  refine AL.s rfl (op_assignD (.e rfl)) ?_
  refine AL.nil ?_
  refine AW.seqR ?_
  refine AL.s rfl (op_moveD (.e rfl)) ?_
  refine AL.s rfl (op_moveD (.e rfl)) ?_
  refine AL.s rfl (op_geq (.r rfl) (.r rfl)) ?_
  refine AL.s rfl (op_moveD (.e rfl)) ?_
  refine AL.sT rfl rfl rfl rfl (fun g => op_moveD (.e rfl)) ?_
  refine AL.sT rfl rfl rfl rfl (fun g => op_moveD (.e rfl)) ?_
  refine AL.sT rfl rfl rfl rfl (fun g => op_leq (.we g rfl rfl) (.we g rfl rfl)) ?_
  refine AL.s rfl (op_and (.r rfl) (fun h => (.we h rfl rfl)) rfl) ?_
  refine AL.s rfl (op_assignD (.e rfl)) ?_
  refine AL.nil ?_
  refine AW.ret ?_
  obtain rfl := Option.some.inj hm
  exact EndQ.d (.tmp (.e rfl) .nil) rfl rfl

set_option maxHeartbeats 20000000 in
theorem m_route_place_ok {n : Nat} {a1 : A2} {r : Bool} (hm : m_route_place n a1 = some r) : Fn Try.prog 12 [(A2.e a1)] (.bool r) := by
  unfold m_route_place at hm
  refine Fn.of_AW (fnn := Try.f12) Try.func12 rfl (Nat.le_of_ble_eq_true rfl) (fun g0 w0 hw0 => ?_)
  refine AW.seqR ?_
  refine AL.s rfl (op_box (n := 0) (.e rfl) rfl rfl rfl) ?_
  refine AL.s rfl (op_assignD (.e rfl)) ?_
  refine AL.nil ?_
  refine AW.seqR ?_
  refine AL.s rfl (op_indexAddr_arr (i := 0) (.e rfl) (.r rfl) rfl (by decide) Try.underlying22 ⟨_, rfl, rfl⟩) ?_
  refine AL.s rfl (op_load_ptr1 (.e rfl) rfl rfl sc3) ?_
  obtain ⟨v2, hv2, hm⟩ := bindE hm
  refine AL.s rfl (op_fn Try.call13 (.e rfl) (.cons (.r rfl) (.cons (.r rfl) (.cons (.r rfl) .nil))) (m_route_in_ok hv2)) ?_
  refine AL.s rfl (op_moveD (.e rfl)) ?_
  refine AL.sT rfl rfl rfl rfl (fun g => op_indexAddr_arr (i := 1) (.e rfl) (.r rfl) rfl (by decide) Try.underlying22 ⟨_, rfl, rfl⟩) ?_
  refine AL.sT rfl rfl rfl rfl (fun g => op_load_ptr1 (.we g rfl) rfl rfl sc3) ?_
  obtain ⟨v3, hv3, hm⟩ := bindE hm
  refine AL.sT rfl rfl rfl rfl (fun g => op_fn Try.call13 (.e rfl) (.cons (.we g rfl rfl) (.cons (.r rfl) (.cons (.r rfl) .nil))) (m_route_in_ok (iteT g hv3))) ?_
  refine AL.s rfl (op_and (.r rfl) (fun h => (.we h rfl rfl)) rfl) ?_
  refine AL.s rfl (op_assignD (.e rfl)) ?_
  refine AL.nil ?_
  refine AW.ret ?_
  obtain rfl := Option.some.inj hm
  exact EndQ.d (.tmp (.e rfl) .nil) rfl rfl

set_option maxHeartbeats 20000000 in
theorem m_slices_IndexFunc_route_Lender_route_Lender_ok {n : Nat} {H : List HE} {a1 : (List SLender)} {p2 : SLender → Option Bool} {r : Int} {ff_p2 : FuncId} {caps_p2 : List V} (hff_p2 : ∀ (a : Array Value) (w : World), (callFunc ff_p2 a).run Try.prog w = .ok (.enter ff_p2 a) w) (hF_p2 : ∀ (y1 : SLender) (b : Bool), p2 y1 = some b → ACall Try.prog ff_p2 (.d (SLender.e y1) :: caps_p2) H fun r' H' => r' = .d (.bool b) ∧ H' = H) (hm : m_slices_IndexFunc_route_Lender_route_Lender n a1 p2 = some r) : ACall Try.prog 31 [.d (.sl (a1.map SLender.e)), .fn (.func ff_p2) caps_p2] H fun r' H' => r' = .d (.int .i64 r) ∧ H' = H := by
  unfold m_slices_IndexFunc_route_Lender_route_Lender at hm
  refine ACall.of_AW (fnn := Try.f31) Try.func31 rfl (Nat.le_of_ble_eq_true rfl) (fun g0 w0 hw0 => ?_)
  refine AW.seqR ?_
  refine AL.s rfl (op_assignD (.e rfl)) ?_
  refine AL.nil ?_
  refine AW.seq ?_
  refine AW.seqR ?_
  refine AL.s rfl (op_moveD (.e rfl)) ?_
  refine AL.s rfl (op_lenM (f := SLender.e) (.r rfl) sl30) ?_
  refine AL.s rfl (op_moveD (.e rfl)) ?_
  refine AL.nil ?_
  refine AW.block ?_
  obtain ⟨t_1, hI1, hk1⟩ := bindE hm
  refine AW.loopN (σ := Int) (τ := (Int ⊕ Unit)) [0, 1, 7] (fun x => [(8, .d (.int .i64 x))]) hI1 ⟨by first | exact .of rfl | exact .d rfl, trivial⟩ ?_
  rintro n1 s3 hI1
  obtain ⟨y_1, hm, hI1⟩ := iterS hI1
  replace hm : m_slices_IndexFunc_route_Lender_route_Lender_L1 n _ _ s3 = some y_1 := hm
  unfold m_slices_IndexFunc_route_Lender_route_Lender_L1 at hm
  try dsimp only at hm
  refine AW.seqR ?_
  refine AL.s rfl (op_lss (.r rfl) (.r rfl)) ?_
  refine AL.nil ?_
  refine AW.seq ?_
  refine AW.cond (b := _) rfl (fun hc1 => ?_) (fun hc1 => ?_)
  · replace hm := iteT hc1 hm
    refine AW.skip ?_
    refine nq ?_
    refine AW.seq ?_
    refine AW.block ?_
    refine AW.seqR ?_
    refine AL.s rfl (op_moveD (.e rfl)) ?_
    refine AL.s rfl (op_assignD (.e rfl)) ?_
    refine AL.nil ?_
    refine AW.seqR ?_
    refine AL.s rfl (op_moveF (.e rfl)) ?_
    refine AL.s rfl (op_moveD (.e rfl)) ?_
    refine AL.s rfl (op_moveD (.e rfl)) ?_
    obtain ⟨v4, hv4, hm⟩ := bindE hm
    refine AL.s rfl (op_indexAddrM (f := SLender.e) (.r rfl) (.r rfl) hv4 enSLender sl30) ?_
    refine AL.s rfl (op_loadA (.e rfl) rfl ag33) ?_
    obtain ⟨v5, hv5, hm⟩ := bindE hm
    refine AL.s rfl (op_call hff_p2 (.e rfl) (.cons (.e rfl) .nil) (hF_p2 _ _ hv5)) ?_
    refine AL.nil ?_
    refine AW.cond (b := _) rfl (fun hc2 => ?_) (fun hc2 => ?_)
    · replace hm := iteT hc2 hm
      refine AW.seqR ?_
      refine AL.s rfl (op_moveD (.e rfl)) ?_
      refine AL.s rfl (op_assignD (.e rfl)) ?_
      refine AL.nil ?_
      refine AW.ret ?_
      refine bq_ret ?_
      refine tq_ret ?_
      refine tq_ret ?_
      obtain rfl := Option.some.inj hm
      obtain rfl := Option.some.inj hI1
      replace hm := hk1
      try dsimp only at hm
      refine bq_ret ?_
      refine tq_ret ?_
      obtain rfl := Option.some.inj hm
      exact ⟨_, _, (.tmp (.e rfl) .nil), .d rfl, rfl, rfl⟩
    · replace hm := iteF hc2 hm
      refine AW.skip ?_
      refine bq_n ?_
      refine nq ?_
      refine AW.region ?_
      refine AL.s rfl (op_addw (.r rfl) (.r rfl)) ?_
      refine AL.s rfl (op_moveD (.e rfl)) ?_
      refine AL.nil ?_
      obtain rfl := Option.some.inj hm
      exact nq ⟨_, hI1, ⟨by first | exact .of rfl | exact .d rfl, trivial⟩, ⟨rfl, rfl, rfl, trivial⟩, rfl⟩
  · replace hm := iteF hc1 hm
    refine AW.exit ?_
    refine tq_exit ?_
    refine tq_exit ?_
    obtain rfl := Option.some.inj hm
    obtain rfl := Option.some.inj hI1
    replace hm := hk1
    try dsimp only at hm
    refine bq_hit ?_
    refine nq ?_
    refine AW.seqR ?_
    refine AL.s rfl (op_assignD (.e rfl)) ?_
    refine AL.nil ?_
    refine AW.ret ?_
    obtain rfl := Option.some.inj hm
    exact ⟨_, _, (.tmp (.e rfl) .nil), .d rfl, rfl, rfl⟩

set_option maxHeartbeats 20000000 in
theorem m_slices_ContainsFunc_route_Lender_route_Lender_ok {n : Nat} {H : List HE} {a1 : (List SLender)} {p2 : SLender → Option Bool} {r : Bool} {ff_p2 : FuncId} {caps_p2 : List V} (hff_p2 : ∀ (a : Array Value) (w : World), (callFunc ff_p2 a).run Try.prog w = .ok (.enter ff_p2 a) w) (hF_p2 : ∀ (y1 : SLender) (b : Bool), p2 y1 = some b → ACall Try.prog ff_p2 (.d (SLender.e y1) :: caps_p2) H fun r' H' => r' = .d (.bool b) ∧ H' = H) (hm : m_slices_ContainsFunc_route_Lender_route_Lender n a1 p2 = some r) : ACall Try.prog 14 [.d (.sl (a1.map SLender.e)), .fn (.func ff_p2) caps_p2] H fun r' H' => r' = .d (.bool r) ∧ H' = H := by
  unfold m_slices_ContainsFunc_route_Lender_route_Lender at hm
  refine ACall.of_AW (fnn := Try.f14) Try.func14 rfl (Nat.le_of_ble_eq_true rfl) (fun g0 w0 hw0 => ?_)
  refine AW.seqR ?_
  refine AL.s rfl (op_assignD (.e rfl)) ?_
  refine AL.nil ?_
  refine AW.seqR ?_
  refine AL.s rfl (op_moveD (.e rfl)) ?_
  refine AL.s rfl (op_moveF (.e rfl)) ?_
  obtain ⟨v3, hv3, hm⟩ := bindE hm
  refine AL.s rfl (op_call Try.call31 (.e rfl) (.cons (.e rfl) (.cons (.e rfl) .nil)) (m_slices_IndexFunc_route_Lender_route_Lender_ok hff_p2 hF_p2 hv3)) ?_
  refine AL.s rfl (op_geq (.r rfl) (.r rfl)) ?_
  refine AL.s rfl (op_assignD (.e rfl)) ?_
  refine AL.nil ?_
  refine AW.ret ?_
  obtain rfl := Option.some.inj hm
  exact ⟨_, _, (.tmp (.e rfl) .nil), .d rfl, rfl, rfl⟩

set_option maxHeartbeats 20000000 in
theorem m_route_Row_1_ok {n : Nat} {a1 : SLender} {r : Bool} (hm : m_route_Row_1 n a1 = some r) : Fn Try.prog 11 [(SLender.e a1)] (.bool r) := by
  unfold m_route_Row_1 at hm
  refine Fn.of_AW (fnn := Try.f11) Try.func11 rfl (Nat.le_of_ble_eq_true rfl) (fun g0 w0 hw0 => ?_)
  refine AW.seqR ?_
  refine AL.s rfl (op_box (n := 0) (.e rfl) rfl rfl rfl) ?_
  refine AL.s rfl (op_assignD (.e rfl)) ?_
  refine AL.nil ?_
  refine AW.seqR ?_
  refine AL.s rfl (op_field_ptr (.e rfl) fd33_0) ?_
  refine AL.s rfl (op_load_ptr1 (.e rfl) rfl rfl sc9) ?_
  obtain ⟨v2, hv2, hm⟩ := bindE hm
  refine AL.s rfl (op_fn Try.call10 (.e rfl) (.cons (.r rfl) .nil) (m_request_Name_ok hv2)) ?_
  refine AL.s rfl (op_not (.r rfl)) ?_
  refine AL.s rfl (op_moveD (.e rfl)) ?_
  refine AL.sF rfl rfl rfl rfl (fun g => op_field_ptr (.e rfl) fd33_1) ?_
  refine AL.sF rfl rfl rfl rfl (fun g => op_load_ptrA (.we (nt g) rfl) rfl rfl rfl ag22) ?_
  obtain ⟨v3, hv3, hm⟩ := bindE hm
  refine AL.sF rfl rfl rfl rfl (fun g => op_fn Try.call12 (.e rfl) (.cons (.we (nt g) rfl rfl) .nil) (m_route_place_ok (iteT (nt g) hv3))) ?_
  refine AL.sF rfl rfl rfl rfl (fun g => op_not (.we (nt g) rfl rfl)) ?_
  refine AL.s rfl (op_or (.r rfl) rfl (fun h => (.we (nt h) rfl rfl))) ?_
  refine AL.s rfl (op_moveD (.e rfl)) ?_
  refine AL.sF rfl rfl rfl rfl (fun g => op_field_ptr (.e rfl) fd33_2) ?_
  refine AL.sF rfl rfl rfl rfl (fun g => op_load_ptr1 (.we (nt g) rfl) rfl rfl sc3) ?_
  obtain ⟨v4, hv4, hm⟩ := bindE hm
  refine AL.sF rfl rfl rfl rfl (fun g => op_fn Try.call13 (.e rfl) (.cons (.we (nt g) rfl rfl) (.cons (.r rfl) (.cons (.r rfl) .nil))) (m_route_in_ok (iteT (nt g) hv4))) ?_
  refine AL.sF rfl rfl rfl rfl (fun g => op_not (.we (nt g) rfl rfl)) ?_
  refine AL.s rfl (op_or (.r rfl) rfl (fun h => (.we (nt h) rfl rfl))) ?_
  refine AL.s rfl (op_assignD (.e rfl)) ?_
  refine AL.nil ?_
  refine AW.ret ?_
  obtain rfl := Option.some.inj hm
  exact EndQ.d (.tmp (.e rfl) .nil) rfl rfl

end Go.Proofs.Yteocmikmbiimcaa.Ab
