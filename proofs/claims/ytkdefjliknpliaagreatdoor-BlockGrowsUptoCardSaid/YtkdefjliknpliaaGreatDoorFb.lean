/- The functions do what they are in plain Lean. Conditions: none. -/
import Derived.Test.YtkdefjliknpliaaGreatDoorTy
import Derived.Test.YtkdefjliknpliaaGreatDoorMi
import Derived.Test.YtkdefjliknpliaaGreatDoorFa
set_option maxRecDepth 100000
set_option maxHeartbeats 20000000
namespace Go.Proofs.YtkdefjliknpliaaGreatDoor.Ab
open Go
attribute [local irreducible] AL AD AW nlO nlV nlD
theorem m_block_find_1_ok {n : Nat} {a1 : SBlock} {a2 : (List UInt8)} {r : Int} (hm : m_block_find_1 n a1 a2 = some r) : Fn Tryz.prog 99 [(SBlock.e a1), (.str a2)] (.int .i64 r) := by
 unfold m_block_find_1 at hm
 refine Fn.of_AW (fnn := Tryz.f99) Tryz.func99 rfl (Nat.le_of_ble_eq_true rfl) (fun g0 w0 hw0 => ?_)
 refine zr (zs (op_box (n := 0) .r rfl rfl rfl) (za rfl (zn (zr (zs (op_field_ptr .r fd75_0) (zs (op_load_ptr1 .r rfl rfl sc9) (zm rfl ?_)))))))
 obtain ⟨v3, hv3, hm⟩ := bindE hm
 refine zs (op_fn Tryz.call100 .r (.cons (.r rfl) (.cons (.r rfl) .nil)) (m_cmp_Compare_string_ok hv3)) (za rfl (zn (AW.ret ?_)))
 obtain rfl := Option.some.inj hm
 exact EndQ.d (.tmp .r .nil) rfl rfl
theorem m_slices_BinarySearchFunc_block_Table_block_Block_string_ok {n : Nat} {a1 : (List SBlock)} {a2 : (List UInt8)} {r : (Int × Bool)} (hm : m_slices_BinarySearchFunc_block_Table_block_Block_string n a1 a2 = some r) : ACall Tryz.prog 98 [.d (.sl (a1.map SBlock.e)), .d (.str a2), .fn (.func 99) []] [] fun r' H' => r' = resOf [.d (.int .i64 r.1), .d (.bool r.2)] ∧ H' = [] := by
 unfold m_slices_BinarySearchFunc_block_Table_block_Block_string at hm
 refine ACall.of_AWG (fnn := Tryz.f98) Tryz.func98 rfl (Nat.le_of_ble_eq_true rfl) (fun g0 w0 hw0 => ?_)
 refine AW.reset 0 [(0, .d (.sl (a1.map SBlock.e))), (1, .d (.str a2)), (2, .fn (.func 99) [])] [] (WOK.g0 hw0 (by simp)) ⟨[], rfl, rfl, rfl, ⟨(.d rfl), (.d rfl), .fn0, trivial⟩, trivial, .nil⟩ (zr (za rfl (za rfl (zn (zr (zm rfl (zs (op_lenM (f := SBlock.e) (.r rfl) sl26) (za rfl (zn (zr (zm rfl (za rfl (za rfl (zn (AW.seq (AW.block ?_))))))))))))))))
 obtain ⟨t_1, hI1, hk1⟩ := bindE hm
 refine AW.loopS (σ := (Int × Int)) (τ := Int) 0 (fun x => [(0, .d (.sl (a1.map SBlock.e))), (1, .d (.str a2)), (2, .fn (.func 99) []), (8, .d (.int .i64 (a1.length : Int))), (9, .d (.int .i64 x.1)), (10, .d (.int .i64 x.2))]) (fun x => []) hI1 (WOK.g0 hw0 (by simp)) ⟨[], rfl, rfl, rfl, ⟨(.d rfl), (.d rfl), .fn0, (.d rfl), (.d rfl), (.d rfl), trivial⟩, trivial, .nil⟩ ?_
 rintro n1 ⟨s3, s4⟩ hI1
 obtain ⟨y_1, hm, hI1⟩ := iterS hI1
 replace hm : m_slices_BinarySearchFunc_block_Table_block_Block_string_L1 n _ _ s3 s4 = some y_1 := hm
 unfold m_slices_BinarySearchFunc_block_Table_block_Block_string_L1 at hm
 try dsimp only at hm
 refine AW.seq (zr (zm rfl (zm rfl (zs (op_lss (.r rfl) (.r rfl)) (zn ?_)))))
 refine AW.cond (b := _) rfl (fun hc1 => ?_) (fun hc1 => ?_)
 ·replace hm := iteT hc1 hm
  refine AW.skip (nq (AW.block (zr (zm rfl (zm rfl (zs (op_addw (.r rfl) (.r rfl)) (zs (op_conv_int (.r rfl) ⟨_, Tryz.underlying3⟩ Tryz.underlying127) ?_)))))))
  obtain ⟨v5, hv5, hm⟩ := bindE hm
  refine zs (op_shrM (.r rfl) (.r rfl) hv5) (zs (op_conv_int (.r rfl) ⟨_, Tryz.underlying127⟩ Tryz.underlying3) (za rfl (zn (zr (zs (op_moveF .r) (zm rfl (zm rfl ?_)))))))
  obtain ⟨v6, hv6, hm⟩ := bindE hm
  refine zs (op_indexAddrM (f := SBlock.e) (.r rfl) (.r rfl) hv6 enSBlock sl26) (zs (op_loadA .r rfl ag75) (zm rfl ?_))
  obtain ⟨v7, hv7, hm⟩ := bindE hm
  refine zs (op_fn Tryz.call99 .r (.cons (.r rfl) (.cons (.r rfl) .nil)) (m_block_find_1_ok hv7)) (zs (op_lss (.r rfl) (.r rfl)) (zn ?_))
  refine AW.cond (b := _) rfl (fun hc2 => ?_) (fun hc2 => ?_)
  ·replace hm := iteT hc2 hm
   refine AW.region (zm rfl (zs (op_addw (.r rfl) (.r rfl)) (za rfl (zn (bq_n ?_)))))
   obtain rfl := Option.some.inj hm
   exact nq ⟨_, hI1, ⟨[], rfl, rfl, rfl, ⟨(.d rfl), (.d rfl), .fn0, (.d rfl), (.d rfl), (.d rfl), trivial⟩, trivial, .nil⟩⟩
  ·replace hm := iteF hc2 hm
   refine AW.region (zm rfl (za rfl (zn (bq_n ?_))))
   obtain rfl := Option.some.inj hm
   exact nq ⟨_, hI1, ⟨[], rfl, rfl, rfl, ⟨(.d rfl), (.d rfl), .fn0, (.d rfl), (.d rfl), (.d rfl), trivial⟩, trivial, .nil⟩⟩
 ·replace hm := iteF hc1 hm
  refine AW.exit (tq_exit (tq_exit ?_))
  obtain rfl := Option.some.inj hm
  obtain rfl := Option.some.inj hI1
  replace hm := hk1
  try dsimp only at hm
  refine bq_hit (nq (zr (zm rfl (zm rfl (zm rfl (zs (op_lss (.r rfl) (.r rfl)) (zm rfl (AL.sT rfl rfl rfl rfl (fun g => op_moveF .r) (AL.sT rfl rfl rfl rfl (fun g => op_moveD .r) (AL.sT rfl rfl rfl rfl (fun g => op_moveD .r) ?_))))))))))
  obtain ⟨v8, hv8, hm⟩ := bindE hm
  refine AL.sT rfl rfl rfl rfl (fun g => op_indexAddrM (f := SBlock.e) (.we g rfl rfl) (.we g rfl rfl) (iteT g hv8) enSBlock sl26) (AL.sT rfl rfl rfl rfl (fun g => op_loadA (.we g rfl) rfl ag75) (AL.sT rfl rfl rfl rfl (fun g => op_moveD .r) ?_))
  obtain ⟨v9, hv9, hm⟩ := bindE hm
  refine AL.sT rfl rfl rfl rfl (fun g => op_fn Tryz.call99 (.we g rfl) (.cons (.we g rfl rfl) (.cons (.we g rfl rfl) .nil)) (m_block_find_1_ok (iteT g hv9))) (AL.sT rfl rfl rfl rfl (fun g => op_eql (.we g rfl rfl) (.r rfl)) (zs (op_and (.r rfl) (fun h => (.we h rfl rfl)) rfl) (za rfl (za rfl (zn (AW.ret ?_))))))
  obtain rfl := Option.some.inj hm
  exact ⟨_, [], (.tmp .r (.tmp .r .nil)), rfl, rfl, (.cons (.d rfl) (.cons (.d rfl) .nil)), .nil⟩
theorem m_block_find_ok {n : Nat} {a1 : (List SBlock)} {a2 : (List UInt8)} {r : (Int × Bool)} (hm : m_block_find n a1 a2 = some r) : Fn Tryz.prog 65 [(.sl (a1.map SBlock.e)), (.str a2)] (.tup [(.int .i64 r.1), (.bool r.2)]) := by
 unfold m_block_find at hm
 refine Fn.of_AW (fnn := Tryz.f65) Tryz.func65 rfl (Nat.le_of_ble_eq_true rfl) (fun g0 w0 hw0 => ?_)
 refine zr (za rfl (za rfl (zn (zr (zm rfl (zm rfl ?_))))))
 obtain ⟨v3, hv3, hm⟩ := bindE hm
 refine zs (op_callF (v := .tup [.d (.int .i64 v3.1), .d (.bool v3.2)]) (H' := []) [] Tryz.call98 .r (.cons .r (.cons .r (.cons .r .nil))) (m_slices_BinarySearchFunc_block_Table_block_Block_string_ok hv3) rfl .nil rfl rfl rfl rfl rfl rfl rfl rfl) (zs (op_extractV .r rfl) (zs (op_extractV .r rfl) (za rfl (za rfl (zn (AW.ret ?_))))))
 obtain rfl := Option.some.inj hm
 exact EndQ.d (.tmp .r (.tmp .r .nil)) rfl rfl
theorem m_slices_IndexFunc_block_Table_block_Block_ok {n : Nat} {H : List HE} {a1 : (List SBlock)} {p2 : SBlock → Option Bool} {r : Int} {ff_p2 : FuncId} {caps_p2 : List V} (hff_p2 : ∀ (a : Array Value) (w : World), (callFunc ff_p2 a).run Tryz.prog w = .ok (.enter ff_p2 a) w) (hF_p2 : ∀ (y1 : SBlock) (b : Bool), p2 y1 = some b → ACall Tryz.prog ff_p2 (.d (SBlock.e y1) :: caps_p2) H fun r' H' => r' = .d (.bool b) ∧ H' = H) (hm : m_slices_IndexFunc_block_Table_block_Block n a1 p2 = some r) : ACall Tryz.prog 126 [.d (.sl (a1.map SBlock.e)), .fn (.func ff_p2) caps_p2] H fun r' H' => r' = .d (.int .i64 r) ∧ H' = H := by
 unfold m_slices_IndexFunc_block_Table_block_Block at hm
 refine ACall.of_AW (fnn := Tryz.f126) Tryz.func126 rfl (Nat.le_of_ble_eq_true rfl) (fun g0 w0 hw0 => ?_)
 refine zr (za rfl (zn (AW.seq (zr (zm rfl (zs (op_lenM (f := SBlock.e) (.r rfl) sl26) (zm rfl (zn (AW.block ?_)))))))))
 obtain ⟨t_1, hI1, hk1⟩ := bindE hm
 refine AW.loopN (σ := Int) (τ := (Int ⊕ Unit)) [0, 1, 7] (fun x => [(8, .d (.int .i64 x))]) hI1 ⟨by first | exact .of rfl | exact .d rfl, trivial⟩ ?_
 rintro n1 s3 hI1
 obtain ⟨y_1, hm, hI1⟩ := iterS hI1
 replace hm : m_slices_IndexFunc_block_Table_block_Block_L1 n _ _ s3 = some y_1 := hm
 unfold m_slices_IndexFunc_block_Table_block_Block_L1 at hm
 try dsimp only at hm
 refine zr (zs (op_lss (.r rfl) (.r rfl)) (zn (AW.seq ?_)))
 refine AW.cond (b := _) rfl (fun hc1 => ?_) (fun hc1 => ?_)
 ·replace hm := iteT hc1 hm
  refine AW.skip (nq (AW.seq (AW.block (zr (zm rfl (za rfl (zn (zr (zs (op_moveF .r) (zm rfl (zm rfl ?_)))))))))))
  obtain ⟨v4, hv4, hm⟩ := bindE hm
  refine zs (op_indexAddrM (f := SBlock.e) (.r rfl) (.r rfl) hv4 enSBlock sl26) (zs (op_loadA .r rfl ag75) ?_)
  obtain ⟨v5, hv5, hm⟩ := bindE hm
  refine zs (op_call hff_p2 .r (.cons .r .nil) (hF_p2 _ _ hv5)) (zn ?_)
  refine AW.cond (b := _) rfl (fun hc2 => ?_) (fun hc2 => ?_)
  ·replace hm := iteT hc2 hm
   refine zr (zm rfl (za rfl (zn (AW.ret (bq_ret (tq_ret (tq_ret ?_)))))))
   obtain rfl := Option.some.inj hm
   obtain rfl := Option.some.inj hI1
   replace hm := hk1
   try dsimp only at hm
   refine bq_ret (tq_ret ?_)
   obtain rfl := Option.some.inj hm
   exact ⟨_, _, (.tmp .r .nil), .d rfl, rfl, rfl⟩
  ·replace hm := iteF hc2 hm
   refine AW.skip (bq_n (nq (AW.region (zs (op_addw (.r rfl) (.r rfl)) (zm rfl (zn ?_))))))
   obtain rfl := Option.some.inj hm
   exact nq ⟨_, hI1, ⟨by first | exact .of rfl | exact .d rfl, trivial⟩, ⟨rfl, rfl, rfl, trivial⟩, rfl⟩
 ·replace hm := iteF hc1 hm
  refine AW.exit (tq_exit (tq_exit ?_))
  obtain rfl := Option.some.inj hm
  obtain rfl := Option.some.inj hI1
  replace hm := hk1
  try dsimp only at hm
  refine bq_hit (nq (zr (za rfl (zn (AW.ret ?_)))))
  obtain rfl := Option.some.inj hm
  exact ⟨_, _, (.tmp .r .nil), .d rfl, rfl, rfl⟩
theorem m_slices_ContainsFunc_block_Table_block_Block_ok {n : Nat} {H : List HE} {a1 : (List SBlock)} {p2 : SBlock → Option Bool} {r : Bool} {ff_p2 : FuncId} {caps_p2 : List V} (hff_p2 : ∀ (a : Array Value) (w : World), (callFunc ff_p2 a).run Tryz.prog w = .ok (.enter ff_p2 a) w) (hF_p2 : ∀ (y1 : SBlock) (b : Bool), p2 y1 = some b → ACall Tryz.prog ff_p2 (.d (SBlock.e y1) :: caps_p2) H fun r' H' => r' = .d (.bool b) ∧ H' = H) (hm : m_slices_ContainsFunc_block_Table_block_Block n a1 p2 = some r) : ACall Tryz.prog 90 [.d (.sl (a1.map SBlock.e)), .fn (.func ff_p2) caps_p2] H fun r' H' => r' = .d (.bool r) ∧ H' = H := by
 unfold m_slices_ContainsFunc_block_Table_block_Block at hm
 refine ACall.of_AW (fnn := Tryz.f90) Tryz.func90 rfl (Nat.le_of_ble_eq_true rfl) (fun g0 w0 hw0 => ?_)
 refine zr (za rfl (zn (zr (zm rfl (zs (op_moveF .r) ?_)))))
 obtain ⟨v3, hv3, hm⟩ := bindE hm
 refine zs (op_call Tryz.call126 .r (.cons .r (.cons .r .nil)) (m_slices_IndexFunc_block_Table_block_Block_ok hff_p2 hF_p2 hv3)) (zs (op_geq (.r rfl) (.r rfl)) (za rfl (zn (AW.ret ?_))))
 obtain rfl := Option.some.inj hm
 exact ⟨_, _, (.tmp .r .nil), .d rfl, rfl, rfl⟩
theorem m_slices_Index_int_int_ok {n : Nat} {a1 : (List Int)} {a2 : Int} {r : Int} (hm : m_slices_Index_int_int n a1 a2 = some r) : Fn Tryz.prog 127 [(.sl (a1.map D.i)), (.int .i64 a2)] (.int .i64 r) := by
 unfold m_slices_Index_int_int at hm
 refine Fn.of_AW (fnn := Tryz.f127) Tryz.func127 rfl (Nat.le_of_ble_eq_true rfl) (fun g0 w0 hw0 => ?_)
 refine AW.reset 0 [(0, .d (.sl (a1.map D.i))), (1, .d (.int .i64 a2))] [] (WOK.g0 hw0 (by simp)) ⟨[], rfl, rfl, rfl, ⟨(.d rfl), (.d rfl), trivial⟩, trivial, .nil⟩ (zr (za rfl (zn (AW.seq (zr (zm rfl (zs (op_lenM (f := D.i) (.r rfl) sl38) (zm rfl (zn (AW.block ?_))))))))))
 obtain ⟨t_1, hI1, hk1⟩ := bindE hm
 refine AW.loopS (σ := Int) (τ := (Int ⊕ Unit)) 0 (fun x => [(0, .d (.sl (a1.map D.i))), (1, .d (.int .i64 a2)), (7, .d (.int .i64 (a1.length : Int))), (8, .d (.int .i64 x))]) (fun x => []) hI1 (WOK.g0 hw0 (by simp)) ⟨[], rfl, rfl, rfl, ⟨(.d rfl), (.d rfl), (.d rfl), (.d rfl), trivial⟩, trivial, .nil⟩ ?_
 rintro n1 s3 hI1
 obtain ⟨y_1, hm, hI1⟩ := iterS hI1
 replace hm : m_slices_Index_int_int_L1 n _ _ s3 = some y_1 := hm
 unfold m_slices_Index_int_int_L1 at hm
 try dsimp only at hm
 refine zr (zs (op_lss (.r rfl) (.r rfl)) (zn (AW.seq ?_)))
 refine AW.cond (b := _) rfl (fun hc1 => ?_) (fun hc1 => ?_)
 ·replace hm := iteT hc1 hm
  refine AW.skip (nq (AW.seq (AW.block (zr (zm rfl (za rfl (zn (zr (zm rfl (zm rfl (zm rfl ?_)))))))))))
  obtain ⟨v4, hv4, hm⟩ := bindE hm
  refine zs (op_indexAddrM (f := D.i) (.r rfl) (.r rfl) hv4 En.i sl38) (zs (op_load_vp1 .r rfl sc3) (zs (op_eql (.r rfl) (.r rfl)) (zn ?_)))
  refine AW.cond (b := _) rfl (fun hc2 => ?_) (fun hc2 => ?_)
  ·replace hm := iteT hc2 hm
   refine zr (zm rfl (za rfl (zn (AW.ret (bq_ret (tq_ret (tq_ret ?_)))))))
   obtain rfl := Option.some.inj hm
   obtain rfl := Option.some.inj hI1
   replace hm := hk1
   try dsimp only at hm
   refine bq_ret (tq_ret ?_)
   obtain rfl := Option.some.inj hm
   exact EndQ.d (.tmp .r .nil) rfl rfl
  ·replace hm := iteF hc2 hm
   refine AW.skip (bq_n (nq (AW.region (zs (op_addw (.r rfl) (.r rfl)) (zm rfl (zn ?_))))))
   obtain rfl := Option.some.inj hm
   exact nq ⟨_, hI1, ⟨[], rfl, rfl, rfl, ⟨(.d rfl), (.d rfl), (.d rfl), (.d rfl), trivial⟩, trivial, .nil⟩⟩
 ·replace hm := iteF hc1 hm
  refine AW.exit (tq_exit (tq_exit ?_))
  obtain rfl := Option.some.inj hm
  obtain rfl := Option.some.inj hI1
  replace hm := hk1
  try dsimp only at hm
  refine bq_hit (nq (zr (za rfl (zn (AW.ret ?_)))))
  obtain rfl := Option.some.inj hm
  exact EndQ.d (.tmp .r .nil) rfl rfl
theorem m_slices_Contains_int_int_ok {n : Nat} {a1 : (List Int)} {a2 : Int} {r : Bool} (hm : m_slices_Contains_int_int n a1 a2 = some r) : Fn Tryz.prog 92 [(.sl (a1.map D.i)), (.int .i64 a2)] (.bool r) := by
 unfold m_slices_Contains_int_int at hm
 refine Fn.of_AW (fnn := Tryz.f92) Tryz.func92 rfl (Nat.le_of_ble_eq_true rfl) (fun g0 w0 hw0 => ?_)
 refine zr (za rfl (zn (zr (zm rfl (zm rfl ?_)))))
 obtain ⟨v3, hv3, hm⟩ := bindE hm
 refine zs (op_fn Tryz.call127 .r (.cons (.r rfl) (.cons (.r rfl) .nil)) (m_slices_Index_int_int_ok hv3)) (zs (op_geq (.r rfl) (.r rfl)) (za rfl (zn (AW.ret ?_))))
 obtain rfl := Option.some.inj hm
 exact EndQ.d (.tmp .r .nil) rfl rfl
theorem m_block_has_1_ok {n : Nat} {a1 : SBlock} {c2 : Int} {r : Bool} (hm : m_block_has_1 n a1 c2 = some r) : FnR Tryz.prog 91 [.d (SBlock.e a1), .ptr 0 0] [.row [.d (.int .i64 c2)]] (.bool r) := by
 unfold m_block_has_1 at hm
 refine ACall.of_AW (fnn := Tryz.f91) Tryz.func91 rfl (Nat.le_of_ble_eq_true rfl) (fun g0 w0 hw0 => ?_)
 refine zr (zs (op_box (n := 1) .r rfl rfl rfl) (za rfl (zn (zr (zs (op_field_ptr .r fd75_1) (zs (op_load_ptr1 .r rfl rfl sc38) (zs (op_load_ptr1 .r rfl rfl sc3) ?_)))))))
 obtain ⟨v3, hv3, hm⟩ := bindE hm
 refine zs (op_fn Tryz.call92 .r (.cons (.r rfl) (.cons (.r rfl) .nil)) (m_slices_Contains_int_int_ok hv3)) (za rfl (zn (AW.ret ?_)))
 obtain rfl := Option.some.inj hm
 exact ⟨_, _, (.tmp .r .nil), .d rfl, rfl, rfl⟩
theorem m_block_has_ok {n : Nat} {a1 : (List SBlock)} {a2 : Int} {r : Bool} (hm : m_block_has n a1 a2 = some r) : Fn Tryz.prog 52 [(.sl (a1.map SBlock.e)), (.int .i64 a2)] (.bool r) := by
 unfold m_block_has at hm
 refine Fn.of_AW (fnn := Tryz.f52) Tryz.func52 rfl (Nat.le_of_ble_eq_true rfl) (fun g0 w0 hw0 => ?_)
 refine zr (zs (op_box (n := 0) .r rfl rfl rfl) (za rfl (zn (zr (zm rfl (zs (op_makeFunc (.cons .r .nil)) ?_))))))
 obtain ⟨v3, hv3, hm⟩ := bindE hm
 refine zs (op_call Tryz.call90 .r (.cons .r (.cons .r .nil)) (m_slices_ContainsFunc_block_Table_block_Block_ok Tryz.call91 (fun _ _ hb => FnR.at [0] (m_block_has_1_ok hb) (.cons rfl rfl .nil) (.cons (.d _) (.cons (.ptr rfl) .nil)) rfl) hv3)) (za rfl (zn (AW.ret ?_)))
 obtain rfl := Option.some.inj hm
 exact EndQ.d (.tmp .r .nil) rfl rfl
theorem m_cmp_isNaN_int_ok {n : Nat} {a1 : Int} {r : Bool} (hm : m_cmp_isNaN_int n a1 = some r) : Fn Tryz.prog 97 [(.int .i64 a1)] (.bool r) := by
 unfold m_cmp_isNaN_int at hm
 refine Fn.of_AW (fnn := Tryz.f97) Tryz.func97 rfl (Nat.le_of_ble_eq_true rfl) (fun g0 w0 hw0 => ?_)
 refine zr (za rfl (zn (zr (zm rfl (zm rfl (zs (op_neq (.r rfl) (.r rfl)) (za rfl (zn (AW.ret ?_)))))))))
 obtain rfl := Option.some.inj hm
 exact EndQ.d (.tmp .r .nil) rfl rfl
theorem m_cmp_Compare_int_ok {n : Nat} {a1 : Int} {a2 : Int} {r : Int} (hm : m_cmp_Compare_int n a1 a2 = some r) : Fn Tryz.prog 62 [(.int .i64 a1), (.int .i64 a2)] (.int .i64 r) := by
 unfold m_cmp_Compare_int at hm
 refine Fn.of_AW (fnn := Tryz.f62) Tryz.func62 rfl (Nat.le_of_ble_eq_true rfl) (fun g0 w0 hw0 => ?_)
 refine zr (za rfl (zn (zr (zm rfl ?_))))
 obtain ⟨v3, hv3, hm⟩ := bindE hm
 refine zs (op_fn Tryz.call97 .r (.cons (.r rfl) .nil) (m_cmp_isNaN_int_ok hv3)) (za rfl (zn (zr (zm rfl ?_))))
 obtain ⟨v4, hv4, hm⟩ := bindE hm
 refine zs (op_fn Tryz.call97 .r (.cons (.r rfl) .nil) (m_cmp_isNaN_int_ok hv4)) (za rfl (zn (AW.seq (zr (zm rfl (zn ?_))))))
 refine AW.cond (b := _) rfl (fun hc1 => ?_) (fun hc1 => ?_)
 ·replace hm := iteT hc1 hm
  refine AW.seq (zr (zm rfl (zn ?_)))
  refine AW.cond (b := _) rfl (fun hc2 => ?_) (fun hc2 => ?_)
  ·replace hm := iteT hc2 hm
   refine zr (za rfl (zn (AW.ret (tq_ret (tq_ret ?_)))))
   obtain rfl := Option.some.inj hm
   exact EndQ.d (.tmp .r .nil) rfl rfl
  ·replace hm := iteF hc2 hm
   refine AW.skip (nq (zr (za rfl (zn (AW.ret (tq_ret ?_))))))
   obtain rfl := Option.some.inj hm
   exact EndQ.d (.tmp .r .nil) rfl rfl
 ·replace hm := iteF hc1 hm
  refine AW.skip (nq (AW.seq (zr (zm rfl (zn ?_)))))
  refine AW.cond (b := _) rfl (fun hc3 => ?_) (fun hc3 => ?_)
  ·replace hm := iteT hc3 hm
   refine zr (za rfl (zn (AW.ret (tq_ret ?_))))
   obtain rfl := Option.some.inj hm
   exact EndQ.d (.tmp .r .nil) rfl rfl
  ·replace hm := iteF hc3 hm
   refine AW.skip (nq (AW.seq (zr (zm rfl (zm rfl (zs (op_lss (.r rfl) (.r rfl)) (zn ?_)))))))
   refine AW.cond (b := _) rfl (fun hc4 => ?_) (fun hc4 => ?_)
   ·replace hm := iteT hc4 hm
    refine zr (za rfl (zn (AW.ret (tq_ret ?_))))
    obtain rfl := Option.some.inj hm
    exact EndQ.d (.tmp .r .nil) rfl rfl
   ·replace hm := iteF hc4 hm
    refine AW.skip (nq (AW.seq (zr (zm rfl (zm rfl (zs (op_gtr (.r rfl) (.r rfl)) (zn ?_)))))))
    refine AW.cond (b := _) rfl (fun hc5 => ?_) (fun hc5 => ?_)
    ·replace hm := iteT hc5 hm
     refine AW.reset 0 [] [] (WOK.g0 hw0 (by simp)) ⟨[], rfl, rfl, rfl, trivial, trivial, .nil⟩ (zr (za rfl (zn (AW.ret (tq_ret ?_)))))
     obtain rfl := Option.some.inj hm
     exact EndQ.d (.tmp .r .nil) rfl rfl
    ·replace hm := iteF hc5 hm
     refine AW.skip (nq (zr (za rfl (zn (AW.ret ?_)))))
     obtain rfl := Option.some.inj hm
     exact EndQ.d (.tmp .r .nil) rfl rfl
theorem m_cmp_Or_int_ok {n : Nat} {a1 : (List Int)} {r : Int} (hm : m_cmp_Or_int n a1 = some r) : Fn Tryz.prog 61 [(.sl (a1.map D.i))] (.int .i64 r) := by
 unfold m_cmp_Or_int at hm
 refine Fn.of_AW (fnn := Tryz.f61) Tryz.func61 rfl (Nat.le_of_ble_eq_true rfl) (fun g0 w0 hw0 => ?_)
 refine AW.reset 0 [(0, .d (.sl (a1.map D.i)))] [] (WOK.g0 hw0 (by simp)) ⟨[], rfl, rfl, rfl, ⟨(.d rfl), trivial⟩, trivial, .nil⟩ (zr (za rfl (zn (zr (za rfl (zn (AW.seq (zr (zm rfl (zs (op_lenM (f := D.i) (.r rfl) sl38) (zm rfl (zn (AW.block ?_)))))))))))))
 obtain ⟨t_1, hI1, hk1⟩ := bindE hm
 refine AW.loopS (σ := Int) (τ := (Int ⊕ Unit)) 0 (fun x => [(3, .d (.int .i64 (0 : Int))), (6, .d (.sl (a1.map D.i))), (7, .d (.int .i64 (a1.length : Int))), (8, .d (.int .i64 x))]) (fun x => []) hI1 (WOK.g0 hw0 (by simp)) ⟨[], rfl, rfl, rfl, ⟨(.d rfl), (.d rfl), (.d rfl), (.d rfl), trivial⟩, trivial, .nil⟩ ?_
 rintro n1 s2 hI1
 obtain ⟨y_1, hm, hI1⟩ := iterS hI1
 replace hm : m_cmp_Or_int_L1 n _ s2 = some y_1 := hm
 unfold m_cmp_Or_int_L1 at hm
 try dsimp only at hm
 refine zr (zs (op_lss (.r rfl) (.r rfl)) (zn (AW.seq ?_)))
 refine AW.cond (b := _) rfl (fun hc1 => ?_) (fun hc1 => ?_)
 ·replace hm := iteT hc1 hm
  refine AW.skip (nq (AW.seq (AW.block (zr ?_))))
  obtain ⟨v3, hv3, hm⟩ := bindE hm
  refine zs (op_indexAddrM (f := D.i) (.r rfl) (.r rfl) hv3 En.i sl38) (zs (op_load_vp1 .r rfl sc3) (za rfl (zn (zr (zm rfl (zm rfl (zs (op_neq (.r rfl) (.r rfl)) (zn ?_))))))))
  refine AW.cond (b := _) rfl (fun hc2 => ?_) (fun hc2 => ?_)
  ·replace hm := iteT hc2 hm
   refine zr (zm rfl (za rfl (zn (AW.ret (bq_ret (tq_ret (tq_ret ?_)))))))
   obtain rfl := Option.some.inj hm
   obtain rfl := Option.some.inj hI1
   replace hm := hk1
   try dsimp only at hm
   refine bq_ret (tq_ret ?_)
   obtain rfl := Option.some.inj hm
   exact EndQ.d (.tmp .r .nil) rfl rfl
  ·replace hm := iteF hc2 hm
   refine AW.skip (bq_n (nq (AW.region (zs (op_addw (.r rfl) (.r rfl)) (zm rfl (zn ?_))))))
   obtain rfl := Option.some.inj hm
   exact nq ⟨_, hI1, ⟨[], rfl, rfl, rfl, ⟨(.d rfl), (.d rfl), (.d rfl), (.d rfl), trivial⟩, trivial, .nil⟩⟩
 ·replace hm := iteF hc1 hm
  refine AW.exit (tq_exit (tq_exit ?_))
  obtain rfl := Option.some.inj hm
  obtain rfl := Option.some.inj hI1
  replace hm := hk1
  try dsimp only at hm
  refine bq_hit (nq (zr (zm rfl (za rfl (zn (AW.ret ?_))))))
  obtain rfl := Option.some.inj hm
  exact EndQ.d (.tmp .r .nil) rfl rfl
theorem m_block_Pairs_1_ok {n : Nat} {a1 : SPair} {a2 : SPair} {r : Int} (hm : m_block_Pairs_1 n a1 a2 = some r) : Fn Tryz.prog 60 [(SPair.e a1), (SPair.e a2)] (.int .i64 r) := by
 unfold m_block_Pairs_1 at hm
 refine Fn.of_AW (fnn := Tryz.f60) Tryz.func60 rfl (Nat.le_of_ble_eq_true rfl) (fun g0 w0 hw0 => ?_)
 refine zr (zs (op_box (n := 0) .r rfl rfl rfl) (zs (op_box (n := 1) .r rfl rfl rfl) (za rfl (zn (AW.seqD [([], []), ([0], []), ([], []), ([1], []), ([], []), ([], []), ([0], []), ([], []), ([1], []), ([], []), ([], []), ([], []), ([], [])] mo (by decide +kernel) (AD.s (ws := []) rfl rfl (fun H' _ hH => op_field_ptr .r fd64_0) (AD.s (ws := []) rfl rfl (fun H' _ hH => op_load_ptr1 .r ((hH _ (by simp)).trans rfl) rfl sc3) (AD.s (ws := []) rfl rfl (fun H' _ hH => op_field_ptr .r fd64_0) (AD.s (ws := []) rfl rfl (fun H' _ hH => op_load_ptr1 .r ((hH _ (by simp)).trans rfl) rfl sc3) ?_)))))))))
 obtain ⟨v3, hv3, hm⟩ := bindE hm
 refine AD.s (ws := []) rfl rfl (fun H' _ hH => op_fn Tryz.call62 .r (.cons (.r rfl) (.cons (.r rfl) .nil)) (m_cmp_Compare_int_ok hv3)) (AD.s (ws := []) rfl rfl (fun H' _ hH => op_field_ptr .r fd64_1) (AD.s (ws := []) rfl rfl (fun H' _ hH => op_load_ptr1 .r ((hH _ (by simp)).trans rfl) rfl sc3) (AD.s (ws := []) rfl rfl (fun H' _ hH => op_field_ptr .r fd64_1) (AD.s (ws := []) rfl rfl (fun H' _ hH => op_load_ptr1 .r ((hH _ (by simp)).trans rfl) rfl sc3) ?_))))
 obtain ⟨v4, hv4, hm⟩ := bindE hm
 refine AD.s (ws := []) rfl rfl (fun H' _ hH => op_fn Tryz.call62 .r (.cons (.r rfl) (.cons (.r rfl) .nil)) (m_cmp_Compare_int_ok hv4)) (AD.s (ws := []) rfl rfl (fun H' _ hH => op_buildSlice (ds := ([v3, v4] : List Int).map D.i) sl38 (.cons (.r rfl) rfl (En.i.one _) (.cons (.r rfl) rfl (En.i.one _) .nil)) rfl (by decide)) ?_)
 obtain ⟨v5, hv5, hm⟩ := bindE hm
 refine AD.s (ws := []) rfl rfl (fun H' _ hH => op_fn Tryz.call61 .r (.cons (.r rfl) .nil) (m_cmp_Or_int_ok hv5)) (AD.s (ws := []) rfl rfl (fun H' _ hH => op_assignD .r) (AD.nil (AW.ret ?_)))
 obtain rfl := Option.some.inj hm
 exact EndQ.d (.tmp .r .nil) rfl rfl
theorem m_slices_SortFunc_api_Pair_api_Pair_inv {n : Nat} {c1 r : List SPair} (hm : m_slices_SortFunc_api_Pair_api_Pair n c1 = some r) : 64 ≤ n ∧ c1.length < 4611686018427387904 ∧ r = isort (ltOf cfP) c1 := by
 unfold m_slices_SortFunc_api_Pair_api_Pair at hm
 split at hm
 ·rename_i h; injection hm with hm; exact ⟨h.1, h.2, hm.symm⟩
 ·cases hm
theorem m_slices_SortFunc_api_Pair_api_Pair_len {n : Nat} {c1 r : List SPair} (hm : m_slices_SortFunc_api_Pair_api_Pair n c1 = some r) : r.length = c1.length := by
 obtain ⟨_, _, rfl⟩ := m_slices_SortFunc_api_Pair_api_Pair_inv hm; exact isort_len _ _
theorem m_slices_SortFunc_api_Pair_api_Pair_ok {n : Nat} {c1 r : List SPair} (hm : m_slices_SortFunc_api_Pair_api_Pair n c1 = some r) : ACall Tryz.prog 59 [.hs 0 0 c1.length 2, .fn (.func 60) []] [.lst (c1.map SPair.e) 64 2] fun r' H' => r' = resOf [] ∧ H' = [.lst (r.map SPair.e) 64 2] := by
 obtain ⟨h1, h2, rfl⟩ := m_slices_SortFunc_api_Pair_api_Pair_inv hm
 exact ACall.sortF sortsP ⟨fun _ => rfl, fun x c hc => by simp [SPair.e, D.cells] at hc; first | (rcases hc with h | h | h <;> subst h <;> rfl) | (rcases hc with h | h <;> subst h <;> rfl) | (subst hc; rfl)⟩ (fun _ => rfl) (fun x y => m_block_Pairs_1_ok (cfP_ok h1 x y)) cfP_swo cfP_total h2
theorem m_slices_Compact_api_Pair_api_Pair_ok {n : Nat} {c1 : (List SPair)} {r : (List SPair)} (hm : m_slices_Compact_api_Pair_api_Pair n c1 = some r) : ACall Tryz.prog 63 [.hs 0 0 c1.length 2] [.lst (c1.map SPair.e) 64 2] fun r' H' => r' = resOf [.hs 1 0 r.length 2] ∧ H' = [.dead, .lst (r.map SPair.e) 64 2] := by
 unfold m_slices_Compact_api_Pair_api_Pair at hm
 refine ACall.of_AWG (fnn := Tryz.f63) Tryz.func63 rfl (Nat.le_of_ble_eq_true rfl) (fun g0 w0 hw0 => ?_)
 refine AW.reset 1 [(0, .hs 0 0 c1.length 2)] [.lst (c1.map SPair.e) 64 2] (WOK.g0 hw0 (by simp)) ⟨[0], rfl, rfl, rfl, ⟨(.hs rfl rfl), trivial⟩, trivial, (.lst rfl .nil)⟩ (zr (zs (op_assignN .r) (zn (AW.seq (zr (zs (op_moveH .r) (zs (op_len_hs .r rfl sl59) (zs (op_lss (.r rfl) (.r rfl)) (zn ?_)))))))))
 refine AW.cond (b := _) rfl (fun hc1 => ?_) (fun hc1 => ?_)
 ·replace hm := iteT hc1 hm
  refine zr (zs (op_moveH .r) (zs (op_assignH .r) (zn (AW.moveL (n := 1) (f := SPair.e) (l := c1) 0 [2] rfl rfl ⟨rfl, trivial⟩ (AW.ret (tq_ret ?_))))))
  obtain rfl := Option.some.inj hm
  exact ⟨_, [0, 1], (.tmp .r .nil), rfl, rfl, (.cons (.hs rfl rfl) .nil), (.dead (.lst rfl .nil))⟩
 ·replace hm := iteF hc1 hm
  refine AW.skip (nq (AW.seq (zr (za rfl (zn (AW.block ?_))))))
  obtain ⟨t_1, hI1, hk1⟩ := bindE hm
  refine AW.loopS (σ := Int) (τ := ((List SPair) ⊕ Unit)) 1 (fun x => [(0, .hs 0 0 c1.length 2), (3, .d (.int .i64 x))]) (fun x => [.lst (c1.map SPair.e) 64 2]) hI1 (WOK.g0 hw0 (by simp)) ⟨[0], rfl, rfl, rfl, ⟨(.hs rfl rfl), (.d rfl), trivial⟩, trivial, (.lst rfl .nil)⟩ ?_
  rintro n1 s2 hI1
  obtain ⟨y_1, hm, hI1⟩ := iterS hI1
  replace hm : m_slices_Compact_api_Pair_api_Pair_L1 n _ s2 = some y_1 := hm
  unfold m_slices_Compact_api_Pair_api_Pair_L1 at hm
  try dsimp only at hm
  refine AW.seq (zr (zm rfl (zs (op_moveH .r) (zs (op_len_hs .r rfl sl59) (zs (op_lss (.r rfl) (.r rfl)) (zn ?_))))))
  refine AW.cond (b := _) rfl (fun hc2 => ?_) (fun hc2 => ?_)
  ·replace hm := iteT hc2 hm
   refine AW.skip (nq (AW.seq (AW.block (AW.seqD [([], []), ([], []), ([0], []), ([0], []), ([], []), ([], []), ([], []), ([0], []), ([0], []), ([], [])] mo (by decide +kernel) (AD.s (ws := []) rfl rfl (fun H' _ hH => op_moveH .r) (AD.s (ws := []) rfl rfl (fun H' _ hH => op_moveD .r) ?_))))))
   obtain ⟨v3, hv3, hm⟩ := bindE hm
   refine AD.s (ws := []) rfl rfl (fun H' _ hH => op_indexAddr_ls (f := SPair.e) (l := c1) .r ((hH _ (by simp)).trans rfl) rfl (.r rfl) hv3 sl59) ?_
   obtain ⟨v4, hv4, hm⟩ := bindE hm
   refine AD.s (ws := []) rfl rfl (fun H' _ hH => op_load_lsA (f := SPair.e) (l := c1) (a := s2) enSPair rfl .r ((hH _ (by simp)).trans rfl) hv4 ag64) (AD.s (ws := []) rfl rfl (fun H' _ hH => op_moveH .r) (AD.s (ws := []) rfl rfl (fun H' _ hH => op_moveD .r) (AD.s (ws := []) rfl rfl (fun H' _ hH => op_subw (.r rfl) (.r rfl)) ?_)))
   obtain ⟨v5, hv5, hm⟩ := bindE hm
   refine AD.s (ws := []) rfl rfl (fun H' _ hH => op_indexAddr_ls (f := SPair.e) (l := c1) .r ((hH _ (by simp)).trans rfl) rfl (.r rfl) hv5 sl59) ?_
   obtain ⟨v6, hv6, hm⟩ := bindE hm
   refine AD.s (ws := []) rfl rfl (fun H' _ hH => op_load_lsA (f := SPair.e) (l := c1) (a := (IntKind.i64.wrap (s2 - (1 : Int)))) enSPair rfl .r ((hH _ (by simp)).trans rfl) hv6 ag64) (AD.s (ws := []) rfl rfl (fun H' _ hH => op_eqlSt (a := v4) (b := v6) es64 (.r rfl) (.r rfl)) (AD.nil ?_))
   refine AW.cond (b := _) rfl (fun hc3 => ?_) (fun hc3 => ?_)
   ·replace hm := iteT hc3 hm
    refine zr (zs (op_moveH .r) (zm rfl ?_))
    obtain ⟨v7, hv7, hm⟩ := bindE hm
    refine zs (op_sliceH (f := SPair.e) (l := c1) .r rfl rfl sl59 (.r rfl) rfl hv7) (zs (op_assignH .r) (zn (AW.seq (zr (za rfl (zn (AW.block ?_)))))))
    obtain ⟨t_2, hI2, hk2⟩ := bindE hm
    refine AW.loopM (σ := (Int × Int × (List SPair))) (τ := (Int × (List SPair))) 1 [4] (fun x => [(0, .hs 0 0 x.2.2.length 2), (3, .d (.int .i64 x.1)), (5, .d (.int .i64 x.2.1))]) (fun x => [.lst (x.2.2.map SPair.e) 64 2]) hI2 (WOK.g0 hw0 (by simp)) ⟨[0], rfl, rfl, rfl, ⟨(.hs rfl rfl), (.d rfl), (.d rfl), trivial⟩, ⟨rfl, trivial⟩, (.lst rfl .nil)⟩ ?_
    rintro n2 ⟨s8, s9, s10⟩ hI2
    obtain ⟨y_2, hm, hI2⟩ := iterS hI2
    replace hm : m_slices_Compact_api_Pair_api_Pair_L2 n _ _ s8 s9 s10 = some y_2 := hm
    unfold m_slices_Compact_api_Pair_api_Pair_L2 at hm
    try dsimp only at hm
    refine AW.seq (zr (zm rfl (zs (op_moveH .r) (zs (op_len_hs .r rfl sl59) (zs (op_lss (.r rfl) (.r rfl)) (zn ?_))))))
    refine AW.cond (b := _) rfl (fun hc4 => ?_) (fun hc4 => ?_)
    ·replace hm := iteT hc4 hm
     refine AW.skip (nq ?_)
     obtain ⟨t_j1, hm, hkj1⟩ := bindE hm
     refine AW.cutM (α := (Int × (List SPair))) 1 (fun x => x = t_j1) [4, 5] (fun x => [(0, .hs 0 0 x.2.length 2), (3, .d (.int .i64 x.1))]) (fun x => [.lst (x.2.map SPair.e) 64 2]) (WOK.g0 hw0 (by simp)) ?_ ?_
     ·skip
      refine AW.block (AW.seqD [([], []), ([], []), ([0], []), ([0], []), ([], []), ([], []), ([], []), ([0], []), ([0], []), ([], [])] mo (by decide +kernel) (AD.s (ws := []) rfl rfl (fun H' _ hH => op_moveH .r) (AD.s (ws := []) rfl rfl (fun H' _ hH => op_moveD .r) ?_)))
      obtain ⟨v11, hv11, hm⟩ := bindE hm
      refine AD.s (ws := []) rfl rfl (fun H' _ hH => op_indexAddr_pc (lo := s2) (r := v7) (a := s9) (ls := s10.map SPair.e) .r (slc_lo hv7) ((hH _ (by simp)).trans rfl) (.r rfl) hv11 sl59) ?_
      obtain ⟨v12, hv12, hm⟩ := bindE hm
      refine AD.s (ws := []) rfl rfl (fun H' _ hH => op_load_lsA (f := SPair.e) (l := s10) (a := (s2 + s9)) enSPair rfl .r ((hH _ (by simp)).trans rfl) hv12 ag64) (AD.s (ws := []) rfl rfl (fun H' _ hH => op_moveH .r) (AD.s (ws := []) rfl rfl (fun H' _ hH => op_moveD .r) (AD.s (ws := []) rfl rfl (fun H' _ hH => op_subw (.r rfl) (.r rfl)) ?_)))
      obtain ⟨v13, hv13, hm⟩ := bindE hm
      refine AD.s (ws := []) rfl rfl (fun H' _ hH => op_indexAddr_pc (lo := s2) (r := v7) (a := (IntKind.i64.wrap (s9 - (1 : Int)))) (ls := s10.map SPair.e) .r (slc_lo hv7) ((hH _ (by simp)).trans rfl) (.r rfl) hv13 sl59) ?_
      obtain ⟨v14, hv14, hm⟩ := bindE hm
      refine AD.s (ws := []) rfl rfl (fun H' _ hH => op_load_lsA (f := SPair.e) (l := s10) (a := (s2 + (IntKind.i64.wrap (s9 - (1 : Int))))) enSPair rfl .r ((hH _ (by simp)).trans rfl) hv14 ag64) (AD.s (ws := []) rfl rfl (fun H' _ hH => op_neqSt (a := v12) (b := v14) es64 (.r rfl) (.r rfl)) (AD.nil ?_))
      refine AW.cond (b := _) rfl (fun hc5 => ?_) (fun hc5 => ?_)
      ·replace hm := iteT hc5 hm
       refine zr (zs (op_moveH .r) (zm rfl (zs (op_moveH .r) (zm rfl ?_))))
       obtain ⟨v15, hv15, hm⟩ := bindE hm
       refine zs (op_indexAddr_pc (lo := s2) (r := v7) (a := s9) (ls := s10.map SPair.e) .r (slc_lo hv7) rfl (.r rfl) hv15 sl59) ?_
       obtain ⟨v16, hv16, hm⟩ := bindE hm
       refine zs (op_load_lsA (f := SPair.e) (l := s10) (a := (s2 + s9)) enSPair rfl .r rfl hv16 ag64) ?_
       obtain ⟨v17, hv17, hm⟩ := bindE hm
       refine zs (op_indexAddr_ls (f := SPair.e) (l := s10) .r rfl rfl (.r rfl) hv17 sl59) ?_
       obtain ⟨v18, hv18, hm⟩ := bindE hm
       refine zs (op_store_lsA (f := SPair.e) (l := s10) (a := s8) (v' := v16) enSPair .r .r rfl rfl ⟨_, rfl, rfl⟩ rfl hv18) (zn (AW.region (zm rfl (zs (op_addw (.r rfl) (.r rfl)) (za rfl (zn (bq_n ?_)))))))
       obtain rfl := Option.some.inj hm
       exact nq ⟨_, rfl, ⟨[0], rfl, rfl, rfl, ⟨(.hs rfl (setI_len hv18).symm), (.d rfl), trivial⟩, ⟨rfl, rfl, trivial⟩, (.lst rfl .nil)⟩⟩
      ·replace hm := iteF hc5 hm
       refine AW.skip (bq_n ?_)
       obtain rfl := Option.some.inj hm
       exact nq ⟨_, rfl, ⟨[0], rfl, rfl, rfl, ⟨(.hs rfl rfl), (.d rfl), trivial⟩, ⟨rfl, rfl, trivial⟩, (.lst rfl .nil)⟩⟩
     ·rintro ⟨s19, s20⟩ rfl
      replace hm := hkj1
      try dsimp only at hm
      refine AW.region (zm rfl (zs (op_addw (.r rfl) (.r rfl)) (za rfl (zn ?_))))
      obtain rfl := Option.some.inj hm
      exact nq ⟨_, hI2, ⟨[0], rfl, rfl, rfl, ⟨(.hs rfl rfl), (.d rfl), (.d rfl), trivial⟩, ⟨rfl, trivial⟩, (.lst rfl .nil)⟩⟩
    ·replace hm := iteF hc4 hm
     refine AW.exit (tq_exit (tq_exit ?_))
     obtain rfl := Option.some.inj hm
     obtain rfl := Option.some.inj hI2
     replace hm := hk2
     try dsimp only at hm
     refine bq_hit (nq (zr (zs (op_moveH .r) (zm rfl ?_))))
     obtain ⟨v21, hv21, hm⟩ := bindE hm
     refine zs (op_sliceH (f := SPair.e) (l := s10) .r rfl rfl sl59 (.r rfl) rfl hv21) (zs (op_clear (f := SPair.e) (l := s10) (z := ((⟨(0 : Int), (0 : Int)⟩ : SPair) : SPair)) enSPair .r rfl (slc_le hv21) sl59 zr64 rfl) (zn (zr (zs (op_moveH .r) (zm rfl ?_)))))
     obtain ⟨v22, hv22, hm⟩ := bindE hm
     refine zs (op_truncH (f := SPair.e) (l := (clrL s10 s8.toNat v21.length ((⟨(0 : Int), (0 : Int)⟩ : SPair) : SPair))) .r rfl (clrL_len (slc_le hv21)) sl59 (.r rfl) hv22) (zs (op_assignH .r) (zn (AW.moveL (n := 1) (f := SPair.e) (l := v22) 0 [2] rfl rfl ⟨rfl, trivial⟩ (AW.ret (bq_ret (tq_ret (tq_ret ?_)))))))
     obtain rfl := Option.some.inj hm
     obtain rfl := Option.some.inj hI1
     replace hm := hk1
     try dsimp only at hm
     refine bq_ret (tq_ret ?_)
     obtain rfl := Option.some.inj hm
     exact ⟨_, [0, 1], (.tmp .r .nil), rfl, rfl, (.cons (.hs rfl rfl) .nil), (.dead (.lst rfl .nil))⟩
   ·replace hm := iteF hc3 hm
    refine AW.skip (bq_n (nq (AW.region (zm rfl (zs (op_addw (.r rfl) (.r rfl)) (za rfl (zn ?_)))))))
    obtain rfl := Option.some.inj hm
    exact nq ⟨_, hI1, ⟨[0], rfl, rfl, rfl, ⟨(.hs rfl rfl), (.d rfl), trivial⟩, trivial, (.lst rfl .nil)⟩⟩
  ·replace hm := iteF hc2 hm
   refine AW.exit (tq_exit (tq_exit ?_))
   obtain rfl := Option.some.inj hm
   obtain rfl := Option.some.inj hI1
   replace hm := hk1
   try dsimp only at hm
   refine bq_hit (nq (zr (zs (op_moveH .r) (zs (op_assignH .r) (zn (AW.moveL (n := 1) (f := SPair.e) (l := c1) 0 [2] rfl rfl ⟨rfl, trivial⟩ (AW.ret ?_)))))))
   obtain rfl := Option.some.inj hm
   exact ⟨_, [0, 1], (.tmp .r .nil), rfl, rfl, (.cons (.hs rfl rfl) .nil), (.dead (.lst rfl .nil))⟩
theorem m_block_Pairs_ok {n : Nat} {a1 : (List SBlock)} {a2 : Int} {r : ((List SPair) × Int)} (hm : m_block_Pairs n a1 a2 = some r) : Fn Tryz.prog 32 [(.sl (a1.map SBlock.e)), (.int .i64 a2)] (.tup [(.sl (r.1.map SPair.e)), (.int .i64 r.2)]) := by
 unfold m_block_Pairs at hm
 refine Fn.of_AW (fnn := Tryz.f32) Tryz.func32 rfl (Nat.le_of_ble_eq_true rfl) (fun g0 w0 hw0 => ?_)
 refine AW.reset 0 [(0, .d (.sl (a1.map SBlock.e))), (1, .d (.int .i64 a2))] [] (WOK.g0 hw0 (by simp)) ⟨[], rfl, rfl, rfl, ⟨(.d rfl), (.d rfl), trivial⟩, trivial, .nil⟩ (zr (zs (op_assignN .r) (za rfl (zn (AW.seq (AW.block (zr (zm rfl ?_))))))))
 obtain ⟨v3, hv3, hm⟩ := bindE hm
 refine zs (op_fn Tryz.call27 .r (.cons (.r rfl) .nil) (m_block_Valid_ok hv3)) (zs (op_not (.r rfl)) (za rfl (zn ?_)))
 refine AW.cond (b := _) rfl (fun hc1 => ?_) (fun hc1 => ?_)
 ·replace hm := iteT hc1 hm
  refine zr (zs (op_assignN .r) (za rfl (zn (AW.ret (bq_ret (tq_ret ?_))))))
  obtain rfl := Option.some.inj hm
  exact EndQ.d (.tmp .r (.tmp .r .nil)) rfl rfl
 ·replace hm := iteF hc1 hm
  refine zr (zm rfl (zs (op_lss (.r rfl) (.r rfl)) (zm rfl (AL.sF rfl rfl rfl rfl (fun g => op_moveD .r) (AL.sF rfl rfl rfl rfl (fun g => op_gtr (.we (nt g) rfl rfl) (.r rfl)) (zs (op_or (.r rfl) rfl (fun h => (.we (nt h) rfl rfl))) (za rfl (zn ?_))))))))
  refine AW.cond (b := _) rfl (fun hc2 => ?_) (fun hc2 => ?_)
  ·replace hm := iteT hc2 hm
   refine zr (zs (op_assignN .r) (za rfl (zn (AW.ret (bq_ret (tq_ret ?_))))))
   obtain rfl := Option.some.inj hm
   exact EndQ.d (.tmp .r (.tmp .r .nil)) rfl rfl
  ·replace hm := iteF hc2 hm
   refine AW.skip (bq_n (nq (zr (zs (op_assignN .r) (zn (AW.seq (zr (zm rfl (zs (op_lenM (f := SBlock.e) (.r rfl) sl26) (zm rfl (zn (AW.block (AW.lstize (n := 0) 6 64 2 rfl rfl ?_)))))))))))))
   obtain ⟨t_1, hI1, hk1⟩ := bindE hm
   refine AW.loopS (σ := (Int × (List SPair))) (τ := (List SPair)) 0 (fun x => [(1, .d (.int .i64 a2)), (6, .hs 0 0 x.2.length 2), (24, .d (.sl (a1.map SBlock.e))), (25, .d (.int .i64 (a1.length : Int))), (26, .d (.int .i64 x.1))]) (fun x => [.lst (x.2.map SPair.e) 64 2]) hI1 (WOK.g0 hw0 (by simp)) ⟨[0], rfl, rfl, rfl, ⟨(.d rfl), (.hs rfl rfl), (.d rfl), (.d rfl), (.d rfl), trivial⟩, trivial, (.lst rfl .nil)⟩ ?_
   rintro n1 ⟨s4, s5⟩ hI1
   obtain ⟨y_1, hm, hI1⟩ := iterS hI1
   replace hm : m_block_Pairs_L1 n _ _ s4 s5 = some y_1 := hm
   unfold m_block_Pairs_L1 at hm
   try dsimp only at hm
   refine zr (zs (op_lss (.r rfl) (.r rfl)) (zn (AW.seq ?_)))
   refine AW.cond (b := _) rfl (fun hc3 => ?_) (fun hc3 => ?_)
   ·replace hm := iteT hc3 hm
    refine AW.skip (nq ?_)
    obtain ⟨t_j1, hm, hkj1⟩ := bindE hm
    refine AW.cutS (α := (List SPair)) 0 (fun x => x = t_j1) (fun x => [(1, .d (.int .i64 a2)), (6, .hs 0 0 x.length 2), (24, .d (.sl (a1.map SBlock.e))), (25, .d (.int .i64 (a1.length : Int))), (26, .d (.int .i64 s4))]) (fun x => [.lst (x.map SPair.e) 64 2]) (WOK.g0 hw0 (by simp)) ?_ ?_
    ·skip
     refine AW.block (AW.reset 0 [(1, .d (.int .i64 a2)), (6, .hs 0 0 s5.length 2), (24, .d (.sl (a1.map SBlock.e))), (25, .d (.int .i64 (a1.length : Int))), (26, .d (.int .i64 s4))] [.lst (s5.map SPair.e) 64 2] (WOK.g0 hw0 (by simp)) ⟨[0], rfl, rfl, rfl, ⟨(.d rfl), (.hs rfl rfl), (.d rfl), (.d rfl), (.d rfl), trivial⟩, trivial, (.lst rfl .nil)⟩ (zr ?_))
     obtain ⟨v6, hv6, hm⟩ := bindE hm
     refine zs (op_indexAddrM (f := SBlock.e) (.r rfl) (.r rfl) hv6 enSBlock sl26) (zs (op_loadA .r rfl ag75) (zs (op_alloc (n := 1) zr75 rfl) (zs (op_store .r .r rfl rfl rfl ⟨_, rfl, rfl⟩ rfl (Nat.le_of_ble_eq_true rfl)) (zn (AW.seq (zr (zs (op_field_ptr .r fd75_1) (zs (op_load_ptr1 .r rfl rfl sc38) (zs (op_lenM (f := D.i) (.r rfl) sl38) (zm rfl (zs (op_gtr (.r rfl) (.r rfl)) (zn ?_))))))))))))
     refine AW.cond (b := _) rfl (fun hc4 => ?_) (fun hc4 => ?_)
     ·replace hm := iteT hc4 hm
      refine AW.exit (tq_exit (bq_hit ?_))
      obtain rfl := Option.some.inj hm
      exact nq ⟨_, rfl, ⟨[0], rfl, rfl, rfl, ⟨(.d rfl), (.hs rfl rfl), (.d rfl), (.d rfl), (.d rfl), trivial⟩, trivial, (.lst rfl .nil)⟩⟩
     ·replace hm := iteF hc4 hm
      refine AW.skip (nq (zr (zs (op_field_ptr .r fd75_1) (zs (op_load_ptr1 .r rfl rfl sc38) (zs (op_lenM (f := D.i) (.r rfl) sl38) (zm rfl (zn (AW.block ?_))))))))
      obtain ⟨t_2, hI2, hk2⟩ := bindE hm
      refine AW.loopS (σ := (Int × (List SPair))) (τ := (List SPair)) 0 (fun x => [(1, .d (.int .i64 a2)), (6, .hs 0 0 x.2.length 2), (8, .ptr 1 0), (24, .d (.sl (a1.map SBlock.e))), (25, .d (.int .i64 (a1.length : Int))), (26, .d (.int .i64 s4)), (36, .d (.sl (v6.fIDs.map D.i))), (37, .d (.int .i64 (v6.fIDs.length : Int))), (38, .d (.int .i64 x.1))]) (fun x => [.lst (x.2.map SPair.e) 64 2, .row [.d (.str v6.fKey), .d (.sl (v6.fIDs.map D.i))]]) hI2 (WOK.g0 hw0 (by simp)) ⟨[0, 1], rfl, rfl, rfl, ⟨(.d rfl), (.hs rfl rfl), (.ptr rfl), (.d rfl), (.d rfl), (.d rfl), (.d rfl), (.d rfl), (.d rfl), trivial⟩, trivial, (.lst rfl (.row rfl (.cons (.d rfl) (.cons (.d rfl) .nil)) .nil))⟩ ?_
      rintro n2 ⟨s7, s8⟩ hI2
      obtain ⟨y_2, hm, hI2⟩ := iterS hI2
      replace hm : m_block_Pairs_L2 n _ s7 s8 = some y_2 := hm
      unfold m_block_Pairs_L2 at hm
      try dsimp only at hm
      refine zr (zs (op_lss (.r rfl) (.r rfl)) (zn (AW.seq ?_)))
      refine AW.cond (b := _) rfl (fun hc5 => ?_) (fun hc5 => ?_)
      ·replace hm := iteT hc5 hm
       refine AW.skip (nq (AW.seq (AW.block (zr (zm rfl ?_)))))
       obtain ⟨v9, hv9, hm⟩ := bindE hm
       refine zs (op_indexAddrM (f := D.i) (.r rfl) (.r rfl) hv9 En.i sl38) (zs (op_load_vp1 .r rfl sc3) (za rfl (za rfl (zn (zr (zs (op_field_ptr .r fd75_1) (zs (op_load_ptr1 .r rfl rfl sc38) (zm rfl (zs (op_addw (.r rfl) (.r rfl)) ?_)))))))))
       obtain ⟨v10, hv10, hm⟩ := bindE hm
       refine zs (op_sliceM (f := D.i) (.r rfl) sl38 (.r rfl) rfl En.i hv10) (zs (op_lenM (f := D.i) (.r rfl) sl38) (zm rfl (zn (AW.block ?_))))
       obtain ⟨t_3, hI3, hk3⟩ := bindE hm
       refine AW.loopS (σ := (Int × (List SPair))) (τ := (List SPair)) 0 (fun x => [(1, .d (.int .i64 a2)), (6, .hs 0 0 x.2.length 2), (8, .ptr 1 0), (10, .d (.int .i64 v9)), (24, .d (.sl (a1.map SBlock.e))), (25, .d (.int .i64 (a1.length : Int))), (26, .d (.int .i64 s4)), (36, .d (.sl (v6.fIDs.map D.i))), (37, .d (.int .i64 (v6.fIDs.length : Int))), (38, .d (.int .i64 s7)), (47, .d (.sl (v10.map D.i))), (48, .d (.int .i64 (v10.length : Int))), (49, .d (.int .i64 x.1))]) (fun x => [.lst (x.2.map SPair.e) 64 2, .row [.d (.str v6.fKey), .d (.sl (v6.fIDs.map D.i))]]) hI3 (WOK.g0 hw0 (by simp)) ⟨[0, 1], rfl, rfl, rfl, ⟨(.d rfl), (.hs rfl rfl), (.ptr rfl), (.d rfl), (.d rfl), (.d rfl), (.d rfl), (.d rfl), (.d rfl), (.d rfl), (.d rfl), (.d rfl), (.d rfl), trivial⟩, trivial, (.lst rfl (.row rfl (.cons (.d rfl) (.cons (.d rfl) .nil)) .nil))⟩ ?_
       rintro n3 ⟨s11, s12⟩ hI3
       obtain ⟨y_3, hm, hI3⟩ := iterS hI3
       replace hm : m_block_Pairs_L3 n _ _ s11 s12 = some y_3 := hm
       unfold m_block_Pairs_L3 at hm
       try dsimp only at hm
       refine zr (zs (op_lss (.r rfl) (.r rfl)) (zn (AW.seq ?_)))
       refine AW.cond (b := _) rfl (fun hc6 => ?_) (fun hc6 => ?_)
       ·replace hm := iteT hc6 hm
        refine AW.skip (nq (AW.seq (AW.block (zr ?_))))
        obtain ⟨v13, hv13, hm⟩ := bindE hm
        refine zs (op_indexAddrM (f := D.i) (.r rfl) (.r rfl) hv13 En.i sl38) (zs (op_load_vp1 .r rfl sc3) (za rfl (zn (AW.region (zs (op_moveH .r) (zm rfl (zm rfl (zs (op_build bd64 (.cons .r rfl rfl rfl rfl (Nat.le_of_ble_eq_true rfl) (.cons .r rfl rfl rfl rfl (Nat.le_of_ble_eq_true rfl) .nil))) (zs (op_buildSlice (ds := ([(⟨v9, v13⟩ : SPair)] : List SPair).map SPair.e) sl59 (.cons (.r rfl) rfl (enSPair.one _) .nil) rfl (by decide)) ?_)))))))))
        obtain ⟨v14, hv14, hm⟩ := bindE hm
        refine zs (op_appendHM (n := 2) (f := SPair.e) (l := s12) (l' := ([(⟨v9, v13⟩ : SPair)] : List SPair)) sl59 .r (.r rfl) rfl rfl rfl enSPair hv14) (zs (op_assignH .r) (zn (bq_n (nq (AW.region (zs (op_addw (.r rfl) (.r rfl)) (zm rfl (zn ?_))))))))
        obtain rfl := Option.some.inj hm
        exact nq ⟨_, hI3, ⟨[2, 1], rfl, rfl, rfl, ⟨(.d rfl), (.hs rfl rfl), (.ptr rfl), (.d rfl), (.d rfl), (.d rfl), (.d rfl), (.d rfl), (.d rfl), (.d rfl), (.d rfl), (.d rfl), (.d rfl), trivial⟩, trivial, (.lst rfl (.row rfl (.cons (.d rfl) (.cons (.d rfl) .nil)) .nil))⟩⟩
       ·replace hm := iteF hc6 hm
        refine AW.exit (tq_exit (tq_exit ?_))
        obtain rfl := Option.some.inj hm
        obtain rfl := Option.some.inj hI3
        replace hm := hk3
        try dsimp only at hm
        refine bq_hit (bq_n (nq (AW.region (zs (op_addw (.r rfl) (.r rfl)) (zm rfl (zn ?_))))))
        obtain rfl := Option.some.inj hm
        exact nq ⟨_, hI2, ⟨[0, 1], rfl, rfl, rfl, ⟨(.d rfl), (.hs rfl rfl), (.ptr rfl), (.d rfl), (.d rfl), (.d rfl), (.d rfl), (.d rfl), (.d rfl), trivial⟩, trivial, (.lst rfl (.row rfl (.cons (.d rfl) (.cons (.d rfl) .nil)) .nil))⟩⟩
      ·replace hm := iteF hc5 hm
       refine AW.exit (tq_exit (tq_exit ?_))
       obtain rfl := Option.some.inj hm
       obtain rfl := Option.some.inj hI2
       replace hm := hk2
       try dsimp only at hm
       refine bq_hit (bq_n ?_)
       obtain rfl := Option.some.inj hm
       exact nq ⟨_, rfl, ⟨[0], rfl, rfl, rfl, ⟨(.d rfl), (.hs rfl rfl), (.d rfl), (.d rfl), (.d rfl), trivial⟩, trivial, (.lst rfl .nil)⟩⟩
    ·rintro s15 rfl
     replace hm := hkj1
     try dsimp only at hm
     refine AW.region (zs (op_addw (.r rfl) (.r rfl)) (zm rfl (zn ?_)))
     obtain rfl := Option.some.inj hm
     exact nq ⟨_, hI1, ⟨[0], rfl, rfl, rfl, ⟨(.d rfl), (.hs rfl rfl), (.d rfl), (.d rfl), (.d rfl), trivial⟩, trivial, (.lst rfl .nil)⟩⟩
   ·replace hm := iteF hc3 hm
    refine AW.exit (tq_exit (tq_exit ?_))
    obtain rfl := Option.some.inj hm
    obtain rfl := Option.some.inj hI1
    replace hm := hk1
    try dsimp only at hm
    refine bq_hit (nq (zr (zs (op_moveH .r) ?_)))
    obtain ⟨v16, hv16, hm⟩ := bindE hm
    refine zs (op_callF (v := .tup []) (H' := [.lst (v16.map SPair.e) 64 2]) [0] Tryz.call59 .r (.cons .r (.cons .r .nil)) (m_slices_SortFunc_api_Pair_api_Pair_ok hv16) rfl (.cons rfl .nil) rfl rfl rfl rfl rfl rfl rfl rfl) (zn (AW.reset 0 [(6, .hs 0 0 v16.length 2)] [.lst (v16.map SPair.e) 64 2] (WOK.g0 hw0 (by simp)) ⟨[0], rfl, rfl, rfl, ⟨(.hs rfl (m_slices_SortFunc_api_Pair_api_Pair_len hv16).symm), trivial⟩, trivial, (.lst rfl .nil)⟩ (zr (zs (op_moveH .r) ?_))))
    obtain ⟨v17, hv17, hm⟩ := bindE hm
    refine zs (op_callF (v := .hs 1 0 v17.length 2) (H' := [.dead, .lst (v17.map SPair.e) 64 2]) [0] Tryz.call63 .r (.cons .r .nil) (m_slices_Compact_api_Pair_api_Pair_ok hv17) rfl (.cons rfl .nil) rfl rfl rfl rfl rfl rfl rfl rfl) (zs (op_assignH .r) (za rfl (zn (AW.freeze (f := SPair.e) (l := v17) 1 [4, 65] rfl rfl enSPair ⟨rfl, rfl, trivial⟩ (AW.ret ?_)))))
    obtain rfl := Option.some.inj hm
    exact EndQ.d (.tmp .r (.tmp .r .nil)) rfl rfl
theorem m_slices_Sort_int_int_len {n : Nat} {c1 r : List Int} (hm : m_slices_Sort_int_int n c1 = some r) : r.length = c1.length := by
 unfold m_slices_Sort_int_int at hm
 split at hm
 ·injection hm with hm; subst hm; exact isort_len _ _
 ·cases hm
theorem m_slices_Sort_int_int_ok {n : Nat} {c1 r : List Int} (hm : m_slices_Sort_int_int n c1 = some r) : ACall Tryz.prog 66 [.hs 0 0 c1.length 1] [.lst (c1.map D.i) 3 1] fun r' H' => r' = resOf [] ∧ H' = [.lst (r.map D.i) 3 1] := by
 unfold m_slices_Sort_int_int at hm
 split at hm
 ·rename_i h; injection hm with hm; subst hm; exact ACall.sort_int sortsI h
 ·cases hm
theorem m_slices_Compact_int_int_ok {n : Nat} {c1 : (List Int)} {r : (List Int)} (hm : m_slices_Compact_int_int n c1 = some r) : ACall Tryz.prog 67 [.hs 0 0 c1.length 1] [.lst (c1.map D.i) 3 1] fun r' H' => r' = resOf [.hs 1 0 r.length 1] ∧ H' = [.dead, .lst (r.map D.i) 3 1] := by
 unfold m_slices_Compact_int_int at hm
 refine ACall.of_AWG (fnn := Tryz.f67) Tryz.func67 rfl (Nat.le_of_ble_eq_true rfl) (fun g0 w0 hw0 => ?_)
 refine AW.reset 1 [(0, .hs 0 0 c1.length 1)] [.lst (c1.map D.i) 3 1] (WOK.g0 hw0 (by simp)) ⟨[0], rfl, rfl, rfl, ⟨(.hs rfl rfl), trivial⟩, trivial, (.lst rfl .nil)⟩ (zr (zs (op_assignN .r) (zn (AW.seq (zr (zs (op_moveH .r) (zs (op_len_hs .r rfl sl38) (zs (op_lss (.r rfl) (.r rfl)) (zn ?_)))))))))
 refine AW.cond (b := _) rfl (fun hc1 => ?_) (fun hc1 => ?_)
 ·replace hm := iteT hc1 hm
  refine zr (zs (op_moveH .r) (zs (op_assignH .r) (zn (AW.moveL (n := 1) (f := D.i) (l := c1) 0 [2] rfl rfl ⟨rfl, trivial⟩ (AW.ret (tq_ret ?_))))))
  obtain rfl := Option.some.inj hm
  exact ⟨_, [0, 1], (.tmp .r .nil), rfl, rfl, (.cons (.hs rfl rfl) .nil), (.dead (.lst rfl .nil))⟩
 ·replace hm := iteF hc1 hm
  refine AW.skip (nq (AW.seq (zr (za rfl (zn (AW.block ?_))))))
  obtain ⟨t_1, hI1, hk1⟩ := bindE hm
  refine AW.loopS (σ := Int) (τ := ((List Int) ⊕ Unit)) 1 (fun x => [(0, .hs 0 0 c1.length 1), (3, .d (.int .i64 x))]) (fun x => [.lst (c1.map D.i) 3 1]) hI1 (WOK.g0 hw0 (by simp)) ⟨[0], rfl, rfl, rfl, ⟨(.hs rfl rfl), (.d rfl), trivial⟩, trivial, (.lst rfl .nil)⟩ ?_
  rintro n1 s2 hI1
  obtain ⟨y_1, hm, hI1⟩ := iterS hI1
  replace hm : m_slices_Compact_int_int_L1 n _ s2 = some y_1 := hm
  unfold m_slices_Compact_int_int_L1 at hm
  try dsimp only at hm
  refine AW.seq (zr (zm rfl (zs (op_moveH .r) (zs (op_len_hs .r rfl sl38) (zs (op_lss (.r rfl) (.r rfl)) (zn ?_))))))
  refine AW.cond (b := _) rfl (fun hc2 => ?_) (fun hc2 => ?_)
  ·replace hm := iteT hc2 hm
   refine AW.skip (nq (AW.seq (AW.block (AW.seqD [([], []), ([], []), ([0], []), ([0], []), ([], []), ([], []), ([], []), ([0], []), ([0], []), ([], [])] mo (by decide +kernel) (AD.s (ws := []) rfl rfl (fun H' _ hH => op_moveH .r) (AD.s (ws := []) rfl rfl (fun H' _ hH => op_moveD .r) ?_))))))
   obtain ⟨v3, hv3, hm⟩ := bindE hm
   refine AD.s (ws := []) rfl rfl (fun H' _ hH => op_indexAddr_hs (f := D.i) (l := c1) .r ((hH _ (by simp)).trans rfl) rfl (.r rfl) hv3 sl38) ?_
   obtain ⟨v4, hv4, hm⟩ := bindE hm
   refine AD.s (ws := []) rfl rfl (fun H' _ hH => op_load_lp (f := D.i) (fun _ => rfl) .r ((hH _ (by simp)).trans rfl) hv4 sc3) (AD.s (ws := []) rfl rfl (fun H' _ hH => op_moveH .r) (AD.s (ws := []) rfl rfl (fun H' _ hH => op_moveD .r) (AD.s (ws := []) rfl rfl (fun H' _ hH => op_subw (.r rfl) (.r rfl)) ?_)))
   obtain ⟨v5, hv5, hm⟩ := bindE hm
   refine AD.s (ws := []) rfl rfl (fun H' _ hH => op_indexAddr_hs (f := D.i) (l := c1) .r ((hH _ (by simp)).trans rfl) rfl (.r rfl) hv5 sl38) ?_
   obtain ⟨v6, hv6, hm⟩ := bindE hm
   refine AD.s (ws := []) rfl rfl (fun H' _ hH => op_load_lp (f := D.i) (fun _ => rfl) .r ((hH _ (by simp)).trans rfl) hv6 sc3) (AD.s (ws := []) rfl rfl (fun H' _ hH => op_eql (.r rfl) (.r rfl)) (AD.nil ?_))
   refine AW.cond (b := _) rfl (fun hc3 => ?_) (fun hc3 => ?_)
   ·replace hm := iteT hc3 hm
    refine zr (zs (op_moveH .r) (zm rfl ?_))
    obtain ⟨v7, hv7, hm⟩ := bindE hm
    refine zs (op_sliceH (f := D.i) (l := c1) .r rfl rfl sl38 (.r rfl) rfl hv7) (zs (op_assignH .r) (zn (AW.seq (zr (za rfl (zn (AW.block ?_)))))))
    obtain ⟨t_2, hI2, hk2⟩ := bindE hm
    refine AW.loopM (σ := (Int × Int × (List Int))) (τ := (Int × (List Int))) 1 [4] (fun x => [(0, .hs 0 0 x.2.2.length 1), (3, .d (.int .i64 x.1)), (5, .d (.int .i64 x.2.1))]) (fun x => [.lst (x.2.2.map D.i) 3 1]) hI2 (WOK.g0 hw0 (by simp)) ⟨[0], rfl, rfl, rfl, ⟨(.hs rfl rfl), (.d rfl), (.d rfl), trivial⟩, ⟨rfl, trivial⟩, (.lst rfl .nil)⟩ ?_
    rintro n2 ⟨s8, s9, s10⟩ hI2
    obtain ⟨y_2, hm, hI2⟩ := iterS hI2
    replace hm : m_slices_Compact_int_int_L2 n _ _ s8 s9 s10 = some y_2 := hm
    unfold m_slices_Compact_int_int_L2 at hm
    try dsimp only at hm
    refine AW.seq (zr (zm rfl (zs (op_moveH .r) (zs (op_len_hs .r rfl sl38) (zs (op_lss (.r rfl) (.r rfl)) (zn ?_))))))
    refine AW.cond (b := _) rfl (fun hc4 => ?_) (fun hc4 => ?_)
    ·replace hm := iteT hc4 hm
     refine AW.skip (nq ?_)
     obtain ⟨t_j1, hm, hkj1⟩ := bindE hm
     refine AW.cutM (α := (Int × (List Int))) 1 (fun x => x = t_j1) [4, 5] (fun x => [(0, .hs 0 0 x.2.length 1), (3, .d (.int .i64 x.1))]) (fun x => [.lst (x.2.map D.i) 3 1]) (WOK.g0 hw0 (by simp)) ?_ ?_
     ·skip
      refine AW.block (AW.seqD [([], []), ([], []), ([0], []), ([0], []), ([], []), ([], []), ([], []), ([0], []), ([0], []), ([], [])] mo (by decide +kernel) (AD.s (ws := []) rfl rfl (fun H' _ hH => op_moveH .r) (AD.s (ws := []) rfl rfl (fun H' _ hH => op_moveD .r) ?_)))
      obtain ⟨v11, hv11, hm⟩ := bindE hm
      refine AD.s (ws := []) rfl rfl (fun H' _ hH => op_indexAddr_pc (lo := s2) (r := v7) (a := s9) (ls := s10.map D.i) .r (slc_lo hv7) ((hH _ (by simp)).trans rfl) (.r rfl) hv11 sl38) ?_
      obtain ⟨v12, hv12, hm⟩ := bindE hm
      refine AD.s (ws := []) rfl rfl (fun H' _ hH => op_load_lp1 (f := D.i) (l := s10) (a := (s2 + s9)) (fun _ => rfl) .r ((hH _ (by simp)).trans rfl) hv12 sc3) (AD.s (ws := []) rfl rfl (fun H' _ hH => op_moveH .r) (AD.s (ws := []) rfl rfl (fun H' _ hH => op_moveD .r) (AD.s (ws := []) rfl rfl (fun H' _ hH => op_subw (.r rfl) (.r rfl)) ?_)))
      obtain ⟨v13, hv13, hm⟩ := bindE hm
      refine AD.s (ws := []) rfl rfl (fun H' _ hH => op_indexAddr_pc (lo := s2) (r := v7) (a := (IntKind.i64.wrap (s9 - (1 : Int)))) (ls := s10.map D.i) .r (slc_lo hv7) ((hH _ (by simp)).trans rfl) (.r rfl) hv13 sl38) ?_
      obtain ⟨v14, hv14, hm⟩ := bindE hm
      refine AD.s (ws := []) rfl rfl (fun H' _ hH => op_load_lp1 (f := D.i) (l := s10) (a := (s2 + (IntKind.i64.wrap (s9 - (1 : Int))))) (fun _ => rfl) .r ((hH _ (by simp)).trans rfl) hv14 sc3) (AD.s (ws := []) rfl rfl (fun H' _ hH => op_neq (.r rfl) (.r rfl)) (AD.nil ?_))
      refine AW.cond (b := _) rfl (fun hc5 => ?_) (fun hc5 => ?_)
      ·replace hm := iteT hc5 hm
       refine zr (zs (op_moveH .r) (zm rfl (zs (op_moveH .r) (zm rfl ?_))))
       obtain ⟨v15, hv15, hm⟩ := bindE hm
       refine zs (op_indexAddr_pc (lo := s2) (r := v7) (a := s9) (ls := s10.map D.i) .r (slc_lo hv7) rfl (.r rfl) hv15 sl38) ?_
       obtain ⟨v16, hv16, hm⟩ := bindE hm
       refine zs (op_load_lp1 (f := D.i) (l := s10) (a := (s2 + s9)) (fun _ => rfl) .r rfl hv16 sc3) ?_
       obtain ⟨v17, hv17, hm⟩ := bindE hm
       refine zs (op_indexAddr_hs (f := D.i) (l := s10) .r rfl rfl (.r rfl) hv17 sl38) ?_
       obtain ⟨v18, hv18, hm⟩ := bindE hm
       refine zs (op_store_lp (f := D.i) (fun _ => rfl) .r (.r rfl) rfl hv18 ⟨_, rfl, rfl⟩ En.i) (zn (AW.region (zm rfl (zs (op_addw (.r rfl) (.r rfl)) (za rfl (zn (bq_n ?_)))))))
       obtain rfl := Option.some.inj hm
       exact nq ⟨_, rfl, ⟨[0], rfl, rfl, rfl, ⟨(.hs rfl (setI_len hv18).symm), (.d rfl), trivial⟩, ⟨rfl, rfl, trivial⟩, (.lst rfl .nil)⟩⟩
      ·replace hm := iteF hc5 hm
       refine AW.skip (bq_n ?_)
       obtain rfl := Option.some.inj hm
       exact nq ⟨_, rfl, ⟨[0], rfl, rfl, rfl, ⟨(.hs rfl rfl), (.d rfl), trivial⟩, ⟨rfl, rfl, trivial⟩, (.lst rfl .nil)⟩⟩
     ·rintro ⟨s19, s20⟩ rfl
      replace hm := hkj1
      try dsimp only at hm
      refine AW.region (zm rfl (zs (op_addw (.r rfl) (.r rfl)) (za rfl (zn ?_))))
      obtain rfl := Option.some.inj hm
      exact nq ⟨_, hI2, ⟨[0], rfl, rfl, rfl, ⟨(.hs rfl rfl), (.d rfl), (.d rfl), trivial⟩, ⟨rfl, trivial⟩, (.lst rfl .nil)⟩⟩
    ·replace hm := iteF hc4 hm
     refine AW.exit (tq_exit (tq_exit ?_))
     obtain rfl := Option.some.inj hm
     obtain rfl := Option.some.inj hI2
     replace hm := hk2
     try dsimp only at hm
     refine bq_hit (nq (zr (zs (op_moveH .r) (zm rfl ?_))))
     obtain ⟨v21, hv21, hm⟩ := bindE hm
     refine zs (op_sliceH (f := D.i) (l := s10) .r rfl rfl sl38 (.r rfl) rfl hv21) (zs (op_clear (f := D.i) (l := s10) (z := ((0 : Int) : Int)) En.i .r rfl (slc_le hv21) sl38 zr3 rfl) (zn (zr (zs (op_moveH .r) (zm rfl ?_)))))
     obtain ⟨v22, hv22, hm⟩ := bindE hm
     refine zs (op_truncH (f := D.i) (l := (clrL s10 s8.toNat v21.length ((0 : Int) : Int))) .r rfl (clrL_len (slc_le hv21)) sl38 (.r rfl) hv22) (zs (op_assignH .r) (zn (AW.moveL (n := 1) (f := D.i) (l := v22) 0 [2] rfl rfl ⟨rfl, trivial⟩ (AW.ret (bq_ret (tq_ret (tq_ret ?_)))))))
     obtain rfl := Option.some.inj hm
     obtain rfl := Option.some.inj hI1
     replace hm := hk1
     try dsimp only at hm
     refine bq_ret (tq_ret ?_)
     obtain rfl := Option.some.inj hm
     exact ⟨_, [0, 1], (.tmp .r .nil), rfl, rfl, (.cons (.hs rfl rfl) .nil), (.dead (.lst rfl .nil))⟩
   ·replace hm := iteF hc3 hm
    refine AW.skip (bq_n (nq (AW.region (zm rfl (zs (op_addw (.r rfl) (.r rfl)) (za rfl (zn ?_)))))))
    obtain rfl := Option.some.inj hm
    exact nq ⟨_, hI1, ⟨[0], rfl, rfl, rfl, ⟨(.hs rfl rfl), (.d rfl), trivial⟩, trivial, (.lst rfl .nil)⟩⟩
  ·replace hm := iteF hc2 hm
   refine AW.exit (tq_exit (tq_exit ?_))
   obtain rfl := Option.some.inj hm
   obtain rfl := Option.some.inj hI1
   replace hm := hk1
   try dsimp only at hm
   refine bq_hit (nq (zr (zs (op_moveH .r) (zs (op_assignH .r) (zn (AW.moveL (n := 1) (f := D.i) (l := c1) 0 [2] rfl rfl ⟨rfl, trivial⟩ (AW.ret ?_)))))))
   obtain rfl := Option.some.inj hm
   exact ⟨_, [0, 1], (.tmp .r .nil), rfl, rfl, (.cons (.hs rfl rfl) .nil), (.dead (.lst rfl .nil))⟩
theorem m_block_Near_ok {n : Nat} {a1 : (List SBlock)} {a2 : SFeatures} {a3 : Int} {r : ((List Int) × Int)} (hm : m_block_Near n a1 a2 a3 = some r) : Fn Tryz.prog 35 [(.sl (a1.map SBlock.e)), (SFeatures.e a2), (.int .i64 a3)] (.tup [(.sl (r.1.map D.i)), (.int .i64 r.2)]) := by
 unfold m_block_Near at hm
 refine Fn.of_AW (fnn := Tryz.f35) Tryz.func35 rfl (Nat.le_of_ble_eq_true rfl) (fun g0 w0 hw0 => ?_)
 refine AW.reset 0 [(0, .d (.sl (a1.map SBlock.e))), (1, .d (SFeatures.e a2)), (2, .d (.int .i64 a3))] [] (WOK.g0 hw0 (by simp)) ⟨[], rfl, rfl, rfl, ⟨(.d rfl), (.d rfl), (.d rfl), trivial⟩, trivial, .nil⟩ (zr (zs (op_box (n := 0) .r rfl rfl rfl) (zs (op_assignN .r) (za rfl (zn (AW.seq (AW.block (zr (zm rfl ?_)))))))))
 obtain ⟨v4, hv4, hm⟩ := bindE hm
 refine zs (op_fn Tryz.call27 .r (.cons (.r rfl) .nil) (m_block_Valid_ok hv4)) (zs (op_not (.r rfl)) (zm rfl (AL.sF rfl rfl rfl rfl (fun g => op_load_ptrA .r rfl rfl rfl ag43) ?_)))
 obtain ⟨v5, hv5, hm⟩ := bindE hm
 refine AL.sF rfl rfl rfl rfl (fun g => op_fn Tryz.call42 .r (.cons (.we (nt g) rfl rfl) .nil) (m_feature_Valid_ok (iteT (nt g) hv5))) (AL.sF rfl rfl rfl rfl (fun g => op_not (.we (nt g) rfl rfl)) (zs (op_or (.r rfl) rfl (fun h => (.we (nt h) rfl rfl))) (za rfl (zn ?_))))
 refine AW.cond (b := _) rfl (fun hc1 => ?_) (fun hc1 => ?_)
 ·replace hm := iteT hc1 hm
  refine zr (zs (op_assignN .r) (za rfl (zn (AW.ret (bq_ret (tq_ret ?_))))))
  obtain rfl := Option.some.inj hm
  exact EndQ.d (.tmp .r (.tmp .r .nil)) rfl rfl
 ·replace hm := iteF hc1 hm
  refine zr (zm rfl (zs (op_field_ptr .r fd43_0) (zs (op_load_ptr1 .r rfl rfl sc3) ?_)))
  obtain ⟨v6, hv6, hm⟩ := bindE hm
  refine zs (op_fn Tryz.call52 .r (.cons (.r rfl) (.cons (.r rfl) .nil)) (m_block_has_ok hv6)) (za rfl (zn ?_))
  refine AW.cond (b := _) rfl (fun hc2 => ?_) (fun hc2 => ?_)
  ·replace hm := iteT hc2 hm
   refine zr (zs (op_assignN .r) (za rfl (zn (AW.ret (bq_ret (tq_ret ?_))))))
   obtain rfl := Option.some.inj hm
   exact EndQ.d (.tmp .r (.tmp .r .nil)) rfl rfl
  ·replace hm := iteF hc2 hm
   refine zr (zm rfl (zs (op_lss (.r rfl) (.r rfl)) (zm rfl (AL.sF rfl rfl rfl rfl (fun g => op_moveD .r) (AL.sF rfl rfl rfl rfl (fun g => op_gtr (.we (nt g) rfl rfl) (.r rfl)) (zs (op_or (.r rfl) rfl (fun h => (.we (nt h) rfl rfl))) (za rfl (zn ?_))))))))
   refine AW.cond (b := _) rfl (fun hc3 => ?_) (fun hc3 => ?_)
   ·replace hm := iteT hc3 hm
    refine zr (zs (op_assignN .r) (za rfl (zn (AW.ret (bq_ret (tq_ret ?_))))))
    obtain rfl := Option.some.inj hm
    exact EndQ.d (.tmp .r (.tmp .r .nil)) rfl rfl
   ·replace hm := iteF hc3 hm
    refine AW.skip (bq_n (nq (zr (zs (op_assignN .r) (zn (AW.seq (zr (zs (op_load_ptrA .r rfl rfl rfl ag43) ?_))))))))
    obtain ⟨v7, hv7, hm⟩ := bindE hm
    refine zs (op_fn Tryz.call17 .r (.cons (.r rfl) .nil) (m_block_Keys_ok hv7)) (zs (op_lenM (f := D.str) (.r rfl) sl37) (zm rfl (zn (AW.block (AW.lstize (n := 1) 8 3 1 rfl rfl ?_)))))
    obtain ⟨t_1, hI1, hk1⟩ := bindE hm
    refine AW.loopS (σ := (Int × (List Int))) (τ := (List Int)) 0 (fun x => [(0, .d (.sl (a1.map SBlock.e))), (2, .d (.int .i64 a3)), (8, .hs 1 0 x.2.length 1), (35, .d (.sl (v7.map D.str))), (36, .d (.int .i64 (v7.length : Int))), (37, .d (.int .i64 x.1))]) (fun x => [.row [.d (.int .i64 a2.fID), .d (.sl (a2.fTitle.map D.str)), .d (.str a2.fAuthor), .d (.sl (a2.fYears.map D.i)), .d (.sl (a2.fIsbns.map D.str)), .d (.sl (a2.fLangs.map D.str)), .d (.sl (a2.fPublisher.map D.str)), .d (.sl (a2.fEdition.map D.str))], .lst (x.2.map D.i) 3 1]) hI1 (WOK.g0 hw0 (by simp)) ⟨[0, 1], rfl, rfl, rfl, ⟨(.d rfl), (.d rfl), (.hs rfl rfl), (.d rfl), (.d rfl), (.d rfl), trivial⟩, trivial, (.row rfl (.cons (.d rfl) (.cons (.d rfl) (.cons (.d rfl) (.cons (.d rfl) (.cons (.d rfl) (.cons (.d rfl) (.cons (.d rfl) (.cons (.d rfl) .nil)))))))) (.lst rfl .nil))⟩ ?_
    rintro n1 ⟨s8, s9⟩ hI1
    obtain ⟨y_1, hm, hI1⟩ := iterS hI1
    replace hm : m_block_Near_L1 n _ _ _ s8 s9 = some y_1 := hm
    unfold m_block_Near_L1 at hm
    try dsimp only at hm
    refine zr (zs (op_lss (.r rfl) (.r rfl)) (zn (AW.seq ?_)))
    refine AW.cond (b := _) rfl (fun hc4 => ?_) (fun hc4 => ?_)
    ·replace hm := iteT hc4 hm
     refine AW.skip (nq ?_)
     obtain ⟨t_j1, hm, hkj1⟩ := bindE hm
     refine AW.cutS (α := (List Int)) 0 (fun x => x = t_j1) (fun x => [(0, .d (.sl (a1.map SBlock.e))), (2, .d (.int .i64 a3)), (8, .hs 1 0 x.length 1), (35, .d (.sl (v7.map D.str))), (36, .d (.int .i64 (v7.length : Int))), (37, .d (.int .i64 s8))]) (fun x => [.row [.d (.int .i64 a2.fID), .d (.sl (a2.fTitle.map D.str)), .d (.str a2.fAuthor), .d (.sl (a2.fYears.map D.i)), .d (.sl (a2.fIsbns.map D.str)), .d (.sl (a2.fLangs.map D.str)), .d (.sl (a2.fPublisher.map D.str)), .d (.sl (a2.fEdition.map D.str))], .lst (x.map D.i) 3 1]) (WOK.g0 hw0 (by simp)) ?_ ?_
     ·skip
      refine AW.block (zr ?_)
      obtain ⟨v10, hv10, hm⟩ := bindE hm
      refine zs (op_indexAddrM (f := D.str) (.r rfl) (.r rfl) hv10 En.str sl37) (zs (op_load_vp1 .r rfl sc9) (za rfl (zn (zr (zm rfl (zm rfl ?_))))))
      obtain ⟨v11, hv11, hm⟩ := bindE hm
      refine zs (op_fn Tryz.call65 .r (.cons (.r rfl) (.cons (.r rfl) .nil)) (m_block_find_ok hv11)) (zm rfl (zs (op_extractD .r rfl) (zs (op_extractD .r rfl) (za rfl (za rfl (zn (AW.reset 0 [(0, .d (.sl (a1.map SBlock.e))), (2, .d (.int .i64 a3)), (8, .hs 1 0 s9.length 1), (11, .d (.int .i64 v11.1)), (12, .d (.bool v11.2)), (35, .d (.sl (v7.map D.str))), (36, .d (.int .i64 (v7.length : Int))), (37, .d (.int .i64 s8))] [.row [.d (.int .i64 a2.fID), .d (.sl (a2.fTitle.map D.str)), .d (.str a2.fAuthor), .d (.sl (a2.fYears.map D.i)), .d (.sl (a2.fIsbns.map D.str)), .d (.sl (a2.fLangs.map D.str)), .d (.sl (a2.fPublisher.map D.str)), .d (.sl (a2.fEdition.map D.str))], .lst (s9.map D.i) 3 1] (WOK.g0 hw0 (by simp)) ⟨[0, 1], rfl, rfl, rfl, ⟨(.d rfl), (.d rfl), (.hs rfl rfl), (.d rfl), (.d rfl), (.d rfl), (.d rfl), (.d rfl), trivial⟩, trivial, (.row rfl (.cons (.d rfl) (.cons (.d rfl) (.cons (.d rfl) (.cons (.d rfl) (.cons (.d rfl) (.cons (.d rfl) (.cons (.d rfl) (.cons (.d rfl) .nil)))))))) (.lst rfl .nil))⟩ (zr (zm rfl (zm rfl (AL.sT rfl rfl rfl rfl (fun g => op_moveD .r) (AL.sT rfl rfl rfl rfl (fun g => op_moveD .r) ?_))))))))))))
      obtain ⟨v12, hv12, hm⟩ := bindE hm
      refine AL.sT rfl rfl rfl rfl (fun g => op_indexAddrM (f := SBlock.e) (.we g rfl rfl) (.we g rfl rfl) (iteT g hv12) enSBlock sl26) (AL.sT rfl rfl rfl rfl (fun g => op_field_vp (.we g rfl) fd75_1) (AL.sT rfl rfl rfl rfl (fun g => op_load_vp1 (.we g rfl) rfl sc38) (AL.sT rfl rfl rfl rfl (fun g => op_lenM (f := D.i) (.we g rfl rfl) sl38) (AL.sT rfl rfl rfl rfl (fun g => op_moveD .r) (AL.sT rfl rfl rfl rfl (fun g => op_lss (.we g rfl rfl) (.we g rfl rfl)) (zs (op_and (.r rfl) (fun h => (.we h rfl rfl)) rfl) (zn ?_)))))))
      refine AW.cond (b := _) rfl (fun hc5 => ?_) (fun hc5 => ?_)
      ·replace hm := iteT hc5 hm
       refine AW.region (zs (op_moveH .r) (zm rfl (zm rfl ?_)))
       obtain ⟨v13, hv13, hm⟩ := bindE hm
       refine zs (op_indexAddrM (f := SBlock.e) (.r rfl) (.r rfl) hv13 enSBlock sl26) (zs (op_field_vp .r fd75_1) (zs (op_load_vp1 .r rfl sc38) ?_))
       obtain ⟨v14, hv14, hm⟩ := bindE hm
       refine zs (op_appendHM (n := 2) (f := D.i) (l := s9) (l' := v13.fIDs) sl38 .r (.r rfl) rfl rfl rfl En.i hv14) (zs (op_assignH .r) (zn (bq_n ?_)))
       obtain rfl := Option.some.inj hm
       exact nq ⟨_, rfl, ⟨[0, 2], rfl, rfl, rfl, ⟨(.d rfl), (.d rfl), (.hs rfl rfl), (.d rfl), (.d rfl), (.d rfl), trivial⟩, trivial, (.row rfl (.cons (.d rfl) (.cons (.d rfl) (.cons (.d rfl) (.cons (.d rfl) (.cons (.d rfl) (.cons (.d rfl) (.cons (.d rfl) (.cons (.d rfl) .nil)))))))) (.lst rfl .nil))⟩⟩
      ·replace hm := iteF hc5 hm
       refine AW.skip (bq_n ?_)
       obtain rfl := Option.some.inj hm
       exact nq ⟨_, rfl, ⟨[0, 1], rfl, rfl, rfl, ⟨(.d rfl), (.d rfl), (.hs rfl rfl), (.d rfl), (.d rfl), (.d rfl), trivial⟩, trivial, (.row rfl (.cons (.d rfl) (.cons (.d rfl) (.cons (.d rfl) (.cons (.d rfl) (.cons (.d rfl) (.cons (.d rfl) (.cons (.d rfl) (.cons (.d rfl) .nil)))))))) (.lst rfl .nil))⟩⟩
     ·rintro s15 rfl
      replace hm := hkj1
      try dsimp only at hm
      refine AW.region (zs (op_addw (.r rfl) (.r rfl)) (zm rfl (zn ?_)))
      obtain rfl := Option.some.inj hm
      exact nq ⟨_, hI1, ⟨[0, 1], rfl, rfl, rfl, ⟨(.d rfl), (.d rfl), (.hs rfl rfl), (.d rfl), (.d rfl), (.d rfl), trivial⟩, trivial, (.row rfl (.cons (.d rfl) (.cons (.d rfl) (.cons (.d rfl) (.cons (.d rfl) (.cons (.d rfl) (.cons (.d rfl) (.cons (.d rfl) (.cons (.d rfl) .nil)))))))) (.lst rfl .nil))⟩⟩
    ·replace hm := iteF hc4 hm
     refine AW.exit (tq_exit (tq_exit ?_))
     obtain rfl := Option.some.inj hm
     obtain rfl := Option.some.inj hI1
     replace hm := hk1
     try dsimp only at hm
     refine bq_hit (nq (zr (zs (op_moveH .r) ?_)))
     obtain ⟨v16, hv16, hm⟩ := bindE hm
     refine zs (op_callF (v := .tup []) (H' := [.row [.d (.int .i64 a2.fID), .d (.sl (a2.fTitle.map D.str)), .d (.str a2.fAuthor), .d (.sl (a2.fYears.map D.i)), .d (.sl (a2.fIsbns.map D.str)), .d (.sl (a2.fLangs.map D.str)), .d (.sl (a2.fPublisher.map D.str)), .d (.sl (a2.fEdition.map D.str))], .lst (v16.map D.i) 3 1]) [1] Tryz.call66 .r (.cons .r .nil) (m_slices_Sort_int_int_ok hv16) rfl (.cons rfl .nil) rfl rfl rfl rfl rfl rfl rfl rfl) (zn (AW.reset 0 [(8, .hs 1 0 v16.length 1)] [.row [.d (.int .i64 a2.fID), .d (.sl (a2.fTitle.map D.str)), .d (.str a2.fAuthor), .d (.sl (a2.fYears.map D.i)), .d (.sl (a2.fIsbns.map D.str)), .d (.sl (a2.fLangs.map D.str)), .d (.sl (a2.fPublisher.map D.str)), .d (.sl (a2.fEdition.map D.str))], .lst (v16.map D.i) 3 1] (WOK.g0 hw0 (by simp)) ⟨[0, 1], rfl, rfl, rfl, ⟨(.hs rfl (m_slices_Sort_int_int_len hv16).symm), trivial⟩, trivial, (.row rfl (.cons (.d rfl) (.cons (.d rfl) (.cons (.d rfl) (.cons (.d rfl) (.cons (.d rfl) (.cons (.d rfl) (.cons (.d rfl) (.cons (.d rfl) .nil)))))))) (.lst rfl .nil))⟩ (zr (zs (op_moveH .r) ?_))))
     obtain ⟨v17, hv17, hm⟩ := bindE hm
     refine zs (op_callF (v := .hs 2 0 v17.length 1) (H' := [.row [.d (.int .i64 a2.fID), .d (.sl (a2.fTitle.map D.str)), .d (.str a2.fAuthor), .d (.sl (a2.fYears.map D.i)), .d (.sl (a2.fIsbns.map D.str)), .d (.sl (a2.fLangs.map D.str)), .d (.sl (a2.fPublisher.map D.str)), .d (.sl (a2.fEdition.map D.str))], .dead, .lst (v17.map D.i) 3 1]) [1] Tryz.call67 .r (.cons .r .nil) (m_slices_Compact_int_int_ok hv17) rfl (.cons rfl .nil) rfl rfl rfl rfl rfl rfl rfl rfl) (zs (op_assignH .r) (za rfl (zn (AW.freeze (f := D.i) (l := v17) 2 [6, 69] rfl rfl En.i ⟨rfl, rfl, trivial⟩ (AW.ret ?_)))))
     obtain rfl := Option.some.inj hm
     exact EndQ.d (.tmp .r (.tmp .r .nil)) rfl rfl
theorem m_slices_IndexFunc_feature_Features_feature_Features_ok {n : Nat} {H : List HE} {a1 : (List SFeatures)} {p2 : SFeatures → Option Bool} {r : Int} {ff_p2 : FuncId} {caps_p2 : List V} (hff_p2 : ∀ (a : Array Value) (w : World), (callFunc ff_p2 a).run Tryz.prog w = .ok (.enter ff_p2 a) w) (hF_p2 : ∀ (y1 : SFeatures) (b : Bool), p2 y1 = some b → ACall Tryz.prog ff_p2 (.d (SFeatures.e y1) :: caps_p2) H fun r' H' => r' = .d (.bool b) ∧ H' = H) (hm : m_slices_IndexFunc_feature_Features_feature_Features n a1 p2 = some r) : ACall Tryz.prog 68 [.d (.sl (a1.map SFeatures.e)), .fn (.func ff_p2) caps_p2] H fun r' H' => r' = .d (.int .i64 r) ∧ H' = H := by
 unfold m_slices_IndexFunc_feature_Features_feature_Features at hm
 refine ACall.of_AW (fnn := Tryz.f68) Tryz.func68 rfl (Nat.le_of_ble_eq_true rfl) (fun g0 w0 hw0 => ?_)
 refine zr (za rfl (zn (AW.seq (zr (zm rfl (zs (op_lenM (f := SFeatures.e) (.r rfl) sl30) (zm rfl (zn (AW.block ?_)))))))))
 obtain ⟨t_1, hI1, hk1⟩ := bindE hm
 refine AW.loopN (σ := Int) (τ := (Int ⊕ Unit)) [0, 1, 7] (fun x => [(8, .d (.int .i64 x))]) hI1 ⟨by first | exact .of rfl | exact .d rfl, trivial⟩ ?_
 rintro n1 s3 hI1
 obtain ⟨y_1, hm, hI1⟩ := iterS hI1
 replace hm : m_slices_IndexFunc_feature_Features_feature_Features_L1 n _ _ s3 = some y_1 := hm
 unfold m_slices_IndexFunc_feature_Features_feature_Features_L1 at hm
 try dsimp only at hm
 refine zr (zs (op_lss (.r rfl) (.r rfl)) (zn (AW.seq ?_)))
 refine AW.cond (b := _) rfl (fun hc1 => ?_) (fun hc1 => ?_)
 ·replace hm := iteT hc1 hm
  refine AW.skip (nq (AW.seq (AW.block (zr (zm rfl (za rfl (zn (zr (zs (op_moveF .r) (zm rfl (zm rfl ?_)))))))))))
  obtain ⟨v4, hv4, hm⟩ := bindE hm
  refine zs (op_indexAddrM (f := SFeatures.e) (.r rfl) (.r rfl) hv4 enSFeatures sl30) (zs (op_loadA .r rfl ag43) ?_)
  obtain ⟨v5, hv5, hm⟩ := bindE hm
  refine zs (op_call hff_p2 .r (.cons .r .nil) (hF_p2 _ _ hv5)) (zn ?_)
  refine AW.cond (b := _) rfl (fun hc2 => ?_) (fun hc2 => ?_)
  ·replace hm := iteT hc2 hm
   refine zr (zm rfl (za rfl (zn (AW.ret (bq_ret (tq_ret (tq_ret ?_)))))))
   obtain rfl := Option.some.inj hm
   obtain rfl := Option.some.inj hI1
   replace hm := hk1
   try dsimp only at hm
   refine bq_ret (tq_ret ?_)
   obtain rfl := Option.some.inj hm
   exact ⟨_, _, (.tmp .r .nil), .d rfl, rfl, rfl⟩
  ·replace hm := iteF hc2 hm
   refine AW.skip (bq_n (nq (AW.region (zs (op_addw (.r rfl) (.r rfl)) (zm rfl (zn ?_))))))
   obtain rfl := Option.some.inj hm
   exact nq ⟨_, hI1, ⟨by first | exact .of rfl | exact .d rfl, trivial⟩, ⟨rfl, rfl, rfl, trivial⟩, rfl⟩
 ·replace hm := iteF hc1 hm
  refine AW.exit (tq_exit (tq_exit ?_))
  obtain rfl := Option.some.inj hm
  obtain rfl := Option.some.inj hI1
  replace hm := hk1
  try dsimp only at hm
  refine bq_hit (nq (zr (za rfl (zn (AW.ret ?_)))))
  obtain rfl := Option.some.inj hm
  exact ⟨_, _, (.tmp .r .nil), .d rfl, rfl, rfl⟩
end Go.Proofs.YtkdefjliknpliaaGreatDoor.Ab
