/- The functions do what they are in plain Lean. Conditions: none. -/
import Derived.Test.YtkdefjliknpliaaGreatDoorTy
import Derived.Test.YtkdefjliknpliaaGreatDoorMi
import Derived.Test.YtkdefjliknpliaaGreatDoorFa
set_option maxRecDepth 100000
set_option maxHeartbeats 20000000
namespace Go.Proofs.YtkdefjliknpliaaGreatDoor.Ab
open Go
attribute [local irreducible] AL AD AW nlO nlV nlD

theorem m_block_find_1_ok {n : Nat} {a1 : SBlock} {a2 : (List UInt8)} {r : Int} (hm : m_block_find_1 n a1 a2 = some r) : Fn Tryz.prog 99 [(SBlock.e a1), (.str a2)] (.int .i64 r) := by
 unfold m_block_find_1 at hm
 refine Fn.of_AW (fnn := Tryz.f99) Tryz.func99 rfl (Nat.le_of_ble_eq_true rfl) (fun g0 w0 hw0 => ?_)
 refine zr (zs (op_box (n := 0) .r rfl rfl rfl) (za rfl (zn (zr (zs (op_field_ptr .r fd75_0) (zs (op_load_ptr1 .r rfl rfl sc9) (zm rfl ?_)))))))
 obtain ⟨v3, hv3, hm⟩ := bindE hm
 refine zs (op_fn Tryz.call100 .r (.cons (.r rfl) (.cons (.r rfl) .nil)) (m_cmp_Compare_string_ok hv3)) (za rfl (zn (AW.ret ?_)))
 obtain rfl := Option.some.inj hm
 exact EndQ.d (.tmp .r .nil) rfl rfl

theorem m_slices_BinarySearchFunc_block_Table_block_Block_string_ok {n : Nat} {a1 : (List SBlock)} {a2 : (List UInt8)} {r : (Int × Bool)} (hm : m_slices_BinarySearchFunc_block_Table_block_Block_string n a1 a2 = some r) : ACall Tryz.prog 98 [.d (.sl (a1.map SBlock.e)), .d (.str a2), .fn (.func 99) []] [] fun r' H' => r' = resOf [.d (.int .i64 r.1), .d (.bool r.2)] ∧ H' = [] := by
 unfold m_slices_BinarySearchFunc_block_Table_block_Block_string at hm
 refine ACall.of_AWG (fnn := Tryz.f98) Tryz.func98 rfl (Nat.le_of_ble_eq_true rfl) (fun g0 w0 hw0 => ?_)
 refine AW.reset 0 [(0, .d (.sl (a1.map SBlock.e))), (1, .d (.str a2)), (2, .fn (.func 99) [])] [] (WOK.g0 hw0 (by simp)) ⟨[], rfl, rfl, rfl, ⟨(.d rfl), (.d rfl), .fn0, trivial⟩, trivial, .nil⟩ (zr (za rfl (za rfl (zn (zr (zm rfl (zs (op_lenM (f := SBlock.e) (.r rfl) sl26) (za rfl (zn (zr (zm rfl (za rfl (za rfl (zn (AW.seq (AW.block ?_))))))))))))))))
 obtain ⟨t_1, hI1, hk1⟩ := bindE hm
 refine AW.loopS (σ := (Int × Int)) (τ := Int) 0 (fun x => [(0, .d (.sl (a1.map SBlock.e))), (1, .d (.str a2)), (2, .fn (.func 99) []), (8, .d (.int .i64 (a1.length : Int))), (9, .d (.int .i64 x.1)), (10, .d (.int .i64 x.2))]) (fun x => []) hI1 (WOK.g0 hw0 (by simp)) ⟨[], rfl, rfl, rfl, ⟨(.d rfl), (.d rfl), .fn0, (.d rfl), (.d rfl), (.d rfl), trivial⟩, trivial, .nil⟩ ?_
 rintro n1 ⟨s3, s4⟩ hI1
 obtain ⟨y_1, hm, hI1⟩ := iterS hI1
 replace hm : m_slices_BinarySearchFunc_block_Table_block_Block_string_L1 n _ _ s3 s4 = some y_1 := hm
 unfold m_slices_BinarySearchFunc_block_Table_block_Block_string_L1 at hm
 try dsimp only at hm
 refine AW.seq (zr (zm rfl (zm rfl (zs (op_lss (.r rfl) (.r rfl)) (zn ?_)))))
 refine AW.cond (b := _) rfl (fun hc1 => ?_) (fun hc1 => ?_)
 ·replace hm := iteT hc1 hm
  refine AW.skip (nq (AW.block (zr (zm rfl (zm rfl (zs (op_addw (.r rfl) (.r rfl)) (zs (op_conv_int (.r rfl) ⟨_, Tryz.underlying3⟩ Tryz.underlying127) ?_)))))))
  obtain ⟨v5, hv5, hm⟩ := bindE hm
  refine zs (op_shrM (.r rfl) (.r rfl) hv5) (zs (op_conv_int (.r rfl) ⟨_, Tryz.underlying127⟩ Tryz.underlying3) (za rfl (zn (zr (zs (op_moveF .r) (zm rfl (zm rfl ?_)))))))
  obtain ⟨v6, hv6, hm⟩ := bindE hm
  refine zs (op_indexAddrM (f := SBlock.e) (.r rfl) (.r rfl) hv6 enSBlock sl26) (zs (op_loadA .r rfl ag75) (zm rfl ?_))
  obtain ⟨v7, hv7, hm⟩ := bindE hm
  refine zs (op_fn Tryz.call99 .r (.cons (.r rfl) (.cons (.r rfl) .nil)) (m_block_find_1_ok hv7)) (zs (op_lss (.r rfl) (.r rfl)) (zn ?_))
  refine AW.cond (b := _) rfl (fun hc2 => ?_) (fun hc2 => ?_)
  ·replace hm := iteT hc2 hm
   refine AW.region (zm rfl (zs (op_addw (.r rfl) (.r rfl)) (za rfl (zn (bq_n ?_)))))
   obtain rfl := Option.some.inj hm
   exact nq ⟨_, hI1, ⟨[], rfl, rfl, rfl, ⟨(.d rfl), (.d rfl), .fn0, (.d rfl), (.d rfl), (.d rfl), trivial⟩, trivial, .nil⟩⟩
  ·replace hm := iteF hc2 hm
   refine AW.region (zm rfl (za rfl (zn (bq_n ?_))))
   obtain rfl := Option.some.inj hm
   exact nq ⟨_, hI1, ⟨[], rfl, rfl, rfl, ⟨(.d rfl), (.d rfl), .fn0, (.d rfl), (.d rfl), (.d rfl), trivial⟩, trivial, .nil⟩⟩
 ·replace hm := iteF hc1 hm
  refine AW.exit (tq_exit (tq_exit ?_))
  obtain rfl := Option.some.inj hm
  obtain rfl := Option.some.inj hI1
  replace hm := hk1
  try dsimp only at hm
  refine bq_hit (nq (zr (zm rfl (zm rfl (zm rfl (zs (op_lss (.r rfl) (.r rfl)) (zm rfl (AL.sT rfl rfl rfl rfl (fun g => op_moveF .r) (AL.sT rfl rfl rfl rfl (fun g => op_moveD .r) (AL.sT rfl rfl rfl rfl (fun g => op_moveD .r) ?_))))))))))
  obtain ⟨v8, hv8, hm⟩ := bindE hm
  refine AL.sT rfl rfl rfl rfl (fun g => op_indexAddrM (f := SBlock.e) (.we g rfl rfl) (.we g rfl rfl) (iteT g hv8) enSBlock sl26) (AL.sT rfl rfl rfl rfl (fun g => op_loadA (.we g rfl) rfl ag75) (AL.sT rfl rfl rfl rfl (fun g => op_moveD .r) ?_))
  obtain ⟨v9, hv9, hm⟩ := bindE hm
  refine AL.sT rfl rfl rfl rfl (fun g => op_fn Tryz.call99 (.we g rfl) (.cons (.we g rfl rfl) (.cons (.we g rfl rfl) .nil)) (m_block_find_1_ok (iteT g hv9))) (AL.sT rfl rfl rfl rfl (fun g => op_eql (.we g rfl rfl) (.r rfl)) (zs (op_and (.r rfl) (fun h => (.we h rfl rfl)) rfl) (za rfl (za rfl (zn (AW.ret ?_))))))
  obtain rfl := Option.some.inj hm
  exact ⟨_, [], (.tmp .r (.tmp .r .nil)), rfl, rfl, (.cons (.d rfl) (.cons (.d rfl) .nil)), .nil⟩

theorem m_block_find_ok {n : Nat} {a1 : (List SBlock)} {a2 : (List UInt8)} {r : (Int × Bool)} (hm : m_block_find n a1 a2 = some r) : Fn Tryz.prog 65 [(.sl (a1.map SBlock.e)), (.str a2)] (.tup [(.int .i64 r.1), (.bool r.2)]) := by
 unfold m_block_find at hm
 refine Fn.of_AW (fnn := Tryz.f65) Tryz.func65 rfl (Nat.le_of_ble_eq_true rfl) (fun g0 w0 hw0 => ?_)
 refine zr (za rfl (za rfl (zn (zr (zm rfl (zm rfl ?_))))))
 obtain ⟨v3, hv3, hm⟩ := bindE hm
 refine zs (op_callF (v := .tup [.d (.int .i64 v3.1), .d (.bool v3.2)]) (H' := []) [] Tryz.call98 .r (.cons .r (.cons .r (.cons .r .nil))) (m_slices_BinarySearchFunc_block_Table_block_Block_string_ok hv3) rfl .nil rfl rfl rfl rfl rfl rfl rfl rfl) (zs (op_extractV .r rfl) (zs (op_extractV .r rfl) (za rfl (za rfl (zn (AW.ret ?_))))))
 obtain rfl := Option.some.inj hm
 exact EndQ.d (.tmp .r (.tmp .r .nil)) rfl rfl

theorem m_slices_IndexFunc_block_Table_block_Block_ok {n : Nat} {H : List HE} {a1 : (List SBlock)} {p2 : SBlock → Option Bool} {r : Int} {ff_p2 : FuncId} {caps_p2 : List V} (hff_p2 : ∀ (a : Array Value) (w : World), (callFunc ff_p2 a).run Tryz.prog w = .ok (.enter ff_p2 a) w) (hF_p2 : ∀ (y1 : SBlock) (b : Bool), p2 y1 = some b → ACall Tryz.prog ff_p2 (.d (SBlock.e y1) :: caps_p2) H fun r' H' => r' = .d (.bool b) ∧ H' = H) (hm : m_slices_IndexFunc_block_Table_block_Block n a1 p2 = some r) : ACall Tryz.prog 126 [.d (.sl (a1.map SBlock.e)), .fn (.func ff_p2) caps_p2] H fun r' H' => r' = .d (.int .i64 r) ∧ H' = H := by
 unfold m_slices_IndexFunc_block_Table_block_Block at hm
 refine ACall.of_AW (fnn := Tryz.f126) Tryz.func126 rfl (Nat.le_of_ble_eq_true rfl) (fun g0 w0 hw0 => ?_)
 refine zr (za rfl (zn (AW.seq (zr (zm rfl (zs (op_lenM (f := SBlock.e) (.r rfl) sl26) (zm rfl (zn (AW.block ?_)))))))))
 obtain ⟨t_1, hI1, hk1⟩ := bindE hm
 refine AW.loopN (σ := Int) (τ := (Int ⊕ Unit)) [0, 1, 7] (fun x => [(8, .d (.int .i64 x))]) hI1 ⟨by first | exact .of rfl | exact .d rfl, trivial⟩ ?_
 rintro n1 s3 hI1
 obtain ⟨y_1, hm, hI1⟩ := iterS hI1
 replace hm : m_slices_IndexFunc_block_Table_block_Block_L1 n _ _ s3 = some y_1 := hm
 unfold m_slices_IndexFunc_block_Table_block_Block_L1 at hm
 try dsimp only at hm
 refine zr (zs (op_lss (.r rfl) (.r rfl)) (zn (AW.seq ?_)))
 refine AW.cond (b := _) rfl (fun hc1 => ?_) (fun hc1 => ?_)
 ·replace hm := iteT hc1 hm
  refine AW.skip (nq (AW.seq (AW.block (zr (zm rfl (za rfl (zn (zr (zs (op_moveF .r) (zm rfl (zm rfl ?_)))))))))))
  obtain ⟨v4, hv4, hm⟩ := bindE hm
  refine zs (op_indexAddrM (f := SBlock.e) (.r rfl) (.r rfl) hv4 enSBlock sl26) (zs (op_loadA .r rfl ag75) ?_)
  obtain ⟨v5, hv5, hm⟩ := bindE hm
  refine zs (op_call hff_p2 .r (.cons .r .nil) (hF_p2 _ _ hv5)) (zn ?_)
  refine AW.cond (b := _) rfl (fun hc2 => ?_) (fun hc2 => ?_)
  ·replace hm := iteT hc2 hm
   refine zr (zm rfl (za rfl (zn (AW.ret (bq_ret (tq_ret (tq_ret ?_)))))))
   obtain rfl := Option.some.inj hm
   obtain rfl := Option.some.inj hI1
   replace hm := hk1
   try dsimp only at hm
   refine bq_ret (tq_ret ?_)
   obtain rfl := Option.some.inj hm
   exact ⟨_, _, (.tmp .r .nil), .d rfl, rfl, rfl⟩
  ·replace hm := iteF hc2 hm
   refine AW.skip (bq_n (nq (AW.region (zs (op_addw (.r rfl) (.r rfl)) (zm rfl (zn ?_))))))
   obtain rfl := Option.some.inj hm
   exact nq ⟨_, hI1, ⟨by first | exact .of rfl | exact .d rfl, trivial⟩, ⟨rfl, rfl, rfl, trivial⟩, rfl⟩
 ·replace hm := iteF hc1 hm
  refine AW.exit (tq_exit (tq_exit ?_))
  obtain rfl := Option.some.inj hm
  obtain rfl := Option.some.inj hI1
  replace hm := hk1
  try dsimp only at hm
  refine bq_hit (nq (zr (za rfl (zn (AW.ret ?_)))))
  obtain rfl := Option.some.inj hm
  exact ⟨_, _, (.tmp .r .nil), .d rfl, rfl, rfl⟩

theorem m_slices_ContainsFunc_block_Table_block_Block_ok {n : Nat} {H : List HE} {a1 : (List SBlock)} {p2 : SBlock → Option Bool} {r : Bool} {ff_p2 : FuncId} {caps_p2 : List V} (hff_p2 : ∀ (a : Array Value) (w : World), (callFunc ff_p2 a).run Tryz.prog w = .ok (.enter ff_p2 a) w) (hF_p2 : ∀ (y1 : SBlock) (b : Bool), p2 y1 = some b → ACall Tryz.prog ff_p2 (.d (SBlock.e y1) :: caps_p2) H fun r' H' => r' = .d (.bool b) ∧ H' = H) (hm : m_slices_ContainsFunc_block_Table_block_Block n a1 p2 = some r) : ACall Tryz.prog 90 [.d (.sl (a1.map SBlock.e)), .fn (.func ff_p2) caps_p2] H fun r' H' => r' = .d (.bool r) ∧ H' = H := by
 unfold m_slices_ContainsFunc_block_Table_block_Block at hm
 refine ACall.of_AW (fnn := Tryz.f90) Tryz.func90 rfl (Nat.le_of_ble_eq_true rfl) (fun g0 w0 hw0 => ?_)
 refine zr (za rfl (zn (zr (zm rfl (zs (op_moveF .r) ?_)))))
 obtain ⟨v3, hv3, hm⟩ := bindE hm
 refine zs (op_call Tryz.call126 .r (.cons .r (.cons .r .nil)) (m_slices_IndexFunc_block_Table_block_Block_ok hff_p2 hF_p2 hv3)) (zs (op_geq (.r rfl) (.r rfl)) (za rfl (zn (AW.ret ?_))))
 obtain rfl := Option.some.inj hm
 exact ⟨_, _, (.tmp .r .nil), .d rfl, rfl, rfl⟩

theorem m_slices_Index_int_int_ok {n : Nat} {a1 : (List Int)} {a2 : Int} {r : Int} (hm : m_slices_Index_int_int n a1 a2 = some r) : Fn Tryz.prog 127 [(.sl (a1.map D.i)), (.int .i64 a2)] (.int .i64 r) := by
 unfold m_slices_Index_int_int at hm
 refine Fn.of_AW (fnn := Tryz.f127) Tryz.func127 rfl (Nat.le_of_ble_eq_true rfl) (fun g0 w0 hw0 => ?_)
 refine AW.reset 0 [(0, .d (.sl (a1.map D.i))), (1, .d (.int .i64 a2))] [] (WOK.g0 hw0 (by simp)) ⟨[], rfl, rfl, rfl, ⟨(.d rfl), (.d rfl), trivial⟩, trivial, .nil⟩ (zr (za rfl (zn (AW.seq (zr (zm rfl (zs (op_lenM (f := D.i) (.r rfl) sl38) (zm rfl (zn (AW.block ?_))))))))))
 obtain ⟨t_1, hI1, hk1⟩ := bindE hm
 refine AW.loopS (σ := Int) (τ := (Int ⊕ Unit)) 0 (fun x => [(0, .d (.sl (a1.map D.i))), (1, .d (.int .i64 a2)), (7, .d (.int .i64 (a1.length : Int))), (8, .d (.int .i64 x))]) (fun x => []) hI1 (WOK.g0 hw0 (by simp)) ⟨[], rfl, rfl, rfl, ⟨(.d rfl), (.d rfl), (.d rfl), (.d rfl), trivial⟩, trivial, .nil⟩ ?_
 rintro n1 s3 hI1
 obtain ⟨y_1, hm, hI1⟩ := iterS hI1
 replace hm : m_slices_Index_int_int_L1 n _ _ s3 = some y_1 := hm
 unfold m_slices_Index_int_int_L1 at hm
 try dsimp only at hm
 refine zr (zs (op_lss (.r rfl) (.r rfl)) (zn (AW.seq ?_)))
 refine AW.cond (b := _) rfl (fun hc1 => ?_) (fun hc1 => ?_)
 ·replace hm := iteT hc1 hm
  refine AW.skip (nq (AW.seq (AW.block (zr (zm rfl (za rfl (zn (zr (zm rfl (zm rfl (zm rfl ?_)))))))))))
  obtain ⟨v4, hv4, hm⟩ := bindE hm
  refine zs (op_indexAddrM (f := D.i) (.r rfl) (.r rfl) hv4 En.i sl38) (zs (op_load_vp1 .r rfl sc3) (zs (op_eql (.r rfl) (.r rfl)) (zn ?_)))
  refine AW.cond (b := _) rfl (fun hc2 => ?_) (fun hc2 => ?_)
  ·replace hm := iteT hc2 hm
   refine zr (zm rfl (za rfl (zn (AW.ret (bq_ret (tq_ret (tq_ret ?_)))))))
   obtain rfl := Option.some.inj hm
   obtain rfl := Option.some.inj hI1
   replace hm := hk1
   try dsimp only at hm
   refine bq_ret (tq_ret ?_)
   obtain rfl := Option.some.inj hm
   exact EndQ.d (.tmp .r .nil) rfl rfl
  ·replace hm := iteF hc2 hm
   refine AW.skip (bq_n (nq (AW.region (zs (op_addw (.r rfl) (.r rfl)) (zm rfl (zn ?_))))))
   obtain rfl := Option.some.inj hm
   exact nq ⟨_, hI1, ⟨[], rfl, rfl, rfl, ⟨(.d rfl), (.d rfl), (.d rfl), (.d rfl), trivial⟩, trivial, .nil⟩⟩
 ·replace hm := iteF hc1 hm
  refine AW.exit (tq_exit (tq_exit ?_))
  obtain rfl := Option.some.inj hm
  obtain rfl := Option.some.inj hI1
  replace hm := hk1
  try dsimp only at hm
  refine bq_hit (nq (zr (za rfl (zn (AW.ret ?_)))))
  obtain rfl := Option.some.inj hm
  exact EndQ.d (.tmp .r .nil) rfl rfl

theorem m_slices_Contains_int_int_ok {n : Nat} {a1 : (List Int)} {a2 : Int} {r : Bool} (hm : m_slices_Contains_int_int n a1 a2 = some r) : Fn Tryz.prog 92 [(.sl (a1.map D.i)), (.int .i64 a2)] (.bool r) := by
 unfold m_slices_Contains_int_int at hm
 refine Fn.of_AW (fnn := Tryz.f92) Tryz.func92 rfl (Nat.le_of_ble_eq_true rfl) (fun g0 w0 hw0 => ?_)
 refine zr (za rfl (zn (zr (zm rfl (zm rfl ?_)))))
 obtain ⟨v3, hv3, hm⟩ := bindE hm
 refine zs (op_fn Tryz.call127 .r (.cons (.r rfl) (.cons (.r rfl) .nil)) (m_slices_Index_int_int_ok hv3)) (zs (op_geq (.r rfl) (.r rfl)) (za rfl (zn (AW.ret ?_))))
 obtain rfl := Option.some.inj hm
 exact EndQ.d (.tmp .r .nil) rfl rfl

theorem m_block_has_1_ok {n : Nat} {a1 : SBlock} {c2 : Int} {r : Bool} (hm : m_block_has_1 n a1 c2 = some r) : FnR Tryz.prog 91 [.d (SBlock.e a1), .ptr 0 0] [.row [.d (.int .i64 c2)]] (.bool r) := by
 unfold m_block_has_1 at hm
 refine ACall.of_AW (fnn := Tryz.f91) Tryz.func91 rfl (Nat.le_of_ble_eq_true rfl) (fun g0 w0 hw0 => ?_)
 refine zr (zs (op_box (n := 1) .r rfl rfl rfl) (za rfl (zn (zr (zs (op_field_ptr .r fd75_1) (zs (op_load_ptr1 .r rfl rfl sc38) (zs (op_load_ptr1 .r rfl rfl sc3) ?_)))))))
 obtain ⟨v3, hv3, hm⟩ := bindE hm
 refine zs (op_fn Tryz.call92 .r (.cons (.r rfl) (.cons (.r rfl) .nil)) (m_slices_Contains_int_int_ok hv3)) (za rfl (zn (AW.ret ?_)))
 obtain rfl := Option.some.inj hm
 exact ⟨_, _, (.tmp .r .nil), .d rfl, rfl, rfl⟩

theorem m_block_has_ok {n : Nat} {a1 : (List SBlock)} {a2 : Int} {r : Bool} (hm : m_block_has n a1 a2 = some r) : Fn Tryz.prog 52 [(.sl (a1.map SBlock.e)), (.int .i64 a2)] (.bool r) := by
 unfold m_block_has at hm
 refine Fn.of_AW (fnn := Tryz.f52) Tryz.func52 rfl (Nat.le_of_ble_eq_true rfl) (fun g0 w0 hw0 => ?_)
 refine zr (zs (op_box (n := 0) .r rfl rfl rfl) (za rfl (zn (zr (zm rfl (zs (op_makeFunc (.cons .r .nil)) ?_))))))
 obtain ⟨v3, hv3, hm⟩ := bindE hm
 refine zs (op_call Tryz.call90 .r (.cons .r (.cons .r .nil)) (m_slices_ContainsFunc_block_Table_block_Block_ok Tryz.call91 (fun _ _ hb => FnR.at [0] (m_block_has_1_ok hb) (.cons rfl rfl .nil) (.cons (.d _) (.cons (.ptr rfl) .nil)) rfl) hv3)) (za rfl (zn (AW.ret ?_)))
 obtain rfl := Option.some.inj hm
 exact EndQ.d (.tmp .r .nil) rfl rfl

theorem m_cmp_isNaN_int_ok {n : Nat} {a1 : Int} {r : Bool} (hm : m_cmp_isNaN_int n a1 = some r) : Fn Tryz.prog 97 [(.int .i64 a1)] (.bool r) := by
 unfold m_cmp_isNaN_int at hm
 refine Fn.of_AW (fnn := Tryz.f97) Tryz.func97 rfl (Nat.le_of_ble_eq_true rfl) (fun g0 w0 hw0 => ?_)
 refine zr (za rfl (zn (zr (zm rfl (zm rfl (zs (op_neq (.r rfl) (.r rfl)) (za rfl (zn (AW.ret ?_)))))))))
 obtain rfl := Option.some.inj hm
 exact EndQ.d (.tmp .r .nil) rfl rfl

theorem m_slices_IndexFunc_feature_Features_feature_Features_ok {n : Nat} {H : List HE} {a1 : (List SFeatures)} {p2 : SFeatures → Option Bool} {r : Int} {ff_p2 : FuncId} {caps_p2 : List V} (hff_p2 : ∀ (a : Array Value) (w : World), (callFunc ff_p2 a).run Tryz.prog w = .ok (.enter ff_p2 a) w) (hF_p2 : ∀ (y1 : SFeatures) (b : Bool), p2 y1 = some b → ACall Tryz.prog ff_p2 (.d (SFeatures.e y1) :: caps_p2) H fun r' H' => r' = .d (.bool b) ∧ H' = H) (hm : m_slices_IndexFunc_feature_Features_feature_Features n a1 p2 = some r) : ACall Tryz.prog 68 [.d (.sl (a1.map SFeatures.e)), .fn (.func ff_p2) caps_p2] H fun r' H' => r' = .d (.int .i64 r) ∧ H' = H := by
 unfold m_slices_IndexFunc_feature_Features_feature_Features at hm
 refine ACall.of_AW (fnn := Tryz.f68) Tryz.func68 rfl (Nat.le_of_ble_eq_true rfl) (fun g0 w0 hw0 => ?_)
 refine zr (za rfl (zn (AW.seq (zr (zm rfl (zs (op_lenM (f := SFeatures.e) (.r rfl) sl30) (zm rfl (zn (AW.block ?_)))))))))
 obtain ⟨t_1, hI1, hk1⟩ := bindE hm
 refine AW.loopN (σ := Int) (τ := (Int ⊕ Unit)) [0, 1, 7] (fun x => [(8, .d (.int .i64 x))]) hI1 ⟨by first | exact .of rfl | exact .d rfl, trivial⟩ ?_
 rintro n1 s3 hI1
 obtain ⟨y_1, hm, hI1⟩ := iterS hI1
 replace hm : m_slices_IndexFunc_feature_Features_feature_Features_L1 n _ _ s3 = some y_1 := hm
 unfold m_slices_IndexFunc_feature_Features_feature_Features_L1 at hm
 try dsimp only at hm
 refine zr (zs (op_lss (.r rfl) (.r rfl)) (zn (AW.seq ?_)))
 refine AW.cond (b := _) rfl (fun hc1 => ?_) (fun hc1 => ?_)
 ·replace hm := iteT hc1 hm
  refine AW.skip (nq (AW.seq (AW.block (zr (zm rfl (za rfl (zn (zr (zs (op_moveF .r) (zm rfl (zm rfl ?_)))))))))))
  obtain ⟨v4, hv4, hm⟩ := bindE hm
  refine zs (op_indexAddrM (f := SFeatures.e) (.r rfl) (.r rfl) hv4 enSFeatures sl30) (zs (op_loadA .r rfl ag43) ?_)
  obtain ⟨v5, hv5, hm⟩ := bindE hm
  refine zs (op_call hff_p2 .r (.cons .r .nil) (hF_p2 _ _ hv5)) (zn ?_)
  refine AW.cond (b := _) rfl (fun hc2 => ?_) (fun hc2 => ?_)
  ·replace hm := iteT hc2 hm
   refine zr (zm rfl (za rfl (zn (AW.ret (bq_ret (tq_ret (tq_ret ?_)))))))
   obtain rfl := Option.some.inj hm
   obtain rfl := Option.some.inj hI1
   replace hm := hk1
   try dsimp only at hm
   refine bq_ret (tq_ret ?_)
   obtain rfl := Option.some.inj hm
   exact ⟨_, _, (.tmp .r .nil), .d rfl, rfl, rfl⟩
  ·replace hm := iteF hc2 hm
   refine AW.skip (bq_n (nq (AW.region (zs (op_addw (.r rfl) (.r rfl)) (zm rfl (zn ?_))))))
   obtain rfl := Option.some.inj hm
   exact nq ⟨_, hI1, ⟨by first | exact .of rfl | exact .d rfl, trivial⟩, ⟨rfl, rfl, rfl, trivial⟩, rfl⟩
 ·replace hm := iteF hc1 hm
  refine AW.exit (tq_exit (tq_exit ?_))
  obtain rfl := Option.some.inj hm
  obtain rfl := Option.some.inj hI1
  replace hm := hk1
  try dsimp only at hm
  refine bq_hit (nq (zr (za rfl (zn (AW.ret ?_)))))
  obtain rfl := Option.some.inj hm
  exact ⟨_, _, (.tmp .r .nil), .d rfl, rfl, rfl⟩

end Go.Proofs.YtkdefjliknpliaaGreatDoor.Ab
