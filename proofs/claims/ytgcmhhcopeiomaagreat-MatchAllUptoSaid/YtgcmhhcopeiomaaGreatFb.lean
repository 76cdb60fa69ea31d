/- The functions do what they are in plain Lean. Conditions: none. -/
import Derived.Test.YtgcmhhcopeiomaaGreatTy
import Derived.Test.YtgcmhhcopeiomaaGreatMi
import Derived.Test.YtgcmhhcopeiomaaGreatFa
set_option maxRecDepth 100000
set_option maxHeartbeats 20000000
namespace Go.Proofs.YtgcmhhcopeiomaaGreat.Ab
open Go
attribute [local irreducible] AL AD AW

theorem m_slices_IndexFunc_int_int_ok {n : Nat} {H : List HE} {a1 : (List Int)} {p2 : Int → Option Bool} {r : Int} {ff_p2 : FuncId} {caps_p2 : List V} (hff_p2 : ∀ (a : Array Value) (w : World), (callFunc ff_p2 a).run Tryz.prog w = .ok (.enter ff_p2 a) w) (hF_p2 : ∀ (y1 : Int) (b : Bool), p2 y1 = some b → ACall Tryz.prog ff_p2 (.d (.int .i64 y1) :: caps_p2) H fun r' H' => r' = .d (.bool b) ∧ H' = H) (hm : m_slices_IndexFunc_int_int n a1 p2 = some r) : ACall Tryz.prog 84 [.d (.sl (a1.map D.i)), .fn (.func ff_p2) caps_p2] H fun r' H' => r' = .d (.int .i64 r) ∧ H' = H := by
 unfold m_slices_IndexFunc_int_int at hm
 refine ACall.of_AW (fnn := Tryz.f84) Tryz.func84 rfl (Nat.le_of_ble_eq_true rfl) (fun g0 w0 hw0 => ?_)
 refine zr (za rfl (zn (AW.seq (zr (zm rfl (zs (op_lenM (f := D.i) (.r rfl) sl23) (zm rfl (zn (AW.block ?_)))))))))
 obtain ⟨t_1, hI1, hk1⟩ := bindE hm
 refine AW.loopN (σ := Int) (τ := (Int ⊕ Unit)) [0, 1, 7] (fun x => [(8, .d (.int .i64 x))]) hI1 ⟨by first | exact .of rfl | exact .d rfl, trivial⟩ ?_
 rintro n1 s3 hI1
 obtain ⟨y_1, hm, hI1⟩ := iterS hI1
 replace hm : m_slices_IndexFunc_int_int_L1 n _ _ s3 = some y_1 := hm
 unfold m_slices_IndexFunc_int_int_L1 at hm
 try dsimp only at hm
 refine zr (zs (op_lss (.r rfl) (.r rfl)) (zn (AW.seq ?_)))
 refine AW.cond (b := _) rfl (fun hc1 => ?_) (fun hc1 => ?_)
 ·replace hm := iteT hc1 hm
  refine AW.skip (nq (AW.seq (AW.block (zr (zm rfl (za rfl (zn (zr (zs (op_moveF .r) (zm rfl (zm rfl ?_)))))))))))
  obtain ⟨v4, hv4, hm⟩ := bindE hm
  refine zs (op_indexAddrM (f := D.i) (.r rfl) (.r rfl) hv4 En.i sl23) (zs (op_load_vp1 .r rfl sc3) ?_)
  obtain ⟨v5, hv5, hm⟩ := bindE hm
  refine zs (op_call hff_p2 .r (.cons .r .nil) (hF_p2 _ _ hv5)) (zn ?_)
  refine AW.cond (b := _) rfl (fun hc2 => ?_) (fun hc2 => ?_)
  ·replace hm := iteT hc2 hm
   refine zr (zm rfl (za rfl (zn (AW.ret (bq_ret (tq_ret (tq_ret ?_)))))))
   obtain rfl := Option.some.inj hm
   obtain rfl := Option.some.inj hI1
   replace hm := hk1
   try dsimp only at hm
   refine bq_ret (tq_ret ?_)
   obtain rfl := Option.some.inj hm
   exact ⟨_, _, (.tmp .r .nil), .d rfl, rfl, rfl⟩
  ·replace hm := iteF hc2 hm
   refine AW.skip (bq_n (nq (AW.region (zs (op_addw (.r rfl) (.r rfl)) (zm rfl (zn ?_))))))
   obtain rfl := Option.some.inj hm
   exact nq ⟨_, hI1, ⟨by first | exact .of rfl | exact .d rfl, trivial⟩, ⟨rfl, rfl, rfl, trivial⟩, rfl⟩
 ·replace hm := iteF hc1 hm
  refine AW.exit (tq_exit (tq_exit ?_))
  obtain rfl := Option.some.inj hm
  obtain rfl := Option.some.inj hI1
  replace hm := hk1
  try dsimp only at hm
  refine bq_hit (nq (zr (za rfl (zn (AW.ret ?_)))))
  obtain rfl := Option.some.inj hm
  exact ⟨_, _, (.tmp .r .nil), .d rfl, rfl, rfl⟩

theorem m_slices_ContainsFunc_int_int_ok {n : Nat} {H : List HE} {a1 : (List Int)} {p2 : Int → Option Bool} {r : Bool} {ff_p2 : FuncId} {caps_p2 : List V} (hff_p2 : ∀ (a : Array Value) (w : World), (callFunc ff_p2 a).run Tryz.prog w = .ok (.enter ff_p2 a) w) (hF_p2 : ∀ (y1 : Int) (b : Bool), p2 y1 = some b → ACall Tryz.prog ff_p2 (.d (.int .i64 y1) :: caps_p2) H fun r' H' => r' = .d (.bool b) ∧ H' = H) (hm : m_slices_ContainsFunc_int_int n a1 p2 = some r) : ACall Tryz.prog 52 [.d (.sl (a1.map D.i)), .fn (.func ff_p2) caps_p2] H fun r' H' => r' = .d (.bool r) ∧ H' = H := by
 unfold m_slices_ContainsFunc_int_int at hm
 refine ACall.of_AW (fnn := Tryz.f52) Tryz.func52 rfl (Nat.le_of_ble_eq_true rfl) (fun g0 w0 hw0 => ?_)
 refine zr (za rfl (zn (zr (zm rfl (zs (op_moveF .r) ?_)))))
 obtain ⟨v3, hv3, hm⟩ := bindE hm
 refine zs (op_call Tryz.call84 .r (.cons .r (.cons .r .nil)) (m_slices_IndexFunc_int_int_ok hff_p2 hF_p2 hv3)) (zs (op_geq (.r rfl) (.r rfl)) (za rfl (zn (AW.ret ?_))))
 obtain rfl := Option.some.inj hm
 exact ⟨_, _, (.tmp .r .nil), .d rfl, rfl, rfl⟩

theorem m_slices_Index_int_int_ok {n : Nat} {a1 : (List Int)} {a2 : Int} {r : Int} (hm : m_slices_Index_int_int n a1 a2 = some r) : Fn Tryz.prog 85 [(.sl (a1.map D.i)), (.int .i64 a2)] (.int .i64 r) := by
 unfold m_slices_Index_int_int at hm
 refine Fn.of_AW (fnn := Tryz.f85) Tryz.func85 rfl (Nat.le_of_ble_eq_true rfl) (fun g0 w0 hw0 => ?_)
 refine AW.reset 0 [(0, .d (.sl (a1.map D.i))), (1, .d (.int .i64 a2))] [] (WOK.g0 hw0 (by simp)) ⟨[], rfl, rfl, rfl, ⟨(.d rfl), (.d rfl), trivial⟩, trivial, .nil⟩ (zr (za rfl (zn (AW.seq (zr (zm rfl (zs (op_lenM (f := D.i) (.r rfl) sl23) (zm rfl (zn (AW.block ?_))))))))))
 obtain ⟨t_1, hI1, hk1⟩ := bindE hm
 refine AW.loopS (σ := Int) (τ := (Int ⊕ Unit)) 0 (fun x => [(0, .d (.sl (a1.map D.i))), (1, .d (.int .i64 a2)), (7, .d (.int .i64 (a1.length : Int))), (8, .d (.int .i64 x))]) (fun x => []) hI1 (WOK.g0 hw0 (by simp)) ⟨[], rfl, rfl, rfl, ⟨(.d rfl), (.d rfl), (.d rfl), (.d rfl), trivial⟩, trivial, .nil⟩ ?_
 rintro n1 s3 hI1
 obtain ⟨y_1, hm, hI1⟩ := iterS hI1
 replace hm : m_slices_Index_int_int_L1 n _ _ s3 = some y_1 := hm
 unfold m_slices_Index_int_int_L1 at hm
 try dsimp only at hm
 refine zr (zs (op_lss (.r rfl) (.r rfl)) (zn (AW.seq ?_)))
 refine AW.cond (b := _) rfl (fun hc1 => ?_) (fun hc1 => ?_)
 ·replace hm := iteT hc1 hm
  refine AW.skip (nq (AW.seq (AW.block (zr (zm rfl (za rfl (zn (zr (zm rfl (zm rfl (zm rfl ?_)))))))))))
  obtain ⟨v4, hv4, hm⟩ := bindE hm
  refine zs (op_indexAddrM (f := D.i) (.r rfl) (.r rfl) hv4 En.i sl23) (zs (op_load_vp1 .r rfl sc3) (zs (op_eql (.r rfl) (.r rfl)) (zn ?_)))
  refine AW.cond (b := _) rfl (fun hc2 => ?_) (fun hc2 => ?_)
  ·replace hm := iteT hc2 hm
   refine zr (zm rfl (za rfl (zn (AW.ret (bq_ret (tq_ret (tq_ret ?_)))))))
   obtain rfl := Option.some.inj hm
   obtain rfl := Option.some.inj hI1
   replace hm := hk1
   try dsimp only at hm
   refine bq_ret (tq_ret ?_)
   obtain rfl := Option.some.inj hm
   exact EndQ.d (.tmp .r .nil) rfl rfl
  ·replace hm := iteF hc2 hm
   refine AW.skip (bq_n (nq (AW.region (zs (op_addw (.r rfl) (.r rfl)) (zm rfl (zn ?_))))))
   obtain rfl := Option.some.inj hm
   exact nq ⟨_, hI1, ⟨[], rfl, rfl, rfl, ⟨(.d rfl), (.d rfl), (.d rfl), (.d rfl), trivial⟩, trivial, .nil⟩⟩
 ·replace hm := iteF hc1 hm
  refine AW.exit (tq_exit (tq_exit ?_))
  obtain rfl := Option.some.inj hm
  obtain rfl := Option.some.inj hI1
  replace hm := hk1
  try dsimp only at hm
  refine bq_hit (nq (zr (za rfl (zn (AW.ret ?_)))))
  obtain rfl := Option.some.inj hm
  exact EndQ.d (.tmp .r .nil) rfl rfl

theorem m_slices_Contains_int_int_ok {n : Nat} {a1 : (List Int)} {a2 : Int} {r : Bool} (hm : m_slices_Contains_int_int n a1 a2 = some r) : Fn Tryz.prog 54 [(.sl (a1.map D.i)), (.int .i64 a2)] (.bool r) := by
 unfold m_slices_Contains_int_int at hm
 refine Fn.of_AW (fnn := Tryz.f54) Tryz.func54 rfl (Nat.le_of_ble_eq_true rfl) (fun g0 w0 hw0 => ?_)
 refine zr (za rfl (zn (zr (zm rfl (zm rfl ?_)))))
 obtain ⟨v3, hv3, hm⟩ := bindE hm
 refine zs (op_fn Tryz.call85 .r (.cons (.r rfl) (.cons (.r rfl) .nil)) (m_slices_Index_int_int_ok hv3)) (zs (op_geq (.r rfl) (.r rfl)) (za rfl (zn (AW.ret ?_))))
 obtain rfl := Option.some.inj hm
 exact EndQ.d (.tmp .r .nil) rfl rfl

theorem m_match_common_int_1_ok {n : Nat} {a1 : Int} {c2 : (List Int)} {r : Bool} (hm : m_match_common_int_1 n a1 c2 = some r) : FnR Tryz.prog 53 [.d (.int .i64 a1), .ptr 0 0] [.row [.d (.sl (c2.map D.i))]] (.bool r) := by
 unfold m_match_common_int_1 at hm
 refine ACall.of_AW (fnn := Tryz.f53) Tryz.func53 rfl (Nat.le_of_ble_eq_true rfl) (fun g0 w0 hw0 => ?_)
 refine zr (za rfl (zn (zr (zs (op_load_ptr1 .r rfl rfl sc23) (zm rfl ?_)))))
 obtain ⟨v3, hv3, hm⟩ := bindE hm
 refine zs (op_fn Tryz.call54 .r (.cons (.r rfl) (.cons (.r rfl) .nil)) (m_slices_Contains_int_int_ok hv3)) (za rfl (zn (AW.ret ?_)))
 obtain rfl := Option.some.inj hm
 exact ⟨_, _, (.tmp .r .nil), .d rfl, rfl, rfl⟩

theorem m_match_common_int_ok {n : Nat} {a1 : (List Int)} {a2 : (List Int)} {r : Bool} (hm : m_match_common_int n a1 a2 = some r) : Fn Tryz.prog 24 [(.sl (a1.map D.i)), (.sl (a2.map D.i))] (.bool r) := by
 unfold m_match_common_int at hm
 refine Fn.of_AW (fnn := Tryz.f24) Tryz.func24 rfl (Nat.le_of_ble_eq_true rfl) (fun g0 w0 hw0 => ?_)
 refine zr (zs (op_box (n := 0) .r rfl rfl rfl) (za rfl (zn (zr (zm rfl (zs (op_makeFunc (.cons .r .nil)) ?_))))))
 obtain ⟨v3, hv3, hm⟩ := bindE hm
 refine zs (op_call Tryz.call52 .r (.cons .r (.cons .r .nil)) (m_slices_ContainsFunc_int_int_ok Tryz.call53 (fun _ _ hb => FnR.at [0] (m_match_common_int_1_ok hb) (.cons rfl rfl .nil) (.cons (.d _) (.cons (.ptr rfl) .nil)) rfl) hv3)) (za rfl (zn (AW.ret ?_)))
 obtain rfl := Option.some.inj hm
 exact EndQ.d (.tmp .r .nil) rfl rfl

theorem m_match_neighbours_1_ok {n : Nat} {a1 : Int} {c2 : (List Int)} {r : Bool} (hm : m_match_neighbours_1 n a1 c2 = some r) : FnR Tryz.prog 55 [.d (.int .i64 a1), .ptr 0 0] [.row [.d (.sl (c2.map D.i))]] (.bool r) := by
 unfold m_match_neighbours_1 at hm
 refine ACall.of_AW (fnn := Tryz.f55) Tryz.func55 rfl (Nat.le_of_ble_eq_true rfl) (fun g0 w0 hw0 => ?_)
 refine zr (za rfl (zn (zr (zs (op_load_ptr1 .r rfl rfl sc23) (zm rfl (zs (op_subw (.r rfl) (.r rfl)) ?_))))))
 obtain ⟨v3, hv3, hm⟩ := bindE hm
 refine zs (op_fn Tryz.call54 .r (.cons (.r rfl) (.cons (.r rfl) .nil)) (m_slices_Contains_int_int_ok hv3)) (zm rfl (AL.sF rfl rfl rfl rfl (fun g => op_load_ptr1 .r rfl rfl sc23) (AL.sF rfl rfl rfl rfl (fun g => op_moveD .r) (AL.sF rfl rfl rfl rfl (fun g => op_addw (.we (nt g) rfl rfl) (.r rfl)) ?_))))
 obtain ⟨v4, hv4, hm⟩ := bindE hm
 refine AL.sF rfl rfl rfl rfl (fun g => op_fn Tryz.call54 .r (.cons (.we (nt g) rfl rfl) (.cons (.we (nt g) rfl rfl) .nil)) (m_slices_Contains_int_int_ok (iteT (nt g) hv4))) (zs (op_or (.r rfl) rfl (fun h => (.we (nt h) rfl rfl))) (za rfl (zn (AW.ret ?_))))
 obtain rfl := Option.some.inj hm
 exact ⟨_, _, (.tmp .r .nil), .d rfl, rfl, rfl⟩

theorem m_match_neighbours_ok {n : Nat} {a1 : (List Int)} {a2 : (List Int)} {r : Bool} (hm : m_match_neighbours n a1 a2 = some r) : Fn Tryz.prog 25 [(.sl (a1.map D.i)), (.sl (a2.map D.i))] (.bool r) := by
 unfold m_match_neighbours at hm
 refine Fn.of_AW (fnn := Tryz.f25) Tryz.func25 rfl (Nat.le_of_ble_eq_true rfl) (fun g0 w0 hw0 => ?_)
 refine zr (zs (op_box (n := 0) .r rfl rfl rfl) (za rfl (zn (zr (zm rfl (zs (op_makeFunc (.cons .r .nil)) ?_))))))
 obtain ⟨v3, hv3, hm⟩ := bindE hm
 refine zs (op_call Tryz.call52 .r (.cons .r (.cons .r .nil)) (m_slices_ContainsFunc_int_int_ok Tryz.call55 (fun _ _ hb => FnR.at [0] (m_match_neighbours_1_ok hb) (.cons rfl rfl .nil) (.cons (.d _) (.cons (.ptr rfl) .nil)) rfl) hv3)) (za rfl (zn (AW.ret ?_)))
 obtain rfl := Option.some.inj hm
 exact EndQ.d (.tmp .r .nil) rfl rfl

theorem m_slices_Index_string_string_ok {n : Nat} {a1 : (List (List UInt8))} {a2 : (List UInt8)} {r : Int} (hm : m_slices_Index_string_string n a1 a2 = some r) : Fn Tryz.prog 86 [(.sl (a1.map D.str)), (.str a2)] (.int .i64 r) := by
 unfold m_slices_Index_string_string at hm
 refine Fn.of_AW (fnn := Tryz.f86) Tryz.func86 rfl (Nat.le_of_ble_eq_true rfl) (fun g0 w0 hw0 => ?_)
 refine AW.reset 0 [(0, .d (.sl (a1.map D.str))), (1, .d (.str a2))] [] (WOK.g0 hw0 (by simp)) ⟨[], rfl, rfl, rfl, ⟨(.d rfl), (.d rfl), trivial⟩, trivial, .nil⟩ (zr (za rfl (zn (AW.seq (zr (zm rfl (zs (op_lenM (f := D.str) (.r rfl) sl22) (zm rfl (zn (AW.block ?_))))))))))
 obtain ⟨t_1, hI1, hk1⟩ := bindE hm
 refine AW.loopS (σ := Int) (τ := (Int ⊕ Unit)) 0 (fun x => [(0, .d (.sl (a1.map D.str))), (1, .d (.str a2)), (7, .d (.int .i64 (a1.length : Int))), (8, .d (.int .i64 x))]) (fun x => []) hI1 (WOK.g0 hw0 (by simp)) ⟨[], rfl, rfl, rfl, ⟨(.d rfl), (.d rfl), (.d rfl), (.d rfl), trivial⟩, trivial, .nil⟩ ?_
 rintro n1 s3 hI1
 obtain ⟨y_1, hm, hI1⟩ := iterS hI1
 replace hm : m_slices_Index_string_string_L1 n _ _ s3 = some y_1 := hm
 unfold m_slices_Index_string_string_L1 at hm
 try dsimp only at hm
 refine zr (zs (op_lss (.r rfl) (.r rfl)) (zn (AW.seq ?_)))
 refine AW.cond (b := _) rfl (fun hc1 => ?_) (fun hc1 => ?_)
 ·replace hm := iteT hc1 hm
  refine AW.skip (nq (AW.seq (AW.block (zr (zm rfl (za rfl (zn (zr (zm rfl (zm rfl (zm rfl ?_)))))))))))
  obtain ⟨v4, hv4, hm⟩ := bindE hm
  refine zs (op_indexAddrM (f := D.str) (.r rfl) (.r rfl) hv4 En.str sl22) (zs (op_load_vp1 .r rfl sc9) (zs (op_eqlS (.r rfl) (.r rfl)) (zn ?_)))
  refine AW.cond (b := _) rfl (fun hc2 => ?_) (fun hc2 => ?_)
  ·replace hm := iteT hc2 hm
   refine zr (zm rfl (za rfl (zn (AW.ret (bq_ret (tq_ret (tq_ret ?_)))))))
   obtain rfl := Option.some.inj hm
   obtain rfl := Option.some.inj hI1
   replace hm := hk1
   try dsimp only at hm
   refine bq_ret (tq_ret ?_)
   obtain rfl := Option.some.inj hm
   exact EndQ.d (.tmp .r .nil) rfl rfl
  ·replace hm := iteF hc2 hm
   refine AW.skip (bq_n (nq (AW.region (zs (op_addw (.r rfl) (.r rfl)) (zm rfl (zn ?_))))))
   obtain rfl := Option.some.inj hm
   exact nq ⟨_, hI1, ⟨[], rfl, rfl, rfl, ⟨(.d rfl), (.d rfl), (.d rfl), (.d rfl), trivial⟩, trivial, .nil⟩⟩
 ·replace hm := iteF hc1 hm
  refine AW.exit (tq_exit (tq_exit ?_))
  obtain rfl := Option.some.inj hm
  obtain rfl := Option.some.inj hI1
  replace hm := hk1
  try dsimp only at hm
  refine bq_hit (nq (zr (za rfl (zn (AW.ret ?_)))))
  obtain rfl := Option.some.inj hm
  exact EndQ.d (.tmp .r .nil) rfl rfl

theorem m_slices_Contains_string_string_ok {n : Nat} {a1 : (List (List UInt8))} {a2 : (List UInt8)} {r : Bool} (hm : m_slices_Contains_string_string n a1 a2 = some r) : Fn Tryz.prog 57 [(.sl (a1.map D.str)), (.str a2)] (.bool r) := by
 unfold m_slices_Contains_string_string at hm
 refine Fn.of_AW (fnn := Tryz.f57) Tryz.func57 rfl (Nat.le_of_ble_eq_true rfl) (fun g0 w0 hw0 => ?_)
 refine zr (za rfl (zn (zr (zm rfl (zm rfl ?_)))))
 obtain ⟨v3, hv3, hm⟩ := bindE hm
 refine zs (op_fn Tryz.call86 .r (.cons (.r rfl) (.cons (.r rfl) .nil)) (m_slices_Index_string_string_ok hv3)) (zs (op_geq (.r rfl) (.r rfl)) (za rfl (zn (AW.ret ?_))))
 obtain rfl := Option.some.inj hm
 exact EndQ.d (.tmp .r .nil) rfl rfl

theorem m_match_common_string_1_ok {n : Nat} {a1 : (List UInt8)} {c2 : (List (List UInt8))} {r : Bool} (hm : m_match_common_string_1 n a1 c2 = some r) : FnR Tryz.prog 56 [.d (.str a1), .ptr 0 0] [.row [.d (.sl (c2.map D.str))]] (.bool r) := by
 unfold m_match_common_string_1 at hm
 refine ACall.of_AW (fnn := Tryz.f56) Tryz.func56 rfl (Nat.le_of_ble_eq_true rfl) (fun g0 w0 hw0 => ?_)
 refine zr (za rfl (zn (zr (zs (op_load_ptr1 .r rfl rfl sc22) (zm rfl ?_)))))
 obtain ⟨v3, hv3, hm⟩ := bindE hm
 refine zs (op_fn Tryz.call57 .r (.cons (.r rfl) (.cons (.r rfl) .nil)) (m_slices_Contains_string_string_ok hv3)) (za rfl (zn (AW.ret ?_)))
 obtain rfl := Option.some.inj hm
 exact ⟨_, _, (.tmp .r .nil), .d rfl, rfl, rfl⟩

theorem m_match_common_string_ok {n : Nat} {a1 : (List (List UInt8))} {a2 : (List (List UInt8))} {r : Bool} (hm : m_match_common_string n a1 a2 = some r) : Fn Tryz.prog 26 [(.sl (a1.map D.str)), (.sl (a2.map D.str))] (.bool r) := by
 unfold m_match_common_string at hm
 refine Fn.of_AW (fnn := Tryz.f26) Tryz.func26 rfl (Nat.le_of_ble_eq_true rfl) (fun g0 w0 hw0 => ?_)
 refine zr (zs (op_box (n := 0) .r rfl rfl rfl) (za rfl (zn (zr (zm rfl (zs (op_makeFunc (.cons .r .nil)) ?_))))))
 obtain ⟨v3, hv3, hm⟩ := bindE hm
 refine zs (op_call Tryz.call41 .r (.cons .r (.cons .r .nil)) (m_slices_ContainsFunc_string_string_ok Tryz.call56 (fun _ _ hb => FnR.at [0] (m_match_common_string_1_ok hb) (.cons rfl rfl .nil) (.cons (.d _) (.cons (.ptr rfl) .nil)) rfl) hv3)) (za rfl (zn (AW.ret ?_)))
 obtain rfl := Option.some.inj hm
 exact EndQ.d (.tmp .r .nil) rfl rfl

theorem m_match_Compare_ok {n : Nat} {a1 : SFeatures} {a2 : SFeatures} {r : (A7 × Int)} (hm : m_match_Compare n a1 a2 = some r) : Fn Tryz.prog 7 [(SFeatures.e a1), (SFeatures.e a2)] (.tup [(A7.e r.1), (.int .i64 r.2)]) := by
 unfold m_match_Compare at hm
 refine Fn.of_AW (fnn := Tryz.f7) Tryz.func7 rfl (Nat.le_of_ble_eq_true rfl) (fun g0 w0 hw0 => ?_)
 refine AW.reset 0 [(0, .d (SFeatures.e a1)), (1, .d (SFeatures.e a2))] [] (WOK.g0 hw0 (by simp)) ⟨[], rfl, rfl, rfl, ⟨(.d rfl), (.d rfl), trivial⟩, trivial, .nil⟩ (zr (zs (op_box (n := 0) .r rfl rfl rfl) (zs (op_box (n := 1) .r rfl rfl rfl) (zs (op_alloc (n := 2) zr29 rfl) (za rfl (zn (AW.seq (zr (zs (op_load_ptrA .r rfl rfl rfl ag33) ?_)))))))))
 obtain ⟨v3, hv3, hm⟩ := bindE hm
 refine zs (op_fn Tryz.call18 .r (.cons (.r rfl) .nil) (m_feature_Valid_ok hv3)) (zs (op_not (.r rfl)) (zm rfl (AL.sF rfl rfl rfl rfl (fun g => op_load_ptrA .r rfl rfl rfl ag33) ?_)))
 obtain ⟨v4, hv4, hm⟩ := bindE hm
 refine AL.sF rfl rfl rfl rfl (fun g => op_fn Tryz.call18 .r (.cons (.we (nt g) rfl rfl) .nil) (m_feature_Valid_ok (iteT (nt g) hv4))) (AL.sF rfl rfl rfl rfl (fun g => op_not (.we (nt g) rfl rfl)) (zs (op_or (.r rfl) rfl (fun h => (.we (nt h) rfl rfl))) (zn ?_)))
 refine AW.cond (b := _) rfl (fun hc1 => ?_) (fun hc1 => ?_)
 ·replace hm := iteT hc1 hm
  refine zr (zs (op_buildArr ba29 .nil) (zs (op_storeA .r .r rfl rfl ⟨_, rfl, rfl⟩ rfl (Nat.le_of_ble_eq_true rfl)) (za rfl (zn (AW.ret (tq_ret ?_))))))
  obtain rfl := Option.some.inj hm
  exact EndQ.d (.cellA .r rfl rfl rfl ag29 (.tmp .r .nil)) rfl rfl
 ·replace hm := iteF hc1 hm
  refine AW.skip (nq (zr (zs (op_alloc (n := 3) zr29 rfl) (zn ?_))))
  obtain ⟨t_j1, hm, hkj1⟩ := bindE hm
  refine AW.cutS (α := A7) 0 (fun x => x = t_j1) (fun x => [(2, .ptr 0 0), (3, .ptr 1 0), (4, .ptr 2 0), (6, .ptr 3 0)]) (fun x => [.row ((SFeatures.e a1).cells.map .d), .row ((SFeatures.e a2).cells.map .d), .row [.d (.int .i64 (0 : Int)), .d (.int .i64 (0 : Int)), .d (.int .i64 (0 : Int)), .d (.int .i64 (0 : Int)), .d (.int .i64 (0 : Int)), .d (.int .i64 (0 : Int)), .d (.int .i64 (0 : Int))], .row [.d (.int .i64 x.e0), .d (.int .i64 x.e1), .d (.int .i64 x.e2), .d (.int .i64 x.e3), .d (.int .i64 x.e4), .d (.int .i64 x.e5), .d (.int .i64 x.e6)]]) (WOK.g0 hw0 (by simp)) ?_ ?_
  ·skip
   refine AW.reset 0 [(2, .ptr 0 0), (3, .ptr 1 0), (4, .ptr 2 0), (6, .ptr 3 0)] [.row ((SFeatures.e a1).cells.map .d), .row ((SFeatures.e a2).cells.map .d), .row [.d (.int .i64 (0 : Int)), .d (.int .i64 (0 : Int)), .d (.int .i64 (0 : Int)), .d (.int .i64 (0 : Int)), .d (.int .i64 (0 : Int)), .d (.int .i64 (0 : Int)), .d (.int .i64 (0 : Int))], .row [.d (.int .i64 (0 : Int)), .d (.int .i64 (0 : Int)), .d (.int .i64 (0 : Int)), .d (.int .i64 (0 : Int)), .d (.int .i64 (0 : Int)), .d (.int .i64 (0 : Int)), .d (.int .i64 (0 : Int))]] (WOK.g0 hw0 (by simp)) ⟨[0, 1, 2, 3], rfl, rfl, rfl, ⟨(.ptr rfl), (.ptr rfl), (.ptr rfl), (.ptr rfl), trivial⟩, trivial, (.row rfl (cd (SFeatures.e a1).cells) (.row rfl (cd (SFeatures.e a2).cells) (.row rfl (.cons (.d rfl) (.cons (.d rfl) (.cons (.d rfl) (.cons (.d rfl) (.cons (.d rfl) (.cons (.d rfl) (.cons (.d rfl) .nil))))))) (.row rfl (.cons (.d rfl) (.cons (.d rfl) (.cons (.d rfl) (.cons (.d rfl) (.cons (.d rfl) (.cons (.d rfl) (.cons (.d rfl) .nil))))))) .nil))))⟩ (zr (zs (op_field_ptr .r fd33_1) (zs (op_load_ptr1 .r rfl rfl sc22) (zs (op_lenM (f := D.str) (.r rfl) sl22) (zs (op_gtr (.r rfl) (.r rfl)) (zm rfl (AL.sT rfl rfl rfl rfl (fun g => op_field_ptr .r fd33_1) (AL.sT rfl rfl rfl rfl (fun g => op_load_ptr1 (.we g rfl) rfl rfl sc22) (AL.sT rfl rfl rfl rfl (fun g => op_lenM (f := D.str) (.we g rfl rfl) sl22) (AL.sT rfl rfl rfl rfl (fun g => op_gtr (.we g rfl rfl) (.r rfl)) (zs (op_and (.r rfl) (fun h => (.we h rfl rfl)) rfl) (zn ?_))))))))))))
   refine AW.cond (b := _) rfl (fun hc2 => ?_) (fun hc2 => ?_)
   ·replace hm := iteT hc2 hm
    refine AW.drawn [([], []), ([0], []), ([], []), ([1], []), ([], []), ([], []), ([0], []), ([], []), ([1], []), ([], []), ([], []), ([], []), ([0], []), ([], []), ([], []), ([1], []), ([], []), ([], []), ([], []), ([], []), ([], []), ([3], [3])] mo (by decide +kernel) (AD.s (ws := []) rfl rfl (fun H' _ hH => op_field_ptr .r fd33_1) (AD.s (ws := []) rfl rfl (fun H' _ hH => op_load_ptr1 .r ((hH _ (by simp)).trans rfl) rfl sc22) (AD.s (ws := []) rfl rfl (fun H' _ hH => op_field_ptr .r fd33_1) (AD.s (ws := []) rfl rfl (fun H' _ hH => op_load_ptr1 .r ((hH _ (by simp)).trans rfl) rfl sc22) ?_))))
    obtain ⟨v5, hv5, hm⟩ := bindE hm
    refine AD.s (ws := []) rfl rfl (fun H' _ hH => op_fn Tryz.call20 .r (.cons (.r rfl) (.cons (.r rfl) .nil)) (m_slices_Equal_string_string_ok hv5)) (AD.s (ws := []) rfl rfl (fun H' _ hH => op_field_ptr .r fd33_1) (AD.s (ws := []) rfl rfl (fun H' _ hH => op_load_ptr1 .r ((hH _ (by simp)).trans rfl) rfl sc22) (AD.s (ws := []) rfl rfl (fun H' _ hH => op_field_ptr .r fd33_1) (AD.s (ws := []) rfl rfl (fun H' _ hH => op_load_ptr1 .r ((hH _ (by simp)).trans rfl) rfl sc22) ?_))))
    obtain ⟨v6, hv6, hm⟩ := bindE hm
    refine AD.s (ws := []) rfl rfl (fun H' _ hH => op_fn Tryz.call21 .r (.cons (.r rfl) (.cons (.r rfl) .nil)) (m_match_closeWords_ok hv6)) (AD.s (ws := []) rfl rfl (fun H' _ hH => op_moveD .r) (AD.sF rfl rfl rfl rfl (fun g H' _ hH => op_field_ptr .r fd33_1) (AD.sF rfl rfl rfl rfl (fun g H' _ hH => op_load_ptr1 (.we (nt g) rfl) ((hH _ (by simp)).trans rfl) rfl sc22) ?_)))
    obtain ⟨v7, hv7, hm⟩ := bindE hm
    refine AD.sF rfl rfl rfl rfl (fun g H' _ hH => op_fn Tryz.call23 .r (.cons (.we (nt g) rfl rfl) (.cons (.r rfl) .nil)) (joinM_fn (iteT (nt g) hv7))) (AD.sF rfl rfl rfl rfl (fun g H' _ hH => op_field_ptr .r fd33_1) (AD.sF rfl rfl rfl rfl (fun g H' _ hH => op_load_ptr1 (.we (nt g) rfl) ((hH _ (by simp)).trans rfl) rfl sc22) ?_))
    obtain ⟨v8, hv8, hm⟩ := bindE hm
    refine AD.sF rfl rfl rfl rfl (fun g H' _ hH => op_fn Tryz.call23 .r (.cons (.we (nt g) rfl rfl) (.cons (.r rfl) .nil)) (joinM_fn (iteT (nt g) hv8))) ?_
    obtain ⟨v9, hv9, hm⟩ := bindE hm
    refine AD.sF rfl rfl rfl rfl (fun g H' _ hH => op_fn Tryz.call22 .r (.cons (.we (nt g) rfl rfl) (.cons (.we (nt g) rfl rfl) .nil)) (m_match_near_ok (iteT (nt g) hv9))) (AD.s (ws := []) rfl rfl (fun H' _ hH => op_or (.r rfl) rfl (fun h => (.we (nt h) rfl rfl))) ?_)
    obtain ⟨v10, hv10, hm⟩ := bindE hm
    refine AD.s (ws := []) rfl rfl (fun H' _ hH => op_fn Tryz.call19 .r (.cons (.r rfl) (.cons (.r rfl) .nil)) (m_match_verdict_ok hv10)) (AD.s (ws := []) rfl rfl (fun H' _ hH => op_indexAddr_arr (i := 0) .r (.r rfl) rfl (by decide) Tryz.underlying29 ⟨_, rfl, rfl⟩) (AD.s (ws := [(3, _)]) rfl rfl (fun H' _ hH => op_storeD .r .r ((hH _ (by simp)).trans rfl) rfl rfl ⟨_, rfl, rfl⟩ (Nat.le_of_ble_eq_true rfl)) (AD.nil ?_)))
    obtain rfl := Option.some.inj hm
    exact nq ⟨_, rfl, ⟨[0, 1, 2, 3], rfl, rfl, rfl, ⟨(.ptr rfl), (.ptr rfl), (.ptr rfl), (.ptr rfl), trivial⟩, trivial, (.row rfl (cd (SFeatures.e a1).cells) (.row rfl (cd (SFeatures.e a2).cells) (.row rfl (.cons (.d rfl) (.cons (.d rfl) (.cons (.d rfl) (.cons (.d rfl) (.cons (.d rfl) (.cons (.d rfl) (.cons (.d rfl) .nil))))))) (.row rfl (.cons (.d rfl) (.cons (.d rfl) (.cons (.d rfl) (.cons (.d rfl) (.cons (.d rfl) (.cons (.d rfl) (.cons (.d rfl) .nil))))))) .nil))))⟩⟩
   ·replace hm := iteF hc2 hm
    refine AW.skip ?_
    obtain rfl := Option.some.inj hm
    exact nq ⟨_, rfl, ⟨[0, 1, 2, 3], rfl, rfl, rfl, ⟨(.ptr rfl), (.ptr rfl), (.ptr rfl), (.ptr rfl), trivial⟩, trivial, (.row rfl (cd (SFeatures.e a1).cells) (.row rfl (cd (SFeatures.e a2).cells) (.row rfl (.cons (.d rfl) (.cons (.d rfl) (.cons (.d rfl) (.cons (.d rfl) (.cons (.d rfl) (.cons (.d rfl) (.cons (.d rfl) .nil))))))) (.row rfl (.cons (.d rfl) (.cons (.d rfl) (.cons (.d rfl) (.cons (.d rfl) (.cons (.d rfl) (.cons (.d rfl) (.cons (.d rfl) .nil))))))) .nil))))⟩⟩
  ·rintro s11 rfl
   replace hm := hkj1
   try dsimp only at hm
   obtain ⟨t_j2, hm, hkj2⟩ := bindE hm
   refine AW.cutS (α := A7) 0 (fun x => x = t_j2) (fun x => [(2, .ptr 0 0), (3, .ptr 1 0), (4, .ptr 2 0), (6, .ptr 3 0)]) (fun x => [.row ((SFeatures.e a1).cells.map .d), .row ((SFeatures.e a2).cells.map .d), .row [.d (.int .i64 (0 : Int)), .d (.int .i64 (0 : Int)), .d (.int .i64 (0 : Int)), .d (.int .i64 (0 : Int)), .d (.int .i64 (0 : Int)), .d (.int .i64 (0 : Int)), .d (.int .i64 (0 : Int))], .row [.d (.int .i64 x.e0), .d (.int .i64 x.e1), .d (.int .i64 x.e2), .d (.int .i64 x.e3), .d (.int .i64 x.e4), .d (.int .i64 x.e5), .d (.int .i64 x.e6)]]) (WOK.g0 hw0 (by simp)) ?_ ?_
   ·skip
    refine zr (zs (op_field_ptr .r fd33_2) (zs (op_load_ptr1 .r rfl rfl sc9) (zs (op_neqS (.r rfl) (.r rfl)) (zm rfl (AL.sT rfl rfl rfl rfl (fun g => op_field_ptr .r fd33_2) (AL.sT rfl rfl rfl rfl (fun g => op_load_ptr1 (.we g rfl) rfl rfl sc9) (AL.sT rfl rfl rfl rfl (fun g => op_neqS (.we g rfl rfl) (.r rfl)) (zs (op_and (.r rfl) (fun h => (.we h rfl rfl)) rfl) (zn ?_)))))))))
    refine AW.cond (b := _) rfl (fun hc3 => ?_) (fun hc3 => ?_)
    ·replace hm := iteT hc3 hm
     refine AW.drawn [([], []), ([0], []), ([], []), ([1], []), ([], []), ([], []), ([0], []), ([], []), ([1], []), ([], []), ([], []), ([], []), ([3], [3])] mo (by decide +kernel) (AD.s (ws := []) rfl rfl (fun H' _ hH => op_field_ptr .r fd33_2) (AD.s (ws := []) rfl rfl (fun H' _ hH => op_load_ptr1 .r ((hH _ (by simp)).trans rfl) rfl sc9) (AD.s (ws := []) rfl rfl (fun H' _ hH => op_field_ptr .r fd33_2) (AD.s (ws := []) rfl rfl (fun H' _ hH => op_load_ptr1 .r ((hH _ (by simp)).trans rfl) rfl sc9) (AD.s (ws := []) rfl rfl (fun H' _ hH => op_eqlS (.r rfl) (.r rfl)) (AD.s (ws := []) rfl rfl (fun H' _ hH => op_field_ptr .r fd33_2) (AD.s (ws := []) rfl rfl (fun H' _ hH => op_load_ptr1 .r ((hH _ (by simp)).trans rfl) rfl sc9) (AD.s (ws := []) rfl rfl (fun H' _ hH => op_field_ptr .r fd33_2) (AD.s (ws := []) rfl rfl (fun H' _ hH => op_load_ptr1 .r ((hH _ (by simp)).trans rfl) rfl sc9) ?_)))))))))
     obtain ⟨v12, hv12, hm⟩ := bindE hm
     refine AD.s (ws := []) rfl rfl (fun H' _ hH => op_fn Tryz.call22 .r (.cons (.r rfl) (.cons (.r rfl) .nil)) (m_match_near_ok hv12)) ?_
     obtain ⟨v13, hv13, hm⟩ := bindE hm
     refine AD.s (ws := []) rfl rfl (fun H' _ hH => op_fn Tryz.call19 .r (.cons (.r rfl) (.cons (.r rfl) .nil)) (m_match_verdict_ok hv13)) (AD.s (ws := []) rfl rfl (fun H' _ hH => op_indexAddr_arr (i := 1) .r (.r rfl) rfl (by decide) Tryz.underlying29 ⟨_, rfl, rfl⟩) (AD.s (ws := [(3, _)]) rfl rfl (fun H' _ hH => op_storeD .r .r ((hH _ (by simp)).trans rfl) rfl rfl ⟨_, rfl, rfl⟩ (Nat.le_of_ble_eq_true rfl)) (AD.nil ?_)))
     obtain rfl := Option.some.inj hm
     exact nq ⟨_, rfl, ⟨[0, 1, 2, 3], rfl, rfl, rfl, ⟨(.ptr rfl), (.ptr rfl), (.ptr rfl), (.ptr rfl), trivial⟩, trivial, (.row rfl (cd (SFeatures.e a1).cells) (.row rfl (cd (SFeatures.e a2).cells) (.row rfl (.cons (.d rfl) (.cons (.d rfl) (.cons (.d rfl) (.cons (.d rfl) (.cons (.d rfl) (.cons (.d rfl) (.cons (.d rfl) .nil))))))) (.row rfl (.cons (.d rfl) (.cons (.d rfl) (.cons (.d rfl) (.cons (.d rfl) (.cons (.d rfl) (.cons (.d rfl) (.cons (.d rfl) .nil))))))) .nil))))⟩⟩
    ·replace hm := iteF hc3 hm
     refine AW.skip ?_
     obtain rfl := Option.some.inj hm
     exact nq ⟨_, rfl, ⟨[0, 1, 2, 3], rfl, rfl, rfl, ⟨(.ptr rfl), (.ptr rfl), (.ptr rfl), (.ptr rfl), trivial⟩, trivial, (.row rfl (cd (SFeatures.e a1).cells) (.row rfl (cd (SFeatures.e a2).cells) (.row rfl (.cons (.d rfl) (.cons (.d rfl) (.cons (.d rfl) (.cons (.d rfl) (.cons (.d rfl) (.cons (.d rfl) (.cons (.d rfl) .nil))))))) (.row rfl (.cons (.d rfl) (.cons (.d rfl) (.cons (.d rfl) (.cons (.d rfl) (.cons (.d rfl) (.cons (.d rfl) (.cons (.d rfl) .nil))))))) .nil))))⟩⟩
   ·rintro s14 rfl
    replace hm := hkj2
    try dsimp only at hm
    obtain ⟨t_j3, hm, hkj3⟩ := bindE hm
    refine AW.cutS (α := A7) 0 (fun x => x = t_j3) (fun x => [(2, .ptr 0 0), (3, .ptr 1 0), (4, .ptr 2 0), (6, .ptr 3 0)]) (fun x => [.row ((SFeatures.e a1).cells.map .d), .row ((SFeatures.e a2).cells.map .d), .row [.d (.int .i64 (0 : Int)), .d (.int .i64 (0 : Int)), .d (.int .i64 (0 : Int)), .d (.int .i64 (0 : Int)), .d (.int .i64 (0 : Int)), .d (.int .i64 (0 : Int)), .d (.int .i64 (0 : Int))], .row [.d (.int .i64 x.e0), .d (.int .i64 x.e1), .d (.int .i64 x.e2), .d (.int .i64 x.e3), .d (.int .i64 x.e4), .d (.int .i64 x.e5), .d (.int .i64 x.e6)]]) (WOK.g0 hw0 (by simp)) ?_ ?_
    ·skip
     refine zr (zs (op_field_ptr .r fd33_3) (zs (op_load_ptr1 .r rfl rfl sc23) (zs (op_lenM (f := D.i) (.r rfl) sl23) (zs (op_gtr (.r rfl) (.r rfl)) (zm rfl (AL.sT rfl rfl rfl rfl (fun g => op_field_ptr .r fd33_3) (AL.sT rfl rfl rfl rfl (fun g => op_load_ptr1 (.we g rfl) rfl rfl sc23) (AL.sT rfl rfl rfl rfl (fun g => op_lenM (f := D.i) (.we g rfl rfl) sl23) (AL.sT rfl rfl rfl rfl (fun g => op_gtr (.we g rfl rfl) (.r rfl)) (zs (op_and (.r rfl) (fun h => (.we h rfl rfl)) rfl) (zn ?_)))))))))))
     refine AW.cond (b := _) rfl (fun hc4 => ?_) (fun hc4 => ?_)
     ·replace hm := iteT hc4 hm
      refine AW.drawn [([], []), ([0], []), ([], []), ([1], []), ([], []), ([], []), ([0], []), ([], []), ([1], []), ([], []), ([], []), ([], []), ([3], [3])] mo (by decide +kernel) (AD.s (ws := []) rfl rfl (fun H' _ hH => op_field_ptr .r fd33_3) (AD.s (ws := []) rfl rfl (fun H' _ hH => op_load_ptr1 .r ((hH _ (by simp)).trans rfl) rfl sc23) (AD.s (ws := []) rfl rfl (fun H' _ hH => op_field_ptr .r fd33_3) (AD.s (ws := []) rfl rfl (fun H' _ hH => op_load_ptr1 .r ((hH _ (by simp)).trans rfl) rfl sc23) ?_))))
      obtain ⟨v15, hv15, hm⟩ := bindE hm
      refine AD.s (ws := []) rfl rfl (fun H' _ hH => op_fn Tryz.call24 .r (.cons (.r rfl) (.cons (.r rfl) .nil)) (m_match_common_int_ok hv15)) (AD.s (ws := []) rfl rfl (fun H' _ hH => op_field_ptr .r fd33_3) (AD.s (ws := []) rfl rfl (fun H' _ hH => op_load_ptr1 .r ((hH _ (by simp)).trans rfl) rfl sc23) (AD.s (ws := []) rfl rfl (fun H' _ hH => op_field_ptr .r fd33_3) (AD.s (ws := []) rfl rfl (fun H' _ hH => op_load_ptr1 .r ((hH _ (by simp)).trans rfl) rfl sc23) ?_))))
      obtain ⟨v16, hv16, hm⟩ := bindE hm
      refine AD.s (ws := []) rfl rfl (fun H' _ hH => op_fn Tryz.call25 .r (.cons (.r rfl) (.cons (.r rfl) .nil)) (m_match_neighbours_ok hv16)) ?_
      obtain ⟨v17, hv17, hm⟩ := bindE hm
      refine AD.s (ws := []) rfl rfl (fun H' _ hH => op_fn Tryz.call19 .r (.cons (.r rfl) (.cons (.r rfl) .nil)) (m_match_verdict_ok hv17)) (AD.s (ws := []) rfl rfl (fun H' _ hH => op_indexAddr_arr (i := 2) .r (.r rfl) rfl (by decide) Tryz.underlying29 ⟨_, rfl, rfl⟩) (AD.s (ws := [(3, _)]) rfl rfl (fun H' _ hH => op_storeD .r .r ((hH _ (by simp)).trans rfl) rfl rfl ⟨_, rfl, rfl⟩ (Nat.le_of_ble_eq_true rfl)) (AD.nil ?_)))
      obtain rfl := Option.some.inj hm
      exact nq ⟨_, rfl, ⟨[0, 1, 2, 3], rfl, rfl, rfl, ⟨(.ptr rfl), (.ptr rfl), (.ptr rfl), (.ptr rfl), trivial⟩, trivial, (.row rfl (cd (SFeatures.e a1).cells) (.row rfl (cd (SFeatures.e a2).cells) (.row rfl (.cons (.d rfl) (.cons (.d rfl) (.cons (.d rfl) (.cons (.d rfl) (.cons (.d rfl) (.cons (.d rfl) (.cons (.d rfl) .nil))))))) (.row rfl (.cons (.d rfl) (.cons (.d rfl) (.cons (.d rfl) (.cons (.d rfl) (.cons (.d rfl) (.cons (.d rfl) (.cons (.d rfl) .nil))))))) .nil))))⟩⟩
     ·replace hm := iteF hc4 hm
      refine AW.skip ?_
      obtain rfl := Option.some.inj hm
      exact nq ⟨_, rfl, ⟨[0, 1, 2, 3], rfl, rfl, rfl, ⟨(.ptr rfl), (.ptr rfl), (.ptr rfl), (.ptr rfl), trivial⟩, trivial, (.row rfl (cd (SFeatures.e a1).cells) (.row rfl (cd (SFeatures.e a2).cells) (.row rfl (.cons (.d rfl) (.cons (.d rfl) (.cons (.d rfl) (.cons (.d rfl) (.cons (.d rfl) (.cons (.d rfl) (.cons (.d rfl) .nil))))))) (.row rfl (.cons (.d rfl) (.cons (.d rfl) (.cons (.d rfl) (.cons (.d rfl) (.cons (.d rfl) (.cons (.d rfl) (.cons (.d rfl) .nil))))))) .nil))))⟩⟩
    ·rintro s18 rfl
     replace hm := hkj3
     try dsimp only at hm
     obtain ⟨t_j4, hm, hkj4⟩ := bindE hm
     refine AW.cutS (α := A7) 0 (fun x => x = t_j4) (fun x => [(2, .ptr 0 0), (3, .ptr 1 0), (4, .ptr 2 0), (6, .ptr 3 0)]) (fun x => [.row ((SFeatures.e a1).cells.map .d), .row ((SFeatures.e a2).cells.map .d), .row [.d (.int .i64 (0 : Int)), .d (.int .i64 (0 : Int)), .d (.int .i64 (0 : Int)), .d (.int .i64 (0 : Int)), .d (.int .i64 (0 : Int)), .d (.int .i64 (0 : Int)), .d (.int .i64 (0 : Int))], .row [.d (.int .i64 x.e0), .d (.int .i64 x.e1), .d (.int .i64 x.e2), .d (.int .i64 x.e3), .d (.int .i64 x.e4), .d (.int .i64 x.e5), .d (.int .i64 x.e6)]]) (WOK.g0 hw0 (by simp)) ?_ ?_
     ·skip
      refine zr (zs (op_field_ptr .r fd33_4) (zs (op_load_ptr1 .r rfl rfl sc22) (zs (op_lenM (f := D.str) (.r rfl) sl22) (zs (op_gtr (.r rfl) (.r rfl)) (zm rfl (AL.sT rfl rfl rfl rfl (fun g => op_field_ptr .r fd33_4) (AL.sT rfl rfl rfl rfl (fun g => op_load_ptr1 (.we g rfl) rfl rfl sc22) (AL.sT rfl rfl rfl rfl (fun g => op_lenM (f := D.str) (.we g rfl rfl) sl22) (AL.sT rfl rfl rfl rfl (fun g => op_gtr (.we g rfl rfl) (.r rfl)) (zs (op_and (.r rfl) (fun h => (.we h rfl rfl)) rfl) (zn ?_)))))))))))
      refine AW.cond (b := _) rfl (fun hc5 => ?_) (fun hc5 => ?_)
      ·replace hm := iteT hc5 hm
       refine AW.region (zs (op_field_ptr .r fd33_4) (zs (op_load_ptr1 .r rfl rfl sc22) (zs (op_field_ptr .r fd33_4) (zs (op_load_ptr1 .r rfl rfl sc22) ?_))))
       obtain ⟨v19, hv19, hm⟩ := bindE hm
       refine zs (op_fn Tryz.call26 .r (.cons (.r rfl) (.cons (.r rfl) .nil)) (m_match_common_string_ok hv19)) ?_
       obtain ⟨v20, hv20, hm⟩ := bindE hm
       refine zs (op_fn Tryz.call19 .r (.cons (.r rfl) (.cons (.r rfl) .nil)) (m_match_verdict_ok hv20)) (zs (op_indexAddr_arr (i := 3) .r (.r rfl) rfl (by decide) Tryz.underlying29 ⟨_, rfl, rfl⟩) (zs (op_storeD .r .r rfl rfl rfl ⟨_, rfl, rfl⟩ (Nat.le_of_ble_eq_true rfl)) (zn ?_)))
       obtain rfl := Option.some.inj hm
       exact nq ⟨_, rfl, ⟨[0, 1, 2, 3], rfl, rfl, rfl, ⟨(.ptr rfl), (.ptr rfl), (.ptr rfl), (.ptr rfl), trivial⟩, trivial, (.row rfl (cd (SFeatures.e a1).cells) (.row rfl (cd (SFeatures.e a2).cells) (.row rfl (.cons (.d rfl) (.cons (.d rfl) (.cons (.d rfl) (.cons (.d rfl) (.cons (.d rfl) (.cons (.d rfl) (.cons (.d rfl) .nil))))))) (.row rfl (.cons (.d rfl) (.cons (.d rfl) (.cons (.d rfl) (.cons (.d rfl) (.cons (.d rfl) (.cons (.d rfl) (.cons (.d rfl) .nil))))))) .nil))))⟩⟩
      ·replace hm := iteF hc5 hm
       refine AW.skip ?_
       obtain rfl := Option.some.inj hm
       exact nq ⟨_, rfl, ⟨[0, 1, 2, 3], rfl, rfl, rfl, ⟨(.ptr rfl), (.ptr rfl), (.ptr rfl), (.ptr rfl), trivial⟩, trivial, (.row rfl (cd (SFeatures.e a1).cells) (.row rfl (cd (SFeatures.e a2).cells) (.row rfl (.cons (.d rfl) (.cons (.d rfl) (.cons (.d rfl) (.cons (.d rfl) (.cons (.d rfl) (.cons (.d rfl) (.cons (.d rfl) .nil))))))) (.row rfl (.cons (.d rfl) (.cons (.d rfl) (.cons (.d rfl) (.cons (.d rfl) (.cons (.d rfl) (.cons (.d rfl) (.cons (.d rfl) .nil))))))) .nil))))⟩⟩
     ·rintro s21 rfl
      replace hm := hkj4
      try dsimp only at hm
      obtain ⟨t_j5, hm, hkj5⟩ := bindE hm
      refine AW.cutS (α := A7) 0 (fun x => x = t_j5) (fun x => [(2, .ptr 0 0), (3, .ptr 1 0), (4, .ptr 2 0), (6, .ptr 3 0)]) (fun x => [.row ((SFeatures.e a1).cells.map .d), .row ((SFeatures.e a2).cells.map .d), .row [.d (.int .i64 (0 : Int)), .d (.int .i64 (0 : Int)), .d (.int .i64 (0 : Int)), .d (.int .i64 (0 : Int)), .d (.int .i64 (0 : Int)), .d (.int .i64 (0 : Int)), .d (.int .i64 (0 : Int))], .row [.d (.int .i64 x.e0), .d (.int .i64 x.e1), .d (.int .i64 x.e2), .d (.int .i64 x.e3), .d (.int .i64 x.e4), .d (.int .i64 x.e5), .d (.int .i64 x.e6)]]) (WOK.g0 hw0 (by simp)) ?_ ?_
      ·skip
       refine zr (zs (op_field_ptr .r fd33_5) (zs (op_load_ptr1 .r rfl rfl sc22) (zs (op_lenM (f := D.str) (.r rfl) sl22) (zs (op_gtr (.r rfl) (.r rfl)) (zm rfl (AL.sT rfl rfl rfl rfl (fun g => op_field_ptr .r fd33_5) (AL.sT rfl rfl rfl rfl (fun g => op_load_ptr1 (.we g rfl) rfl rfl sc22) (AL.sT rfl rfl rfl rfl (fun g => op_lenM (f := D.str) (.we g rfl rfl) sl22) (AL.sT rfl rfl rfl rfl (fun g => op_gtr (.we g rfl rfl) (.r rfl)) (zs (op_and (.r rfl) (fun h => (.we h rfl rfl)) rfl) (zn ?_)))))))))))
       refine AW.cond (b := _) rfl (fun hc6 => ?_) (fun hc6 => ?_)
       ·replace hm := iteT hc6 hm
        refine AW.region (zs (op_field_ptr .r fd33_5) (zs (op_load_ptr1 .r rfl rfl sc22) (zs (op_field_ptr .r fd33_5) (zs (op_load_ptr1 .r rfl rfl sc22) ?_))))
        obtain ⟨v22, hv22, hm⟩ := bindE hm
        refine zs (op_fn Tryz.call26 .r (.cons (.r rfl) (.cons (.r rfl) .nil)) (m_match_common_string_ok hv22)) ?_
        obtain ⟨v23, hv23, hm⟩ := bindE hm
        refine zs (op_fn Tryz.call19 .r (.cons (.r rfl) (.cons (.r rfl) .nil)) (m_match_verdict_ok hv23)) (zs (op_indexAddr_arr (i := 4) .r (.r rfl) rfl (by decide) Tryz.underlying29 ⟨_, rfl, rfl⟩) (zs (op_storeD .r .r rfl rfl rfl ⟨_, rfl, rfl⟩ (Nat.le_of_ble_eq_true rfl)) (zn ?_)))
        obtain rfl := Option.some.inj hm
        exact nq ⟨_, rfl, ⟨[0, 1, 2, 3], rfl, rfl, rfl, ⟨(.ptr rfl), (.ptr rfl), (.ptr rfl), (.ptr rfl), trivial⟩, trivial, (.row rfl (cd (SFeatures.e a1).cells) (.row rfl (cd (SFeatures.e a2).cells) (.row rfl (.cons (.d rfl) (.cons (.d rfl) (.cons (.d rfl) (.cons (.d rfl) (.cons (.d rfl) (.cons (.d rfl) (.cons (.d rfl) .nil))))))) (.row rfl (.cons (.d rfl) (.cons (.d rfl) (.cons (.d rfl) (.cons (.d rfl) (.cons (.d rfl) (.cons (.d rfl) (.cons (.d rfl) .nil))))))) .nil))))⟩⟩
       ·replace hm := iteF hc6 hm
        refine AW.skip ?_
        obtain rfl := Option.some.inj hm
        exact nq ⟨_, rfl, ⟨[0, 1, 2, 3], rfl, rfl, rfl, ⟨(.ptr rfl), (.ptr rfl), (.ptr rfl), (.ptr rfl), trivial⟩, trivial, (.row rfl (cd (SFeatures.e a1).cells) (.row rfl (cd (SFeatures.e a2).cells) (.row rfl (.cons (.d rfl) (.cons (.d rfl) (.cons (.d rfl) (.cons (.d rfl) (.cons (.d rfl) (.cons (.d rfl) (.cons (.d rfl) .nil))))))) (.row rfl (.cons (.d rfl) (.cons (.d rfl) (.cons (.d rfl) (.cons (.d rfl) (.cons (.d rfl) (.cons (.d rfl) (.cons (.d rfl) .nil))))))) .nil))))⟩⟩
      ·rintro s24 rfl
       replace hm := hkj5
       try dsimp only at hm
       obtain ⟨t_j6, hm, hkj6⟩ := bindE hm
       refine AW.cutS (α := A7) 0 (fun x => x = t_j6) (fun x => [(2, .ptr 0 0), (3, .ptr 1 0), (4, .ptr 2 0), (6, .ptr 3 0)]) (fun x => [.row ((SFeatures.e a1).cells.map .d), .row ((SFeatures.e a2).cells.map .d), .row [.d (.int .i64 (0 : Int)), .d (.int .i64 (0 : Int)), .d (.int .i64 (0 : Int)), .d (.int .i64 (0 : Int)), .d (.int .i64 (0 : Int)), .d (.int .i64 (0 : Int)), .d (.int .i64 (0 : Int))], .row [.d (.int .i64 x.e0), .d (.int .i64 x.e1), .d (.int .i64 x.e2), .d (.int .i64 x.e3), .d (.int .i64 x.e4), .d (.int .i64 x.e5), .d (.int .i64 x.e6)]]) (WOK.g0 hw0 (by simp)) ?_ ?_
       ·skip
        refine zr (zs (op_field_ptr .r fd33_6) (zs (op_load_ptr1 .r rfl rfl sc22) (zs (op_lenM (f := D.str) (.r rfl) sl22) (zs (op_gtr (.r rfl) (.r rfl)) (zm rfl (AL.sT rfl rfl rfl rfl (fun g => op_field_ptr .r fd33_6) (AL.sT rfl rfl rfl rfl (fun g => op_load_ptr1 (.we g rfl) rfl rfl sc22) (AL.sT rfl rfl rfl rfl (fun g => op_lenM (f := D.str) (.we g rfl rfl) sl22) (AL.sT rfl rfl rfl rfl (fun g => op_gtr (.we g rfl rfl) (.r rfl)) (zs (op_and (.r rfl) (fun h => (.we h rfl rfl)) rfl) (zn ?_)))))))))))
        refine AW.cond (b := _) rfl (fun hc7 => ?_) (fun hc7 => ?_)
        ·replace hm := iteT hc7 hm
         refine AW.drawn [([], []), ([0], []), ([], []), ([1], []), ([], []), ([], []), ([0], []), ([], []), ([1], []), ([], []), ([], []), ([], []), ([3], [3])] mo (by decide +kernel) (AD.s (ws := []) rfl rfl (fun H' _ hH => op_field_ptr .r fd33_6) (AD.s (ws := []) rfl rfl (fun H' _ hH => op_load_ptr1 .r ((hH _ (by simp)).trans rfl) rfl sc22) (AD.s (ws := []) rfl rfl (fun H' _ hH => op_field_ptr .r fd33_6) (AD.s (ws := []) rfl rfl (fun H' _ hH => op_load_ptr1 .r ((hH _ (by simp)).trans rfl) rfl sc22) ?_))))
         obtain ⟨v25, hv25, hm⟩ := bindE hm
         refine AD.s (ws := []) rfl rfl (fun H' _ hH => op_fn Tryz.call20 .r (.cons (.r rfl) (.cons (.r rfl) .nil)) (m_slices_Equal_string_string_ok hv25)) (AD.s (ws := []) rfl rfl (fun H' _ hH => op_field_ptr .r fd33_6) (AD.s (ws := []) rfl rfl (fun H' _ hH => op_load_ptr1 .r ((hH _ (by simp)).trans rfl) rfl sc22) (AD.s (ws := []) rfl rfl (fun H' _ hH => op_field_ptr .r fd33_6) (AD.s (ws := []) rfl rfl (fun H' _ hH => op_load_ptr1 .r ((hH _ (by simp)).trans rfl) rfl sc22) ?_))))
         obtain ⟨v26, hv26, hm⟩ := bindE hm
         refine AD.s (ws := []) rfl rfl (fun H' _ hH => op_fn Tryz.call26 .r (.cons (.r rfl) (.cons (.r rfl) .nil)) (m_match_common_string_ok hv26)) ?_
         obtain ⟨v27, hv27, hm⟩ := bindE hm
         refine AD.s (ws := []) rfl rfl (fun H' _ hH => op_fn Tryz.call19 .r (.cons (.r rfl) (.cons (.r rfl) .nil)) (m_match_verdict_ok hv27)) (AD.s (ws := []) rfl rfl (fun H' _ hH => op_indexAddr_arr (i := 5) .r (.r rfl) rfl (by decide) Tryz.underlying29 ⟨_, rfl, rfl⟩) (AD.s (ws := [(3, _)]) rfl rfl (fun H' _ hH => op_storeD .r .r ((hH _ (by simp)).trans rfl) rfl rfl ⟨_, rfl, rfl⟩ (Nat.le_of_ble_eq_true rfl)) (AD.nil ?_)))
         obtain rfl := Option.some.inj hm
         exact nq ⟨_, rfl, ⟨[0, 1, 2, 3], rfl, rfl, rfl, ⟨(.ptr rfl), (.ptr rfl), (.ptr rfl), (.ptr rfl), trivial⟩, trivial, (.row rfl (cd (SFeatures.e a1).cells) (.row rfl (cd (SFeatures.e a2).cells) (.row rfl (.cons (.d rfl) (.cons (.d rfl) (.cons (.d rfl) (.cons (.d rfl) (.cons (.d rfl) (.cons (.d rfl) (.cons (.d rfl) .nil))))))) (.row rfl (.cons (.d rfl) (.cons (.d rfl) (.cons (.d rfl) (.cons (.d rfl) (.cons (.d rfl) (.cons (.d rfl) (.cons (.d rfl) .nil))))))) .nil))))⟩⟩
        ·replace hm := iteF hc7 hm
         refine AW.skip ?_
         obtain rfl := Option.some.inj hm
         exact nq ⟨_, rfl, ⟨[0, 1, 2, 3], rfl, rfl, rfl, ⟨(.ptr rfl), (.ptr rfl), (.ptr rfl), (.ptr rfl), trivial⟩, trivial, (.row rfl (cd (SFeatures.e a1).cells) (.row rfl (cd (SFeatures.e a2).cells) (.row rfl (.cons (.d rfl) (.cons (.d rfl) (.cons (.d rfl) (.cons (.d rfl) (.cons (.d rfl) (.cons (.d rfl) (.cons (.d rfl) .nil))))))) (.row rfl (.cons (.d rfl) (.cons (.d rfl) (.cons (.d rfl) (.cons (.d rfl) (.cons (.d rfl) (.cons (.d rfl) (.cons (.d rfl) .nil))))))) .nil))))⟩⟩
       ·rintro s28 rfl
        replace hm := hkj6
        try dsimp only at hm
        obtain ⟨t_j7, hm, hkj7⟩ := bindE hm
        refine AW.cutS (α := A7) 0 (fun x => x = t_j7) (fun x => [(4, .ptr 2 0), (6, .ptr 3 0)]) (fun x => [.row ((SFeatures.e a1).cells.map .d), .row ((SFeatures.e a2).cells.map .d), .row [.d (.int .i64 (0 : Int)), .d (.int .i64 (0 : Int)), .d (.int .i64 (0 : Int)), .d (.int .i64 (0 : Int)), .d (.int .i64 (0 : Int)), .d (.int .i64 (0 : Int)), .d (.int .i64 (0 : Int))], .row [.d (.int .i64 x.e0), .d (.int .i64 x.e1), .d (.int .i64 x.e2), .d (.int .i64 x.e3), .d (.int .i64 x.e4), .d (.int .i64 x.e5), .d (.int .i64 x.e6)]]) (WOK.g0 hw0 (by simp)) ?_ ?_
        ·skip
         refine zr (zs (op_field_ptr .r fd33_7) (zs (op_load_ptr1 .r rfl rfl sc22) (zs (op_lenM (f := D.str) (.r rfl) sl22) (zs (op_gtr (.r rfl) (.r rfl)) (zm rfl (AL.sT rfl rfl rfl rfl (fun g => op_field_ptr .r fd33_7) (AL.sT rfl rfl rfl rfl (fun g => op_load_ptr1 (.we g rfl) rfl rfl sc22) (AL.sT rfl rfl rfl rfl (fun g => op_lenM (f := D.str) (.we g rfl rfl) sl22) (AL.sT rfl rfl rfl rfl (fun g => op_gtr (.we g rfl rfl) (.r rfl)) (zs (op_and (.r rfl) (fun h => (.we h rfl rfl)) rfl) (zn ?_)))))))))))
         refine AW.cond (b := _) rfl (fun hc8 => ?_) (fun hc8 => ?_)
         ·replace hm := iteT hc8 hm
          refine AW.region (zs (op_field_ptr .r fd33_7) (zs (op_load_ptr1 .r rfl rfl sc22) (zs (op_field_ptr .r fd33_7) (zs (op_load_ptr1 .r rfl rfl sc22) ?_))))
          obtain ⟨v29, hv29, hm⟩ := bindE hm
          refine zs (op_fn Tryz.call20 .r (.cons (.r rfl) (.cons (.r rfl) .nil)) (m_slices_Equal_string_string_ok hv29)) ?_
          obtain ⟨v30, hv30, hm⟩ := bindE hm
          refine zs (op_fn Tryz.call19 .r (.cons (.r rfl) (.cons (.r rfl) .nil)) (m_match_verdict_ok hv30)) (zs (op_indexAddr_arr (i := 6) .r (.r rfl) rfl (by decide) Tryz.underlying29 ⟨_, rfl, rfl⟩) (zs (op_storeD .r .r rfl rfl rfl ⟨_, rfl, rfl⟩ (Nat.le_of_ble_eq_true rfl)) (zn ?_)))
          obtain rfl := Option.some.inj hm
          exact nq ⟨_, rfl, ⟨[0, 1, 2, 3], rfl, rfl, rfl, ⟨(.ptr rfl), (.ptr rfl), trivial⟩, trivial, (.row rfl (cd (SFeatures.e a1).cells) (.row rfl (cd (SFeatures.e a2).cells) (.row rfl (.cons (.d rfl) (.cons (.d rfl) (.cons (.d rfl) (.cons (.d rfl) (.cons (.d rfl) (.cons (.d rfl) (.cons (.d rfl) .nil))))))) (.row rfl (.cons (.d rfl) (.cons (.d rfl) (.cons (.d rfl) (.cons (.d rfl) (.cons (.d rfl) (.cons (.d rfl) (.cons (.d rfl) .nil))))))) .nil))))⟩⟩
         ·replace hm := iteF hc8 hm
          refine AW.skip ?_
          obtain rfl := Option.some.inj hm
          exact nq ⟨_, rfl, ⟨[0, 1, 2, 3], rfl, rfl, rfl, ⟨(.ptr rfl), (.ptr rfl), trivial⟩, trivial, (.row rfl (cd (SFeatures.e a1).cells) (.row rfl (cd (SFeatures.e a2).cells) (.row rfl (.cons (.d rfl) (.cons (.d rfl) (.cons (.d rfl) (.cons (.d rfl) (.cons (.d rfl) (.cons (.d rfl) (.cons (.d rfl) .nil))))))) (.row rfl (.cons (.d rfl) (.cons (.d rfl) (.cons (.d rfl) (.cons (.d rfl) (.cons (.d rfl) (.cons (.d rfl) (.cons (.d rfl) .nil))))))) .nil))))⟩⟩
        ·rintro s31 rfl
         replace hm := hkj7
         try dsimp only at hm
         refine zr (zs (op_load_ptrA .r rfl rfl rfl ag29) (zs (op_storeA .r .r rfl rfl ⟨_, rfl, rfl⟩ rfl (Nat.le_of_ble_eq_true rfl)) (za rfl (zn (AW.ret ?_)))))
         obtain rfl := Option.some.inj hm
         exact EndQ.d (.cellA .r rfl rfl rfl ag29 (.tmp .r .nil)) rfl rfl

theorem m_match_model_ok {n : Nat} {a1 : A73} {r : A72} (hm : m_match_model n a1 = some r) : Fn Tryz.prog 36 [(A73.e a1)] (A72.e r) := by
 unfold m_match_model at hm
 refine Fn.of_AW (fnn := Tryz.f36) Tryz.func36 rfl (Nat.le_of_ble_eq_true rfl) (fun g0 w0 hw0 => ?_)
 refine AW.reset 0 [(0, .d (A73.e a1))] [] (WOK.g0 hw0 (by simp)) ⟨[], rfl, rfl, rfl, ⟨(.d rfl), trivial⟩, trivial, .nil⟩ (zr (zs (op_box (n := 0) .r rfl rfl rfl) (zs (op_alloc (n := 1) zr52 rfl) (zn (zr (zs (op_alloc (n := 2) zr52 rfl) (zn (AW.seq (zr (zs (op_load_ptrA .r rfl rfl rfl ag88) (zm rfl (zn (AW.block ?_)))))))))))))
 obtain ⟨t_1, hI1, hk1⟩ := bindE hm
 refine AW.loopS (σ := (Int × A72)) (τ := A72) 0 (fun x => [(2, .ptr 1 0), (3, .ptr 2 0), (7, .d (A73.e a1)), (8, .d (.int .i64 x.1))]) (fun x => [.row ((A73.e a1).cells.map .d), .row [.d (.int .i64 (0 : Int)), .d (.int .i64 (0 : Int)), .d (.int .i64 (0 : Int)), .d (.int .i64 (0 : Int)), .d (.int .i64 (0 : Int)), .d (.int .i64 (0 : Int)), .d (.int .i64 (0 : Int)), .d (.int .i64 (0 : Int)), .d (.int .i64 (0 : Int)), .d (.int .i64 (0 : Int)), .d (.int .i64 (0 : Int)), .d (.int .i64 (0 : Int)), .d (.int .i64 (0 : Int)), .d (.int .i64 (0 : Int)), .d (.int .i64 (0 : Int)), .d (.int .i64 (0 : Int)), .d (.int .i64 (0 : Int)), .d (.int .i64 (0 : Int)), .d (.int .i64 (0 : Int)), .d (.int .i64 (0 : Int)), .d (.int .i64 (0 : Int)), .d (.int .i64 (0 : Int)), .d (.int .i64 (0 : Int)), .d (.int .i64 (0 : Int)), .d (.int .i64 (0 : Int)), .d (.int .i64 (0 : Int)), .d (.int .i64 (0 : Int)), .d (.int .i64 (0 : Int)), .d (.int .i64 (0 : Int)), .d (.int .i64 (0 : Int)), .d (.int .i64 (0 : Int)), .d (.int .i64 (0 : Int)), .d (.int .i64 (0 : Int)), .d (.int .i64 (0 : Int)), .d (.int .i64 (0 : Int)), .d (.int .i64 (0 : Int)), .d (.int .i64 (0 : Int)), .d (.int .i64 (0 : Int)), .d (.int .i64 (0 : Int)), .d (.int .i64 (0 : Int)), .d (.int .i64 (0 : Int)), .d (.int .i64 (0 : Int))], .row ((A72.e x.2).cells.map .d)]) hI1 (WOK.g0 hw0 (by simp)) ⟨[0, 1, 2], rfl, rfl, rfl, ⟨(.ptr rfl), (.ptr rfl), (.d rfl), (.d rfl), trivial⟩, trivial, (.row rfl (cd (A73.e a1).cells) (.row rfl (.cons (.d rfl) (.cons (.d rfl) (.cons (.d rfl) (.cons (.d rfl) (.cons (.d rfl) (.cons (.d rfl) (.cons (.d rfl) (.cons (.d rfl) (.cons (.d rfl) (.cons (.d rfl) (.cons (.d rfl) (.cons (.d rfl) (.cons (.d rfl) (.cons (.d rfl) (.cons (.d rfl) (.cons (.d rfl) (.cons (.d rfl) (.cons (.d rfl) (.cons (.d rfl) (.cons (.d rfl) (.cons (.d rfl) (.cons (.d rfl) (.cons (.d rfl) (.cons (.d rfl) (.cons (.d rfl) (.cons (.d rfl) (.cons (.d rfl) (.cons (.d rfl) (.cons (.d rfl) (.cons (.d rfl) (.cons (.d rfl) (.cons (.d rfl) (.cons (.d rfl) (.cons (.d rfl) (.cons (.d rfl) (.cons (.d rfl) (.cons (.d rfl) (.cons (.d rfl) (.cons (.d rfl) (.cons (.d rfl) (.cons (.d rfl) (.cons (.d rfl) .nil)))))))))))))))))))))))))))))))))))))))))) (.row rfl (.cons (.d rfl) (.cons (.d rfl) (.cons (.d rfl) (.cons (.d rfl) (.cons (.d rfl) (.cons (.d rfl) (.cons (.d rfl) (.cons (.d rfl) (.cons (.d rfl) (.cons (.d rfl) (.cons (.d rfl) (.cons (.d rfl) (.cons (.d rfl) (.cons (.d rfl) (.cons (.d rfl) (.cons (.d rfl) (.cons (.d rfl) (.cons (.d rfl) (.cons (.d rfl) (.cons (.d rfl) (.cons (.d rfl) (.cons (.d rfl) (.cons (.d rfl) (.cons (.d rfl) (.cons (.d rfl) (.cons (.d rfl) (.cons (.d rfl) (.cons (.d rfl) (.cons (.d rfl) (.cons (.d rfl) (.cons (.d rfl) (.cons (.d rfl) (.cons (.d rfl) (.cons (.d rfl) (.cons (.d rfl) (.cons (.d rfl) (.cons (.d rfl) (.cons (.d rfl) (.cons (.d rfl) (.cons (.d rfl) (.cons (.d rfl) (.cons (.d rfl) .nil)))))))))))))))))))))))))))))))))))))))))) .nil)))⟩ ?_
 rintro n1 ⟨s2, s3⟩ hI1
 obtain ⟨y_1, hm, hI1⟩ := iterS hI1
 replace hm : m_match_model_L1 n _ s2 s3 = some y_1 := hm
 unfold m_match_model_L1 at hm
 try dsimp only at hm
 refine zr (zs (op_lss (.r rfl) (.r rfl)) (zn (AW.seq ?_)))
 refine AW.cond (b := _) rfl (fun hc1 => ?_) (fun hc1 => ?_)
 ·replace hm := iteT hc1 hm
  refine AW.skip (nq (AW.seq (AW.block (zr (zm rfl ?_)))))
  obtain ⟨v4, hv4, hm⟩ := bindE hm
  refine zs (op_indexAgg (f := A6.e) (l := a1.l) (s := 6) (.r rfl) rfl enA6 (.r rfl) hv4 rfl Tryz.underlying88 (.inr ⟨ag87, fun _ => rfl⟩) ⟨_, rfl, rfl⟩) (zs (op_alloc (n := 3) zr87 rfl) (za rfl (zs (op_store .r .r rfl rfl rfl ⟨_, rfl, rfl⟩ rfl (Nat.le_of_ble_eq_true rfl)) (zn (zr (zm rfl (zn (AW.block ?_))))))))
  obtain ⟨t_2, hI2, hk2⟩ := bindE hm
  refine AW.loopS (σ := (Int × A72)) (τ := A72) 0 (fun x => [(2, .ptr 1 0), (3, .ptr 2 0), (4, .d (.int .i64 s2)), (5, .ptr 3 0), (7, .d (A73.e a1)), (8, .d (.int .i64 s2)), (12, .d (.int .i64 x.1))]) (fun x => [.row ((A73.e a1).cells.map .d), .row [.d (.int .i64 (0 : Int)), .d (.int .i64 (0 : Int)), .d (.int .i64 (0 : Int)), .d (.int .i64 (0 : Int)), .d (.int .i64 (0 : Int)), .d (.int .i64 (0 : Int)), .d (.int .i64 (0 : Int)), .d (.int .i64 (0 : Int)), .d (.int .i64 (0 : Int)), .d (.int .i64 (0 : Int)), .d (.int .i64 (0 : Int)), .d (.int .i64 (0 : Int)), .d (.int .i64 (0 : Int)), .d (.int .i64 (0 : Int)), .d (.int .i64 (0 : Int)), .d (.int .i64 (0 : Int)), .d (.int .i64 (0 : Int)), .d (.int .i64 (0 : Int)), .d (.int .i64 (0 : Int)), .d (.int .i64 (0 : Int)), .d (.int .i64 (0 : Int)), .d (.int .i64 (0 : Int)), .d (.int .i64 (0 : Int)), .d (.int .i64 (0 : Int)), .d (.int .i64 (0 : Int)), .d (.int .i64 (0 : Int)), .d (.int .i64 (0 : Int)), .d (.int .i64 (0 : Int)), .d (.int .i64 (0 : Int)), .d (.int .i64 (0 : Int)), .d (.int .i64 (0 : Int)), .d (.int .i64 (0 : Int)), .d (.int .i64 (0 : Int)), .d (.int .i64 (0 : Int)), .d (.int .i64 (0 : Int)), .d (.int .i64 (0 : Int)), .d (.int .i64 (0 : Int)), .d (.int .i64 (0 : Int)), .d (.int .i64 (0 : Int)), .d (.int .i64 (0 : Int)), .d (.int .i64 (0 : Int)), .d (.int .i64 (0 : Int))], .row ((A72.e x.2).cells.map .d), .row [.d (.int .i64 v4.e0), .d (.int .i64 v4.e1), .d (.int .i64 v4.e2), .d (.int .i64 v4.e3), .d (.int .i64 v4.e4), .d (.int .i64 v4.e5)]]) hI2 (WOK.g0 hw0 (by simp)) ⟨[0, 1, 2, 3], rfl, rfl, rfl, ⟨(.ptr rfl), (.ptr rfl), (.d rfl), (.ptr rfl), (.d rfl), (.d rfl), (.d rfl), trivial⟩, trivial, (.row rfl (cd (A73.e a1).cells) (.row rfl (.cons (.d rfl) (.cons (.d rfl) (.cons (.d rfl) (.cons (.d rfl) (.cons (.d rfl) (.cons (.d rfl) (.cons (.d rfl) (.cons (.d rfl) (.cons (.d rfl) (.cons (.d rfl) (.cons (.d rfl) (.cons (.d rfl) (.cons (.d rfl) (.cons (.d rfl) (.cons (.d rfl) (.cons (.d rfl) (.cons (.d rfl) (.cons (.d rfl) (.cons (.d rfl) (.cons (.d rfl) (.cons (.d rfl) (.cons (.d rfl) (.cons (.d rfl) (.cons (.d rfl) (.cons (.d rfl) (.cons (.d rfl) (.cons (.d rfl) (.cons (.d rfl) (.cons (.d rfl) (.cons (.d rfl) (.cons (.d rfl) (.cons (.d rfl) (.cons (.d rfl) (.cons (.d rfl) (.cons (.d rfl) (.cons (.d rfl) (.cons (.d rfl) (.cons (.d rfl) (.cons (.d rfl) (.cons (.d rfl) (.cons (.d rfl) (.cons (.d rfl) .nil)))))))))))))))))))))))))))))))))))))))))) (.row rfl (.cons (.d rfl) (.cons (.d rfl) (.cons (.d rfl) (.cons (.d rfl) (.cons (.d rfl) (.cons (.d rfl) (.cons (.d rfl) (.cons (.d rfl) (.cons (.d rfl) (.cons (.d rfl) (.cons (.d rfl) (.cons (.d rfl) (.cons (.d rfl) (.cons (.d rfl) (.cons (.d rfl) (.cons (.d rfl) (.cons (.d rfl) (.cons (.d rfl) (.cons (.d rfl) (.cons (.d rfl) (.cons (.d rfl) (.cons (.d rfl) (.cons (.d rfl) (.cons (.d rfl) (.cons (.d rfl) (.cons (.d rfl) (.cons (.d rfl) (.cons (.d rfl) (.cons (.d rfl) (.cons (.d rfl) (.cons (.d rfl) (.cons (.d rfl) (.cons (.d rfl) (.cons (.d rfl) (.cons (.d rfl) (.cons (.d rfl) (.cons (.d rfl) (.cons (.d rfl) (.cons (.d rfl) (.cons (.d rfl) (.cons (.d rfl) (.cons (.d rfl) .nil)))))))))))))))))))))))))))))))))))))))))) (.row rfl (.cons (.d rfl) (.cons (.d rfl) (.cons (.d rfl) (.cons (.d rfl) (.cons (.d rfl) (.cons (.d rfl) .nil)))))) .nil))))⟩ ?_
  rintro n2 ⟨s5, s6⟩ hI2
  obtain ⟨y_2, hm, hI2⟩ := iterS hI2
  replace hm : m_match_model_L2 n _ _ s5 s6 = some y_2 := hm
  unfold m_match_model_L2 at hm
  try dsimp only at hm
  refine zr (zs (op_lss (.r rfl) (.r rfl)) (zn (AW.seq ?_)))
  refine AW.cond (b := _) rfl (fun hc2 => ?_) (fun hc2 => ?_)
  ·replace hm := iteT hc2 hm
   refine AW.skip (nq (AW.seq (AW.block (zr (zm rfl (za rfl (zn (AW.drawn [([], []), ([], []), ([], []), ([], []), ([], []), ([3], []), ([], []), ([], []), ([], []), ([], []), ([3], []), ([], []), ([], []), ([], []), ([2], [2])] mo (by decide +kernel) (AD.s (ws := []) rfl rfl (fun H' _ hH => op_moveD .r) (AD.s (ws := []) rfl rfl (fun H' _ hH => op_moveD .r) (AD.s (ws := []) rfl rfl (fun H' _ hH => op_moveD .r) (AD.s (ws := []) rfl rfl (fun H' _ hH => op_mulw (.r rfl) (.r rfl)) ?_))))))))))))
   obtain ⟨v7, hv7, hm⟩ := bindE hm
   refine AD.s (ws := []) rfl rfl (fun H' _ hH => op_indexA (l := v4.l) (s := 1) .r (.r rfl) hv7 rfl Tryz.underlying87 ⟨_, rfl, rfl⟩) (AD.s (ws := []) rfl rfl (fun H' _ hH => op_loadAt1 (X := (A6.e v4).cells) .r ((hH _ (by simp)).trans rfl) (AtD.ix (f := D.i) (l := v4.l) En.i (AtD.root : AtD (A6.e v4).cells 0 _ _) hv7) sc3) (AD.s (ws := []) rfl rfl (fun H' _ hH => op_moveD .r) (AD.s (ws := []) rfl rfl (fun H' _ hH => op_mulw (.r rfl) (.r rfl)) (AD.s (ws := []) rfl rfl (fun H' _ hH => op_addw (.r rfl) (.r rfl)) ?_))))
   obtain ⟨v8, hv8, hm⟩ := bindE hm
   refine AD.s (ws := []) rfl rfl (fun H' _ hH => op_indexA (l := v4.l) (s := 1) .r (.r rfl) hv8 rfl Tryz.underlying87 ⟨_, rfl, rfl⟩) (AD.s (ws := []) rfl rfl (fun H' _ hH => op_loadAt1 (X := (A6.e v4).cells) .r ((hH _ (by simp)).trans rfl) (AtD.ix (f := D.i) (l := v4.l) En.i (AtD.root : AtD (A6.e v4).cells 0 _ _) hv8) sc3) (AD.s (ws := []) rfl rfl (fun H' _ hH => op_build bd49 (.cons .r rfl rfl rfl rfl (Nat.le_of_ble_eq_true rfl) (.cons .r rfl rfl rfl rfl (Nat.le_of_ble_eq_true rfl) .nil))) ?_))
   obtain ⟨v9, hv9, hm⟩ := bindE hm
   refine AD.s (ws := []) rfl rfl (fun H' _ hH => op_indexA (l := s6.l) (s := 6) .r (.r rfl) hv9 rfl Tryz.underlying52 ⟨_, rfl, rfl⟩) ?_
   obtain ⟨v10, hv10, hm⟩ := bindE hm
   refine AD.s (ws := []) rfl rfl (fun H' _ hH => op_indexA (l := v9.l) (s := 2) .r (.r rfl) hv10 rfl Tryz.underlying50 ⟨_, rfl, rfl⟩) ?_
   obtain ⟨v11, hv11, hm⟩ := bindE hm
   obtain ⟨v12, hv12, hm⟩ := bindE hm
   refine AD.s (ws := [(2, _)]) rfl rfl (fun H' _ hH => op_storeAt (X := (A72.e s6).cells) (X' := (A72.e v12).cells) .r .r ((hH _ (by simp)).trans rfl) (AtD.ix (f := SRatio.e) (l := v9.l) enSRatio (AtD.ix (f := A3.e) (l := s6.l) enA3 (AtD.root : AtD (A72.e s6).cells 0 _ _) hv9) hv10) (PutD.ix (f := SRatio.e) (l := v9.l) (l' := v11.l) enSRatio (AtD.ix (f := A3.e) (l := s6.l) enA3 (AtD.root : AtD (A72.e s6).cells 0 _ _) hv9) (PutD.ix (f := A3.e) (l := s6.l) (l' := v12.l) enA3 (AtD.root : AtD (A72.e s6).cells 0 _ _) (PutD.root rfl : PutD (A72.e s6).cells 0 _ _ (A72.e v12).cells) (A72.put_l hv12)) (A3.put_l hv11)) rfl rfl ⟨_, rfl, rfl⟩) (AD.nil (bq_n (nq (AW.region (zs (op_addw (.r rfl) (.r rfl)) (zm rfl (zn ?_)))))))
   obtain rfl := Option.some.inj hm
   exact nq ⟨_, hI2, ⟨[0, 1, 2, 3], rfl, rfl, rfl, ⟨(.ptr rfl), (.ptr rfl), (.d rfl), (.ptr rfl), (.d rfl), (.d rfl), (.d rfl), trivial⟩, trivial, (.row rfl (cd (A73.e a1).cells) (.row rfl (.cons (.d rfl) (.cons (.d rfl) (.cons (.d rfl) (.cons (.d rfl) (.cons (.d rfl) (.cons (.d rfl) (.cons (.d rfl) (.cons (.d rfl) (.cons (.d rfl) (.cons (.d rfl) (.cons (.d rfl) (.cons (.d rfl) (.cons (.d rfl) (.cons (.d rfl) (.cons (.d rfl) (.cons (.d rfl) (.cons (.d rfl) (.cons (.d rfl) (.cons (.d rfl) (.cons (.d rfl) (.cons (.d rfl) (.cons (.d rfl) (.cons (.d rfl) (.cons (.d rfl) (.cons (.d rfl) (.cons (.d rfl) (.cons (.d rfl) (.cons (.d rfl) (.cons (.d rfl) (.cons (.d rfl) (.cons (.d rfl) (.cons (.d rfl) (.cons (.d rfl) (.cons (.d rfl) (.cons (.d rfl) (.cons (.d rfl) (.cons (.d rfl) (.cons (.d rfl) (.cons (.d rfl) (.cons (.d rfl) (.cons (.d rfl) (.cons (.d rfl) .nil)))))))))))))))))))))))))))))))))))))))))) (.row rfl (.cons (.d rfl) (.cons (.d rfl) (.cons (.d rfl) (.cons (.d rfl) (.cons (.d rfl) (.cons (.d rfl) (.cons (.d rfl) (.cons (.d rfl) (.cons (.d rfl) (.cons (.d rfl) (.cons (.d rfl) (.cons (.d rfl) (.cons (.d rfl) (.cons (.d rfl) (.cons (.d rfl) (.cons (.d rfl) (.cons (.d rfl) (.cons (.d rfl) (.cons (.d rfl) (.cons (.d rfl) (.cons (.d rfl) (.cons (.d rfl) (.cons (.d rfl) (.cons (.d rfl) (.cons (.d rfl) (.cons (.d rfl) (.cons (.d rfl) (.cons (.d rfl) (.cons (.d rfl) (.cons (.d rfl) (.cons (.d rfl) (.cons (.d rfl) (.cons (.d rfl) (.cons (.d rfl) (.cons (.d rfl) (.cons (.d rfl) (.cons (.d rfl) (.cons (.d rfl) (.cons (.d rfl) (.cons (.d rfl) (.cons (.d rfl) (.cons (.d rfl) .nil)))))))))))))))))))))))))))))))))))))))))) (.row rfl (.cons (.d rfl) (.cons (.d rfl) (.cons (.d rfl) (.cons (.d rfl) (.cons (.d rfl) (.cons (.d rfl) .nil)))))) .nil))))⟩⟩
  ·replace hm := iteF hc2 hm
   refine AW.exit (tq_exit (tq_exit ?_))
   obtain rfl := Option.some.inj hm
   obtain rfl := Option.some.inj hI2
   replace hm := hk2
   try dsimp only at hm
   refine bq_hit (bq_n (nq (AW.region (zs (op_addw (.r rfl) (.r rfl)) (zm rfl (zn ?_))))))
   obtain rfl := Option.some.inj hm
   exact nq ⟨_, hI1, ⟨[0, 1, 2], rfl, rfl, rfl, ⟨(.ptr rfl), (.ptr rfl), (.d rfl), (.d rfl), trivial⟩, trivial, (.row rfl (cd (A73.e a1).cells) (.row rfl (.cons (.d rfl) (.cons (.d rfl) (.cons (.d rfl) (.cons (.d rfl) (.cons (.d rfl) (.cons (.d rfl) (.cons (.d rfl) (.cons (.d rfl) (.cons (.d rfl) (.cons (.d rfl) (.cons (.d rfl) (.cons (.d rfl) (.cons (.d rfl) (.cons (.d rfl) (.cons (.d rfl) (.cons (.d rfl) (.cons (.d rfl) (.cons (.d rfl) (.cons (.d rfl) (.cons (.d rfl) (.cons (.d rfl) (.cons (.d rfl) (.cons (.d rfl) (.cons (.d rfl) (.cons (.d rfl) (.cons (.d rfl) (.cons (.d rfl) (.cons (.d rfl) (.cons (.d rfl) (.cons (.d rfl) (.cons (.d rfl) (.cons (.d rfl) (.cons (.d rfl) (.cons (.d rfl) (.cons (.d rfl) (.cons (.d rfl) (.cons (.d rfl) (.cons (.d rfl) (.cons (.d rfl) (.cons (.d rfl) (.cons (.d rfl) (.cons (.d rfl) .nil)))))))))))))))))))))))))))))))))))))))))) (.row rfl (.cons (.d rfl) (.cons (.d rfl) (.cons (.d rfl) (.cons (.d rfl) (.cons (.d rfl) (.cons (.d rfl) (.cons (.d rfl) (.cons (.d rfl) (.cons (.d rfl) (.cons (.d rfl) (.cons (.d rfl) (.cons (.d rfl) (.cons (.d rfl) (.cons (.d rfl) (.cons (.d rfl) (.cons (.d rfl) (.cons (.d rfl) (.cons (.d rfl) (.cons (.d rfl) (.cons (.d rfl) (.cons (.d rfl) (.cons (.d rfl) (.cons (.d rfl) (.cons (.d rfl) (.cons (.d rfl) (.cons (.d rfl) (.cons (.d rfl) (.cons (.d rfl) (.cons (.d rfl) (.cons (.d rfl) (.cons (.d rfl) (.cons (.d rfl) (.cons (.d rfl) (.cons (.d rfl) (.cons (.d rfl) (.cons (.d rfl) (.cons (.d rfl) (.cons (.d rfl) (.cons (.d rfl) (.cons (.d rfl) (.cons (.d rfl) (.cons (.d rfl) .nil)))))))))))))))))))))))))))))))))))))))))) .nil)))⟩⟩
 ·replace hm := iteF hc1 hm
  refine AW.exit (tq_exit (tq_exit ?_))
  obtain rfl := Option.some.inj hm
  obtain rfl := Option.some.inj hI1
  replace hm := hk1
  try dsimp only at hm
  refine bq_hit (nq (zr (zs (op_load_ptrA .r rfl rfl rfl ag52) (zs (op_storeA .r .r rfl rfl ⟨_, rfl, rfl⟩ rfl (Nat.le_of_ble_eq_true rfl)) (zn (AW.ret ?_))))))
  obtain rfl := Option.some.inj hm
  exact EndQ.d (.cellA .r rfl rfl rfl ag52 .nil) rfl rfl

theorem m_match_Works_ok {n : Nat} {r : A72} (hm : m_match_Works n  = some r) : Fn Tryz.prog 15 [] (A72.e r) := by
 unfold m_match_Works at hm
 refine Fn.of_AW (fnn := Tryz.f15) Tryz.func15 rfl (Nat.le_of_ble_eq_true rfl) (fun g0 w0 hw0 => ?_)
 refine zr (zs (op_alloc (n := 0) zr52 rfl) (zn (zr (zs (op_buildArrF ba87 (.cons .r rfl rfl rfl rfl (Nat.le_of_ble_eq_true rfl) (.cons .r rfl rfl rfl rfl (Nat.le_of_ble_eq_true rfl) (.cons .r rfl rfl rfl rfl (Nat.le_of_ble_eq_true rfl) (.cons .r rfl rfl rfl rfl (Nat.le_of_ble_eq_true rfl) (.cons .r rfl rfl rfl rfl (Nat.le_of_ble_eq_true rfl) (.cons .r rfl rfl rfl rfl (Nat.le_of_ble_eq_true rfl) .nil)))))) rfl rfl) (zs (op_buildArrF ba87 (.cons .r rfl rfl rfl rfl (Nat.le_of_ble_eq_true rfl) (.cons .r rfl rfl rfl rfl (Nat.le_of_ble_eq_true rfl) (.cons .r rfl rfl rfl rfl (Nat.le_of_ble_eq_true rfl) (.cons .r rfl rfl rfl rfl (Nat.le_of_ble_eq_true rfl) (.cons .r rfl rfl rfl rfl (Nat.le_of_ble_eq_true rfl) (.cons .r rfl rfl rfl rfl (Nat.le_of_ble_eq_true rfl) .nil)))))) rfl rfl) (zs (op_buildArrF ba87 (.cons .r rfl rfl rfl rfl (Nat.le_of_ble_eq_true rfl) (.cons .r rfl rfl rfl rfl (Nat.le_of_ble_eq_true rfl) (.cons .r rfl rfl rfl rfl (Nat.le_of_ble_eq_true rfl) (.cons .r rfl rfl rfl rfl (Nat.le_of_ble_eq_true rfl) (.cons .r rfl rfl rfl rfl (Nat.le_of_ble_eq_true rfl) (.cons .r rfl rfl rfl rfl (Nat.le_of_ble_eq_true rfl) .nil)))))) rfl rfl) (zs (op_buildArrF ba87 (.cons .r rfl rfl rfl rfl (Nat.le_of_ble_eq_true rfl) (.cons .r rfl rfl rfl rfl (Nat.le_of_ble_eq_true rfl) (.cons .r rfl rfl rfl rfl (Nat.le_of_ble_eq_true rfl) (.cons .r rfl rfl rfl rfl (Nat.le_of_ble_eq_true rfl) (.cons .r rfl rfl rfl rfl (Nat.le_of_ble_eq_true rfl) (.cons .r rfl rfl rfl rfl (Nat.le_of_ble_eq_true rfl) .nil)))))) rfl rfl) (zs (op_buildArrF ba87 (.cons .r rfl rfl rfl rfl (Nat.le_of_ble_eq_true rfl) (.cons .r rfl rfl rfl rfl (Nat.le_of_ble_eq_true rfl) (.cons .r rfl rfl rfl rfl (Nat.le_of_ble_eq_true rfl) (.cons .r rfl rfl rfl rfl (Nat.le_of_ble_eq_true rfl) (.cons .r rfl rfl rfl rfl (Nat.le_of_ble_eq_true rfl) (.cons .r rfl rfl rfl rfl (Nat.le_of_ble_eq_true rfl) .nil)))))) rfl rfl) (zs (op_buildArrF ba87 (.cons .r rfl rfl rfl rfl (Nat.le_of_ble_eq_true rfl) (.cons .r rfl rfl rfl rfl (Nat.le_of_ble_eq_true rfl) (.cons .r rfl rfl rfl rfl (Nat.le_of_ble_eq_true rfl) (.cons .r rfl rfl rfl rfl (Nat.le_of_ble_eq_true rfl) (.cons .r rfl rfl rfl rfl (Nat.le_of_ble_eq_true rfl) (.cons .r rfl rfl rfl rfl (Nat.le_of_ble_eq_true rfl) .nil)))))) rfl rfl) (zs (op_buildArrF ba87 (.cons .r rfl rfl rfl rfl (Nat.le_of_ble_eq_true rfl) (.cons .r rfl rfl rfl rfl (Nat.le_of_ble_eq_true rfl) (.cons .r rfl rfl rfl rfl (Nat.le_of_ble_eq_true rfl) (.cons .r rfl rfl rfl rfl (Nat.le_of_ble_eq_true rfl) (.cons .r rfl rfl rfl rfl (Nat.le_of_ble_eq_true rfl) (.cons .r rfl rfl rfl rfl (Nat.le_of_ble_eq_true rfl) .nil)))))) rfl rfl) (zs (op_buildArrF ba88 (.cons .r rfl rfl rfl rfl (Nat.le_of_ble_eq_true rfl) (.cons .r rfl rfl rfl rfl (Nat.le_of_ble_eq_true rfl) (.cons .r rfl rfl rfl rfl (Nat.le_of_ble_eq_true rfl) (.cons .r rfl rfl rfl rfl (Nat.le_of_ble_eq_true rfl) (.cons .r rfl rfl rfl rfl (Nat.le_of_ble_eq_true rfl) (.cons .r rfl rfl rfl rfl (Nat.le_of_ble_eq_true rfl) (.cons .r rfl rfl rfl rfl (Nat.le_of_ble_eq_true rfl) .nil))))))) rfl rfl) ?_)))))))))))
 obtain ⟨v1, hv1, hm⟩ := bindE hm
 refine zs (op_fn Tryz.call36 .r (.cons (.r rfl) .nil) (m_match_model_ok hv1)) (zs (op_store .r .r rfl rfl rfl ⟨_, rfl, rfl⟩ rfl (Nat.le_of_ble_eq_true rfl)) (zn (AW.ret ?_)))
 obtain rfl := Option.some.inj hm
 exact EndQ.d (.cellA .r rfl rfl rfl ag52 .nil) rfl rfl

theorem m_slices_IndexFunc_3_odds_Ratio_3_odds_Ratio_ok {n : Nat} {H : List HE} {a1 : (List A3)} {p2 : A3 → Option Bool} {r : Int} {ff_p2 : FuncId} {caps_p2 : List V} (hff_p2 : ∀ (a : Array Value) (w : World), (callFunc ff_p2 a).run Tryz.prog w = .ok (.enter ff_p2 a) w) (hF_p2 : ∀ (y1 : A3) (b : Bool), p2 y1 = some b → ACall Tryz.prog ff_p2 (.d (A3.e y1) :: caps_p2) H fun r' H' => r' = .d (.bool b) ∧ H' = H) (hm : m_slices_IndexFunc_3_odds_Ratio_3_odds_Ratio n a1 p2 = some r) : ACall Tryz.prog 74 [.d (.sl (a1.map A3.e)), .fn (.func ff_p2) caps_p2] H fun r' H' => r' = .d (.int .i64 r) ∧ H' = H := by
 unfold m_slices_IndexFunc_3_odds_Ratio_3_odds_Ratio at hm
 refine ACall.of_AW (fnn := Tryz.f74) Tryz.func74 rfl (Nat.le_of_ble_eq_true rfl) (fun g0 w0 hw0 => ?_)
 refine zr (za rfl (zn (AW.seq (zr (zm rfl (zs (op_lenM (f := A3.e) (.r rfl) sl90) (zm rfl (zn (AW.block ?_)))))))))
 obtain ⟨t_1, hI1, hk1⟩ := bindE hm
 refine AW.loopN (σ := Int) (τ := (Int ⊕ Unit)) [0, 1, 7] (fun x => [(8, .d (.int .i64 x))]) hI1 ⟨by first | exact .of rfl | exact .d rfl, trivial⟩ ?_
 rintro n1 s3 hI1
 obtain ⟨y_1, hm, hI1⟩ := iterS hI1
 replace hm : m_slices_IndexFunc_3_odds_Ratio_3_odds_Ratio_L1 n _ _ s3 = some y_1 := hm
 unfold m_slices_IndexFunc_3_odds_Ratio_3_odds_Ratio_L1 at hm
 try dsimp only at hm
 refine zr (zs (op_lss (.r rfl) (.r rfl)) (zn (AW.seq ?_)))
 refine AW.cond (b := _) rfl (fun hc1 => ?_) (fun hc1 => ?_)
 ·replace hm := iteT hc1 hm
  refine AW.skip (nq (AW.seq (AW.block (zr (zm rfl (za rfl (zn (zr (zs (op_moveF .r) (zm rfl (zm rfl ?_)))))))))))
  obtain ⟨v4, hv4, hm⟩ := bindE hm
  refine zs (op_indexAddrM (f := A3.e) (.r rfl) (.r rfl) hv4 enA3 sl90) (zs (op_loadA .r rfl ag50) ?_)
  obtain ⟨v5, hv5, hm⟩ := bindE hm
  refine zs (op_call hff_p2 .r (.cons .r .nil) (hF_p2 _ _ hv5)) (zn ?_)
  refine AW.cond (b := _) rfl (fun hc2 => ?_) (fun hc2 => ?_)
  ·replace hm := iteT hc2 hm
   refine zr (zm rfl (za rfl (zn (AW.ret (bq_ret (tq_ret (tq_ret ?_)))))))
   obtain rfl := Option.some.inj hm
   obtain rfl := Option.some.inj hI1
   replace hm := hk1
   try dsimp only at hm
   refine bq_ret (tq_ret ?_)
   obtain rfl := Option.some.inj hm
   exact ⟨_, _, (.tmp .r .nil), .d rfl, rfl, rfl⟩
  ·replace hm := iteF hc2 hm
   refine AW.skip (bq_n (nq (AW.region (zs (op_addw (.r rfl) (.r rfl)) (zm rfl (zn ?_))))))
   obtain rfl := Option.some.inj hm
   exact nq ⟨_, hI1, ⟨by first | exact .of rfl | exact .d rfl, trivial⟩, ⟨rfl, rfl, rfl, trivial⟩, rfl⟩
 ·replace hm := iteF hc1 hm
  refine AW.exit (tq_exit (tq_exit ?_))
  obtain rfl := Option.some.inj hm
  obtain rfl := Option.some.inj hI1
  replace hm := hk1
  try dsimp only at hm
  refine bq_hit (nq (zr (za rfl (zn (AW.ret ?_)))))
  obtain rfl := Option.some.inj hm
  exact ⟨_, _, (.tmp .r .nil), .d rfl, rfl, rfl⟩

theorem m_slices_ContainsFunc_3_odds_Ratio_3_odds_Ratio_ok {n : Nat} {H : List HE} {a1 : (List A3)} {p2 : A3 → Option Bool} {r : Bool} {ff_p2 : FuncId} {caps_p2 : List V} (hff_p2 : ∀ (a : Array Value) (w : World), (callFunc ff_p2 a).run Tryz.prog w = .ok (.enter ff_p2 a) w) (hF_p2 : ∀ (y1 : A3) (b : Bool), p2 y1 = some b → ACall Tryz.prog ff_p2 (.d (A3.e y1) :: caps_p2) H fun r' H' => r' = .d (.bool b) ∧ H' = H) (hm : m_slices_ContainsFunc_3_odds_Ratio_3_odds_Ratio n a1 p2 = some r) : ACall Tryz.prog 37 [.d (.sl (a1.map A3.e)), .fn (.func ff_p2) caps_p2] H fun r' H' => r' = .d (.bool r) ∧ H' = H := by
 unfold m_slices_ContainsFunc_3_odds_Ratio_3_odds_Ratio at hm
 refine ACall.of_AW (fnn := Tryz.f37) Tryz.func37 rfl (Nat.le_of_ble_eq_true rfl) (fun g0 w0 hw0 => ?_)
 refine zr (za rfl (zn (zr (zm rfl (zs (op_moveF .r) ?_)))))
 obtain ⟨v3, hv3, hm⟩ := bindE hm
 refine zs (op_call Tryz.call74 .r (.cons .r (.cons .r .nil)) (m_slices_IndexFunc_3_odds_Ratio_3_odds_Ratio_ok hff_p2 hF_p2 hv3)) (zs (op_geq (.r rfl) (.r rfl)) (za rfl (zn (AW.ret ?_))))
 obtain rfl := Option.some.inj hm
 exact ⟨_, _, (.tmp .r .nil), .d rfl, rfl, rfl⟩

theorem m_slices_IndexFunc_odds_Ratio_odds_Ratio_ok {n : Nat} {H : List HE} {a1 : (List SRatio)} {p2 : SRatio → Option Bool} {r : Int} {ff_p2 : FuncId} {caps_p2 : List V} (hff_p2 : ∀ (a : Array Value) (w : World), (callFunc ff_p2 a).run Tryz.prog w = .ok (.enter ff_p2 a) w) (hF_p2 : ∀ (y1 : SRatio) (b : Bool), p2 y1 = some b → ACall Tryz.prog ff_p2 (.d (SRatio.e y1) :: caps_p2) H fun r' H' => r' = .d (.bool b) ∧ H' = H) (hm : m_slices_IndexFunc_odds_Ratio_odds_Ratio n a1 p2 = some r) : ACall Tryz.prog 103 [.d (.sl (a1.map SRatio.e)), .fn (.func ff_p2) caps_p2] H fun r' H' => r' = .d (.int .i64 r) ∧ H' = H := by
 unfold m_slices_IndexFunc_odds_Ratio_odds_Ratio at hm
 refine ACall.of_AW (fnn := Tryz.f103) Tryz.func103 rfl (Nat.le_of_ble_eq_true rfl) (fun g0 w0 hw0 => ?_)
 refine zr (za rfl (zn (AW.seq (zr (zm rfl (zs (op_lenM (f := SRatio.e) (.r rfl) sl82) (zm rfl (zn (AW.block ?_)))))))))
 obtain ⟨t_1, hI1, hk1⟩ := bindE hm
 refine AW.loopN (σ := Int) (τ := (Int ⊕ Unit)) [0, 1, 7] (fun x => [(8, .d (.int .i64 x))]) hI1 ⟨by first | exact .of rfl | exact .d rfl, trivial⟩ ?_
 rintro n1 s3 hI1
 obtain ⟨y_1, hm, hI1⟩ := iterS hI1
 replace hm : m_slices_IndexFunc_odds_Ratio_odds_Ratio_L1 n _ _ s3 = some y_1 := hm
 unfold m_slices_IndexFunc_odds_Ratio_odds_Ratio_L1 at hm
 try dsimp only at hm
 refine zr (zs (op_lss (.r rfl) (.r rfl)) (zn (AW.seq ?_)))
 refine AW.cond (b := _) rfl (fun hc1 => ?_) (fun hc1 => ?_)
 ·replace hm := iteT hc1 hm
  refine AW.skip (nq (AW.seq (AW.block (zr (zm rfl (za rfl (zn (zr (zs (op_moveF .r) (zm rfl (zm rfl ?_)))))))))))
  obtain ⟨v4, hv4, hm⟩ := bindE hm
  refine zs (op_indexAddrM (f := SRatio.e) (.r rfl) (.r rfl) hv4 enSRatio sl82) (zs (op_loadA .r rfl ag49) ?_)
  obtain ⟨v5, hv5, hm⟩ := bindE hm
  refine zs (op_call hff_p2 .r (.cons .r .nil) (hF_p2 _ _ hv5)) (zn ?_)
  refine AW.cond (b := _) rfl (fun hc2 => ?_) (fun hc2 => ?_)
  ·replace hm := iteT hc2 hm
   refine zr (zm rfl (za rfl (zn (AW.ret (bq_ret (tq_ret (tq_ret ?_)))))))
   obtain rfl := Option.some.inj hm
   obtain rfl := Option.some.inj hI1
   replace hm := hk1
   try dsimp only at hm
   refine bq_ret (tq_ret ?_)
   obtain rfl := Option.some.inj hm
   exact ⟨_, _, (.tmp .r .nil), .d rfl, rfl, rfl⟩
  ·replace hm := iteF hc2 hm
   refine AW.skip (bq_n (nq (AW.region (zs (op_addw (.r rfl) (.r rfl)) (zm rfl (zn ?_))))))
   obtain rfl := Option.some.inj hm
   exact nq ⟨_, hI1, ⟨by first | exact .of rfl | exact .d rfl, trivial⟩, ⟨rfl, rfl, rfl, trivial⟩, rfl⟩
 ·replace hm := iteF hc1 hm
  refine AW.exit (tq_exit (tq_exit ?_))
  obtain rfl := Option.some.inj hm
  obtain rfl := Option.some.inj hI1
  replace hm := hk1
  try dsimp only at hm
  refine bq_hit (nq (zr (za rfl (zn (AW.ret ?_)))))
  obtain rfl := Option.some.inj hm
  exact ⟨_, _, (.tmp .r .nil), .d rfl, rfl, rfl⟩

theorem m_slices_ContainsFunc_odds_Ratio_odds_Ratio_ok {n : Nat} {H : List HE} {a1 : (List SRatio)} {p2 : SRatio → Option Bool} {r : Bool} {ff_p2 : FuncId} {caps_p2 : List V} (hff_p2 : ∀ (a : Array Value) (w : World), (callFunc ff_p2 a).run Tryz.prog w = .ok (.enter ff_p2 a) w) (hF_p2 : ∀ (y1 : SRatio) (b : Bool), p2 y1 = some b → ACall Tryz.prog ff_p2 (.d (SRatio.e y1) :: caps_p2) H fun r' H' => r' = .d (.bool b) ∧ H' = H) (hm : m_slices_ContainsFunc_odds_Ratio_odds_Ratio n a1 p2 = some r) : ACall Tryz.prog 76 [.d (.sl (a1.map SRatio.e)), .fn (.func ff_p2) caps_p2] H fun r' H' => r' = .d (.bool r) ∧ H' = H := by
 unfold m_slices_ContainsFunc_odds_Ratio_odds_Ratio at hm
 refine ACall.of_AW (fnn := Tryz.f76) Tryz.func76 rfl (Nat.le_of_ble_eq_true rfl) (fun g0 w0 hw0 => ?_)
 refine zr (za rfl (zn (zr (zm rfl (zs (op_moveF .r) ?_)))))
 obtain ⟨v3, hv3, hm⟩ := bindE hm
 refine zs (op_call Tryz.call103 .r (.cons .r (.cons .r .nil)) (m_slices_IndexFunc_odds_Ratio_odds_Ratio_ok hff_p2 hF_p2 hv3)) (zs (op_geq (.r rfl) (.r rfl)) (za rfl (zn (AW.ret ?_))))
 obtain rfl := Option.some.inj hm
 exact ⟨_, _, (.tmp .r .nil), .d rfl, rfl, rfl⟩

theorem m_odds_Valid_1_ok {n : Nat} {a1 : SRatio} {r : Bool} (hm : m_odds_Valid_1 n a1 = some r) : Fn Tryz.prog 75 [(SRatio.e a1)] (.bool r) := by
 unfold m_odds_Valid_1 at hm
 refine Fn.of_AW (fnn := Tryz.f75) Tryz.func75 rfl (Nat.le_of_ble_eq_true rfl) (fun g0 w0 hw0 => ?_)
 refine zr (zs (op_box (n := 0) .r rfl rfl rfl) (za rfl (zn (zr (zs (op_field_ptr .r fd49_0) (zs (op_load_ptr1 .r rfl rfl sc3) (zs (op_lss (.r rfl) (.r rfl)) (zm rfl (AL.sF rfl rfl rfl rfl (fun g => op_field_ptr .r fd49_0) (AL.sF rfl rfl rfl rfl (fun g => op_load_ptr1 (.we (nt g) rfl) rfl rfl sc3) (AL.sF rfl rfl rfl rfl (fun g => op_gtr (.we (nt g) rfl rfl) (.r rfl)) (zs (op_or (.r rfl) rfl (fun h => (.we (nt h) rfl rfl))) (zm rfl (AL.sF rfl rfl rfl rfl (fun g => op_field_ptr .r fd49_1) (AL.sF rfl rfl rfl rfl (fun g => op_load_ptr1 (.we (nt g) rfl) rfl rfl sc3) (AL.sF rfl rfl rfl rfl (fun g => op_lss (.we (nt g) rfl rfl) (.r rfl)) (zs (op_or (.r rfl) rfl (fun h => (.we (nt h) rfl rfl))) (zm rfl (AL.sF rfl rfl rfl rfl (fun g => op_field_ptr .r fd49_1) (AL.sF rfl rfl rfl rfl (fun g => op_load_ptr1 (.we (nt g) rfl) rfl rfl sc3) (AL.sF rfl rfl rfl rfl (fun g => op_gtr (.we (nt g) rfl rfl) (.r rfl)) (zs (op_or (.r rfl) rfl (fun h => (.we (nt h) rfl rfl))) (za rfl (zn (AW.ret ?_)))))))))))))))))))))))))
 obtain rfl := Option.some.inj hm
 exact EndQ.d (.tmp .r .nil) rfl rfl

end Go.Proofs.YtgcmhhcopeiomaaGreat.Ab
