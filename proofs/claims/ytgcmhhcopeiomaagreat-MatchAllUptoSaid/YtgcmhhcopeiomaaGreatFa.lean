/- The functions do what they are in plain Lean. Conditions: none. -/
import Derived.Test.YtgcmhhcopeiomaaGreatTy
import Derived.Test.YtgcmhhcopeiomaaGreatMi
import Derived.Test.YtgcmhhcopeiomaaGreatJn
import Derived.Test.YtgcmhhcopeiomaaGreatEs
set_option maxRecDepth 100000
set_option maxHeartbeats 20000000
namespace Go.Proofs.YtgcmhhcopeiomaaGreat.Ab
open Go
attribute [local irreducible] AL AD AW

theorem m_slices_IndexFunc_byte_byte_ok {n : Nat} {H : List HE} {a1 : (List Int)} {p2 : Int → Option Bool} {r : Int} {ff_p2 : FuncId} {caps_p2 : List V} (hff_p2 : ∀ (a : Array Value) (w : World), (callFunc ff_p2 a).run Tryz.prog w = .ok (.enter ff_p2 a) w) (hF_p2 : ∀ (y1 : Int) (b : Bool), p2 y1 = some b → ACall Tryz.prog ff_p2 (.d (.int .u8 y1) :: caps_p2) H fun r' H' => r' = .d (.bool b) ∧ H' = H) (hm : m_slices_IndexFunc_byte_byte n a1 p2 = some r) : ACall Tryz.prog 104 [.d (.sl (a1.map (D.int .u8))), .fn (.func ff_p2) caps_p2] H fun r' H' => r' = .d (.int .i64 r) ∧ H' = H := by
 unfold m_slices_IndexFunc_byte_byte at hm
 refine ACall.of_AW (fnn := Tryz.f104) Tryz.func104 rfl (Nat.le_of_ble_eq_true rfl) (fun g0 w0 hw0 => ?_)
 refine zr (za rfl (zn (AW.seq (zr (zm rfl (zs (op_lenM (f := (D.int .u8)) (.r rfl) sl101) (zm rfl (zn (AW.block ?_)))))))))
 obtain ⟨t_1, hI1, hk1⟩ := bindE hm
 refine AW.loopN (σ := Int) (τ := (Int ⊕ Unit)) [0, 1, 7] (fun x => [(8, .d (.int .i64 x))]) hI1 ⟨by first | exact .of rfl | exact .d rfl, trivial⟩ ?_
 rintro n1 s3 hI1
 obtain ⟨y_1, hm, hI1⟩ := iterS hI1
 replace hm : m_slices_IndexFunc_byte_byte_L1 n _ _ s3 = some y_1 := hm
 unfold m_slices_IndexFunc_byte_byte_L1 at hm
 try dsimp only at hm
 refine zr (zs (op_lss (.r rfl) (.r rfl)) (zn (AW.seq ?_)))
 refine AW.cond (b := _) rfl (fun hc1 => ?_) (fun hc1 => ?_)
 ·replace hm := iteT hc1 hm
  refine AW.skip (nq (AW.seq (AW.block (zr (zm rfl (za rfl (zn (zr (zs (op_moveF .r) (zm rfl (zm rfl ?_)))))))))))
  obtain ⟨v4, hv4, hm⟩ := bindE hm
  refine zs (op_indexAddrM (f := (D.int .u8)) (.r rfl) (.r rfl) hv4 En.int sl101) (zs (op_load_vp1 .r rfl sc5) ?_)
  obtain ⟨v5, hv5, hm⟩ := bindE hm
  refine zs (op_call hff_p2 .r (.cons .r .nil) (hF_p2 _ _ hv5)) (zn ?_)
  refine AW.cond (b := _) rfl (fun hc2 => ?_) (fun hc2 => ?_)
  ·replace hm := iteT hc2 hm
   refine zr (zm rfl (za rfl (zn (AW.ret (bq_ret (tq_ret (tq_ret ?_)))))))
   obtain rfl := Option.some.inj hm
   obtain rfl := Option.some.inj hI1
   replace hm := hk1
   try dsimp only at hm
   refine bq_ret (tq_ret ?_)
   obtain rfl := Option.some.inj hm
   exact ⟨_, _, (.tmp .r .nil), .d rfl, rfl, rfl⟩
  ·replace hm := iteF hc2 hm
   refine AW.skip (bq_n (nq (AW.region (zs (op_addw (.r rfl) (.r rfl)) (zm rfl (zn ?_))))))
   obtain rfl := Option.some.inj hm
   exact nq ⟨_, hI1, ⟨by first | exact .of rfl | exact .d rfl, trivial⟩, ⟨rfl, rfl, rfl, trivial⟩, rfl⟩
 ·replace hm := iteF hc1 hm
  refine AW.exit (tq_exit (tq_exit ?_))
  obtain rfl := Option.some.inj hm
  obtain rfl := Option.some.inj hI1
  replace hm := hk1
  try dsimp only at hm
  refine bq_hit (nq (zr (za rfl (zn (AW.ret ?_)))))
  obtain rfl := Option.some.inj hm
  exact ⟨_, _, (.tmp .r .nil), .d rfl, rfl, rfl⟩

theorem m_slices_ContainsFunc_byte_byte_ok {n : Nat} {H : List HE} {a1 : (List Int)} {p2 : Int → Option Bool} {r : Bool} {ff_p2 : FuncId} {caps_p2 : List V} (hff_p2 : ∀ (a : Array Value) (w : World), (callFunc ff_p2 a).run Tryz.prog w = .ok (.enter ff_p2 a) w) (hF_p2 : ∀ (y1 : Int) (b : Bool), p2 y1 = some b → ACall Tryz.prog ff_p2 (.d (.int .u8 y1) :: caps_p2) H fun r' H' => r' = .d (.bool b) ∧ H' = H) (hm : m_slices_ContainsFunc_byte_byte n a1 p2 = some r) : ACall Tryz.prog 77 [.d (.sl (a1.map (D.int .u8))), .fn (.func ff_p2) caps_p2] H fun r' H' => r' = .d (.bool r) ∧ H' = H := by
 unfold m_slices_ContainsFunc_byte_byte at hm
 refine ACall.of_AW (fnn := Tryz.f77) Tryz.func77 rfl (Nat.le_of_ble_eq_true rfl) (fun g0 w0 hw0 => ?_)
 refine zr (za rfl (zn (zr (zm rfl (zs (op_moveF .r) ?_)))))
 obtain ⟨v3, hv3, hm⟩ := bindE hm
 refine zs (op_call Tryz.call104 .r (.cons .r (.cons .r .nil)) (m_slices_IndexFunc_byte_byte_ok hff_p2 hF_p2 hv3)) (zs (op_geq (.r rfl) (.r rfl)) (za rfl (zn (AW.ret ?_))))
 obtain rfl := Option.some.inj hm
 exact ⟨_, _, (.tmp .r .nil), .d rfl, rfl, rfl⟩

theorem m_feature_only_1_ok {n : Nat} {a1 : Int} {c2 : Int} {c3 : Int} {r : Bool} (hm : m_feature_only_1 n a1 c2 c3 = some r) : FnR Tryz.prog 78 [.d (.int .u8 a1), .ptr 0 0, .ptr 1 0] [.row [.d (.int .u8 c2)], .row [.d (.int .u8 c3)]] (.bool r) := by
 unfold m_feature_only_1 at hm
 refine ACall.of_AW (fnn := Tryz.f78) Tryz.func78 rfl (Nat.le_of_ble_eq_true rfl) (fun g0 w0 hw0 => ?_)
 refine zr (za rfl (zn (zr (zm rfl (zs (op_load_ptr1 .r rfl rfl sc5) (zs (op_lss (.r rfl) (.r rfl)) (zm rfl (AL.sF rfl rfl rfl rfl (fun g => op_moveD .r) (AL.sF rfl rfl rfl rfl (fun g => op_load_ptr1 .r rfl rfl sc5) (AL.sF rfl rfl rfl rfl (fun g => op_gtr (.we (nt g) rfl rfl) (.we (nt g) rfl rfl)) (zs (op_or (.r rfl) rfl (fun h => (.we (nt h) rfl rfl))) (za rfl (zn (AW.ret ?_))))))))))))))
 obtain rfl := Option.some.inj hm
 exact ⟨_, _, (.tmp .r .nil), .d rfl, rfl, rfl⟩

theorem m_feature_only_ok {n : Nat} {a1 : (List UInt8)} {a2 : Int} {a3 : Int} {r : Bool} (hm : m_feature_only n a1 a2 a3 = some r) : Fn Tryz.prog 40 [(.str a1), (.int .u8 a2), (.int .u8 a3)] (.bool r) := by
 unfold m_feature_only at hm
 refine Fn.of_AW (fnn := Tryz.f40) Tryz.func40 rfl (Nat.le_of_ble_eq_true rfl) (fun g0 w0 hw0 => ?_)
 refine zr (zs (op_box (n := 0) .r rfl rfl rfl) (zs (op_box (n := 1) .r rfl rfl rfl) (za rfl (zn (zr (zm rfl (zs (op_bytesM (.r rfl) Tryz.underlying9 Tryz.underlying101 Tryz.underlying5) (zs (op_makeFunc (.cons .r (.cons .r .nil))) ?_))))))))
 obtain ⟨v4, hv4, hm⟩ := bindE hm
 refine zs (op_call Tryz.call77 .r (.cons .r (.cons .r .nil)) (m_slices_ContainsFunc_byte_byte_ok Tryz.call78 (fun _ _ hb => FnR.at [0, 1] (m_feature_only_1_ok hb) (.cons rfl rfl (.cons rfl rfl .nil)) (.cons (.d _) (.cons (.ptr rfl) (.cons (.ptr rfl) .nil))) rfl) hv4)) (zs (op_not (.r rfl)) (za rfl (zn (AW.ret ?_))))
 obtain rfl := Option.some.inj hm
 exact EndQ.d (.tmp .r .nil) rfl rfl

theorem m_slices_IndexFunc_string_string_ok {n : Nat} {H : List HE} {a1 : (List (List UInt8))} {p2 : (List UInt8) → Option Bool} {r : Int} {ff_p2 : FuncId} {caps_p2 : List V} (hff_p2 : ∀ (a : Array Value) (w : World), (callFunc ff_p2 a).run Tryz.prog w = .ok (.enter ff_p2 a) w) (hF_p2 : ∀ (y1 : (List UInt8)) (b : Bool), p2 y1 = some b → ACall Tryz.prog ff_p2 (.d (.str y1) :: caps_p2) H fun r' H' => r' = .d (.bool b) ∧ H' = H) (hm : m_slices_IndexFunc_string_string n a1 p2 = some r) : ACall Tryz.prog 79 [.d (.sl (a1.map D.str)), .fn (.func ff_p2) caps_p2] H fun r' H' => r' = .d (.int .i64 r) ∧ H' = H := by
 unfold m_slices_IndexFunc_string_string at hm
 refine ACall.of_AW (fnn := Tryz.f79) Tryz.func79 rfl (Nat.le_of_ble_eq_true rfl) (fun g0 w0 hw0 => ?_)
 refine zr (za rfl (zn (AW.seq (zr (zm rfl (zs (op_lenM (f := D.str) (.r rfl) sl22) (zm rfl (zn (AW.block ?_)))))))))
 obtain ⟨t_1, hI1, hk1⟩ := bindE hm
 refine AW.loopN (σ := Int) (τ := (Int ⊕ Unit)) [0, 1, 7] (fun x => [(8, .d (.int .i64 x))]) hI1 ⟨by first | exact .of rfl | exact .d rfl, trivial⟩ ?_
 rintro n1 s3 hI1
 obtain ⟨y_1, hm, hI1⟩ := iterS hI1
 replace hm : m_slices_IndexFunc_string_string_L1 n _ _ s3 = some y_1 := hm
 unfold m_slices_IndexFunc_string_string_L1 at hm
 try dsimp only at hm
 refine zr (zs (op_lss (.r rfl) (.r rfl)) (zn (AW.seq ?_)))
 refine AW.cond (b := _) rfl (fun hc1 => ?_) (fun hc1 => ?_)
 ·replace hm := iteT hc1 hm
  refine AW.skip (nq (AW.seq (AW.block (zr (zm rfl (za rfl (zn (zr (zs (op_moveF .r) (zm rfl (zm rfl ?_)))))))))))
  obtain ⟨v4, hv4, hm⟩ := bindE hm
  refine zs (op_indexAddrM (f := D.str) (.r rfl) (.r rfl) hv4 En.str sl22) (zs (op_load_vp1 .r rfl sc9) ?_)
  obtain ⟨v5, hv5, hm⟩ := bindE hm
  refine zs (op_call hff_p2 .r (.cons .r .nil) (hF_p2 _ _ hv5)) (zn ?_)
  refine AW.cond (b := _) rfl (fun hc2 => ?_) (fun hc2 => ?_)
  ·replace hm := iteT hc2 hm
   refine zr (zm rfl (za rfl (zn (AW.ret (bq_ret (tq_ret (tq_ret ?_)))))))
   obtain rfl := Option.some.inj hm
   obtain rfl := Option.some.inj hI1
   replace hm := hk1
   try dsimp only at hm
   refine bq_ret (tq_ret ?_)
   obtain rfl := Option.some.inj hm
   exact ⟨_, _, (.tmp .r .nil), .d rfl, rfl, rfl⟩
  ·replace hm := iteF hc2 hm
   refine AW.skip (bq_n (nq (AW.region (zs (op_addw (.r rfl) (.r rfl)) (zm rfl (zn ?_))))))
   obtain rfl := Option.some.inj hm
   exact nq ⟨_, hI1, ⟨by first | exact .of rfl | exact .d rfl, trivial⟩, ⟨rfl, rfl, rfl, trivial⟩, rfl⟩
 ·replace hm := iteF hc1 hm
  refine AW.exit (tq_exit (tq_exit ?_))
  obtain rfl := Option.some.inj hm
  obtain rfl := Option.some.inj hI1
  replace hm := hk1
  try dsimp only at hm
  refine bq_hit (nq (zr (za rfl (zn (AW.ret ?_)))))
  obtain rfl := Option.some.inj hm
  exact ⟨_, _, (.tmp .r .nil), .d rfl, rfl, rfl⟩

theorem m_slices_ContainsFunc_string_string_ok {n : Nat} {H : List HE} {a1 : (List (List UInt8))} {p2 : (List UInt8) → Option Bool} {r : Bool} {ff_p2 : FuncId} {caps_p2 : List V} (hff_p2 : ∀ (a : Array Value) (w : World), (callFunc ff_p2 a).run Tryz.prog w = .ok (.enter ff_p2 a) w) (hF_p2 : ∀ (y1 : (List UInt8)) (b : Bool), p2 y1 = some b → ACall Tryz.prog ff_p2 (.d (.str y1) :: caps_p2) H fun r' H' => r' = .d (.bool b) ∧ H' = H) (hm : m_slices_ContainsFunc_string_string n a1 p2 = some r) : ACall Tryz.prog 41 [.d (.sl (a1.map D.str)), .fn (.func ff_p2) caps_p2] H fun r' H' => r' = .d (.bool r) ∧ H' = H := by
 unfold m_slices_ContainsFunc_string_string at hm
 refine ACall.of_AW (fnn := Tryz.f41) Tryz.func41 rfl (Nat.le_of_ble_eq_true rfl) (fun g0 w0 hw0 => ?_)
 refine zr (za rfl (zn (zr (zm rfl (zs (op_moveF .r) ?_)))))
 obtain ⟨v3, hv3, hm⟩ := bindE hm
 refine zs (op_call Tryz.call79 .r (.cons .r (.cons .r .nil)) (m_slices_IndexFunc_string_string_ok hff_p2 hF_p2 hv3)) (zs (op_geq (.r rfl) (.r rfl)) (za rfl (zn (AW.ret ?_))))
 obtain rfl := Option.some.inj hm
 exact ⟨_, _, (.tmp .r .nil), .d rfl, rfl, rfl⟩

theorem m_feature_word_ok {n : Nat} {a1 : (List UInt8)} {r : Bool} (hm : m_feature_word n a1 = some r) : Fn Tryz.prog 43 [(.str a1)] (.bool r) := by
 unfold m_feature_word at hm
 refine Fn.of_AW (fnn := Tryz.f43) Tryz.func43 rfl (Nat.le_of_ble_eq_true rfl) (fun g0 w0 hw0 => ?_)
 refine zr (za rfl (zn (zr (zm rfl (zs (op_neqS (.r rfl) (.r rfl)) (zm rfl (AL.sT rfl rfl rfl rfl (fun g => op_moveD .r) (AL.sT rfl rfl rfl rfl (fun g => op_lenS (.we g rfl rfl) Tryz.underlying9) (AL.sT rfl rfl rfl rfl (fun g => op_leq (.we g rfl rfl) (.r rfl)) (zs (op_and (.r rfl) (fun h => (.we h rfl rfl)) rfl) (zm rfl (AL.sT rfl rfl rfl rfl (fun g => op_moveD .r) ?_))))))))))))
 obtain ⟨v2, hv2, hm⟩ := bindE hm
 refine AL.sT rfl rfl rfl rfl (fun g => op_fn Tryz.call40 .r (.cons (.we g rfl rfl) (.cons (.r rfl) (.cons (.r rfl) .nil))) (m_feature_only_ok (iteT g hv2))) (zs (op_and (.r rfl) (fun h => (.we h rfl rfl)) rfl) (za rfl (zn (AW.ret ?_))))
 obtain rfl := Option.some.inj hm
 exact EndQ.d (.tmp .r .nil) rfl rfl

theorem m_feature_Valid_1_ok {n : Nat} {a1 : (List UInt8)} {r : Bool} (hm : m_feature_Valid_1 n a1 = some r) : Fn Tryz.prog 42 [(.str a1)] (.bool r) := by
 unfold m_feature_Valid_1 at hm
 refine Fn.of_AW (fnn := Tryz.f42) Tryz.func42 rfl (Nat.le_of_ble_eq_true rfl) (fun g0 w0 hw0 => ?_)
 refine zr (za rfl (zn (zr (zm rfl ?_))))
 obtain ⟨v2, hv2, hm⟩ := bindE hm
 refine zs (op_fn Tryz.call43 .r (.cons (.r rfl) .nil) (m_feature_word_ok hv2)) (zs (op_not (.r rfl)) (za rfl (zn (AW.ret ?_))))
 obtain rfl := Option.some.inj hm
 exact EndQ.d (.tmp .r .nil) rfl rfl

theorem m_feature_years_ok {n : Nat} {a1 : (List Int)} {r : Bool} (hm : m_feature_years n a1 = some r) : Fn Tryz.prog 44 [(.sl (a1.map D.i))] (.bool r) := by
 unfold m_feature_years at hm
 refine Fn.of_AW (fnn := Tryz.f44) Tryz.func44 rfl (Nat.le_of_ble_eq_true rfl) (fun g0 w0 hw0 => ?_)
 refine AW.reset 0 [(0, .d (.sl (a1.map D.i)))] [] (WOK.g0 hw0 (by simp)) ⟨[], rfl, rfl, rfl, ⟨(.d rfl), trivial⟩, trivial, .nil⟩ (zr (za rfl (zn (AW.seq (zr (zm rfl (zs (op_lenM (f := D.i) (.r rfl) sl23) (zm rfl (zn (AW.block ?_))))))))))
 obtain ⟨t_1, hI1, hk1⟩ := bindE hm
 refine AW.loopS (σ := Int) (τ := (Bool ⊕ Unit)) 0 (fun x => [(0, .d (.sl (a1.map D.i))), (5, .d (.sl (a1.map D.i))), (6, .d (.int .i64 (a1.length : Int))), (7, .d (.int .i64 x))]) (fun x => []) hI1 (WOK.g0 hw0 (by simp)) ⟨[], rfl, rfl, rfl, ⟨(.d rfl), (.d rfl), (.d rfl), (.d rfl), trivial⟩, trivial, .nil⟩ ?_
 rintro n1 s2 hI1
 obtain ⟨y_1, hm, hI1⟩ := iterS hI1
 replace hm : m_feature_years_L1 n _ s2 = some y_1 := hm
 unfold m_feature_years_L1 at hm
 try dsimp only at hm
 refine zr (zs (op_lss (.r rfl) (.r rfl)) (zn (AW.seq ?_)))
 refine AW.cond (b := _) rfl (fun hc1 => ?_) (fun hc1 => ?_)
 ·replace hm := iteT hc1 hm
  refine AW.skip (nq (AW.seq (AW.block (zr (zm rfl ?_)))))
  obtain ⟨v3, hv3, hm⟩ := bindE hm
  refine zs (op_indexAddrM (f := D.i) (.r rfl) (.r rfl) hv3 En.i sl23) (zs (op_load_vp1 .r rfl sc3) (za rfl (za rfl (zn (zr (zm rfl (zs (op_lss (.r rfl) (.r rfl)) (zm rfl (AL.sF rfl rfl rfl rfl (fun g => op_moveD .r) (AL.sF rfl rfl rfl rfl (fun g => op_gtr (.we (nt g) rfl rfl) (.r rfl)) (zs (op_or (.r rfl) rfl (fun h => (.we (nt h) rfl rfl))) (zm rfl (AL.sF rfl rfl rfl rfl (fun g => op_moveD .r) (AL.sF rfl rfl rfl rfl (fun g => op_gtr (.we (nt g) rfl rfl) (.r rfl)) (AL.sF rfl rfl rfl rfl (fun g => op_moveD (.we (nt g) rfl)) (AL.sTT rfl rfl rfl rfl (fun gp g => op_moveD .r) (AL.sTT rfl rfl rfl rfl (fun gp g => op_moveD .r) (AL.sTT rfl rfl rfl rfl (fun gp g => op_moveD .r) (AL.sTT rfl rfl rfl rfl (fun gp g => op_subw (.we (an gp g) rfl rfl) (.r rfl)) ?_)))))))))))))))))))
  obtain ⟨v4, hv4, hm⟩ := bindE hm
  refine AL.sTT rfl rfl rfl rfl (fun gp g => op_indexAddrM (f := D.i) (.we (an gp g) rfl rfl) (.we (an gp g) rfl rfl) (iteT (an gp g) hv4) En.i sl23) (AL.sTT rfl rfl rfl rfl (fun gp g => op_load_vp1 (.we (an gp g) rfl) rfl sc3) (AL.sTT rfl rfl rfl rfl (fun gp g => op_leq (.we (an gp g) rfl rfl) (.we (an gp g) rfl rfl)) (AL.sF rfl rfl rfl rfl (fun g => op_and (.we (nt g) rfl rfl) (fun h => (.we (an (nt g) h) rfl rfl)) rfl) (zs (op_or (.r rfl) rfl (fun h => (.we (nt h) rfl rfl))) (zn ?_)))))
  refine AW.cond (b := _) rfl (fun hc2 => ?_) (fun hc2 => ?_)
  ·replace hm := iteT hc2 hm
   refine zr (za rfl (zn (AW.ret (bq_ret (tq_ret (tq_ret ?_))))))
   obtain rfl := Option.some.inj hm
   obtain rfl := Option.some.inj hI1
   replace hm := hk1
   try dsimp only at hm
   refine bq_ret (tq_ret ?_)
   obtain rfl := Option.some.inj hm
   exact EndQ.d (.tmp .r .nil) rfl rfl
  ·replace hm := iteF hc2 hm
   refine AW.skip (bq_n (nq (AW.region (zs (op_addw (.r rfl) (.r rfl)) (zm rfl (zn ?_))))))
   obtain rfl := Option.some.inj hm
   exact nq ⟨_, hI1, ⟨[], rfl, rfl, rfl, ⟨(.d rfl), (.d rfl), (.d rfl), (.d rfl), trivial⟩, trivial, .nil⟩⟩
 ·replace hm := iteF hc1 hm
  refine AW.exit (tq_exit (tq_exit ?_))
  obtain rfl := Option.some.inj hm
  obtain rfl := Option.some.inj hI1
  replace hm := hk1
  try dsimp only at hm
  refine bq_hit (nq (zr (zm rfl (zs (op_lenM (f := D.i) (.r rfl) sl23) (zs (op_leq (.r rfl) (.r rfl)) (za rfl (zn (AW.ret ?_))))))))
  obtain rfl := Option.some.inj hm
  exact EndQ.d (.tmp .r .nil) rfl rfl

theorem m_feature_set_ok {n : Nat} {H : List HE} {a1 : (List (List UInt8))} {a2 : Int} {p3 : (List UInt8) → Option Bool} {r : Bool} {ff_p3 : FuncId} {caps_p3 : List V} (hff_p3 : ∀ (a : Array Value) (w : World), (callFunc ff_p3 a).run Tryz.prog w = .ok (.enter ff_p3 a) w) (hF_p3 : ∀ (y1 : (List UInt8)) (b : Bool), p3 y1 = some b → ACall Tryz.prog ff_p3 (.d (.str y1) :: caps_p3) H fun r' H' => r' = .d (.bool b) ∧ H' = H) (hm : m_feature_set n a1 a2 p3 = some r) : ACall Tryz.prog 45 [.d (.sl (a1.map D.str)), .d (.int .i64 a2), .fn (.func ff_p3) caps_p3] H fun r' H' => r' = .d (.bool r) ∧ H' = H := by
 unfold m_feature_set at hm
 refine ACall.of_AW (fnn := Tryz.f45) Tryz.func45 rfl (Nat.le_of_ble_eq_true rfl) (fun g0 w0 hw0 => ?_)
 refine zr (za rfl (zn (AW.seq (zr (zm rfl (zs (op_lenM (f := D.str) (.r rfl) sl22) (zm rfl (zn (AW.block ?_)))))))))
 obtain ⟨t_1, hI1, hk1⟩ := bindE hm
 refine AW.loopN (σ := Int) (τ := (Bool ⊕ Unit)) [0, 1, 2, 9, 10] (fun x => [(11, .d (.int .i64 x))]) hI1 ⟨by first | exact .of rfl | exact .d rfl, trivial⟩ ?_
 rintro n1 s4 hI1
 obtain ⟨y_1, hm, hI1⟩ := iterS hI1
 replace hm : m_feature_set_L1 n _ _ s4 = some y_1 := hm
 unfold m_feature_set_L1 at hm
 try dsimp only at hm
 refine zr (zs (op_lss (.r rfl) (.r rfl)) (zn (AW.seq ?_)))
 refine AW.cond (b := _) rfl (fun hc1 => ?_) (fun hc1 => ?_)
 ·replace hm := iteT hc1 hm
  refine AW.skip (nq (AW.seq (AW.block (zr (zm rfl ?_)))))
  obtain ⟨v5, hv5, hm⟩ := bindE hm
  refine zs (op_indexAddrM (f := D.str) (.r rfl) (.r rfl) hv5 En.str sl22) (zs (op_load_vp1 .r rfl sc9) (za rfl (za rfl (zn (zr (zs (op_moveF .r) (zm rfl ?_)))))))
  obtain ⟨v6, hv6, hm⟩ := bindE hm
  refine zs (op_call hff_p3 .r (.cons .r .nil) (hF_p3 _ _ hv6)) (zs (op_not (.r rfl)) (zm rfl (AL.sF rfl rfl rfl rfl (fun g => op_moveD .r) (AL.sF rfl rfl rfl rfl (fun g => op_gtr (.we (nt g) rfl rfl) (.r rfl)) (AL.sF rfl rfl rfl rfl (fun g => op_moveD (.we (nt g) rfl)) (AL.sTT rfl rfl rfl rfl (fun gp g => op_moveD .r) (AL.sTT rfl rfl rfl rfl (fun gp g => op_moveD .r) (AL.sTT rfl rfl rfl rfl (fun gp g => op_moveD .r) (AL.sTT rfl rfl rfl rfl (fun gp g => op_subw (.we (an gp g) rfl rfl) (.r rfl)) ?_)))))))))
  obtain ⟨v7, hv7, hm⟩ := bindE hm
  refine AL.sTT rfl rfl rfl rfl (fun gp g => op_indexAddrM (f := D.str) (.we (an gp g) rfl rfl) (.we (an gp g) rfl rfl) (iteT (an gp g) hv7) En.str sl22) (AL.sTT rfl rfl rfl rfl (fun gp g => op_load_vp1 (.we (an gp g) rfl) rfl sc9) (AL.sTT rfl rfl rfl rfl (fun gp g => op_leqS (.we (an gp g) rfl rfl) (.we (an gp g) rfl rfl)) (AL.sF rfl rfl rfl rfl (fun g => op_and (.we (nt g) rfl rfl) (fun h => (.we (an (nt g) h) rfl rfl)) rfl) (zs (op_or (.r rfl) rfl (fun h => (.we (nt h) rfl rfl))) (zn ?_)))))
  refine AW.cond (b := _) rfl (fun hc2 => ?_) (fun hc2 => ?_)
  ·replace hm := iteT hc2 hm
   refine zr (za rfl (zn (AW.ret (bq_ret (tq_ret (tq_ret ?_))))))
   obtain rfl := Option.some.inj hm
   obtain rfl := Option.some.inj hI1
   replace hm := hk1
   try dsimp only at hm
   refine bq_ret (tq_ret ?_)
   obtain rfl := Option.some.inj hm
   exact ⟨_, _, (.tmp .r .nil), .d rfl, rfl, rfl⟩
  ·replace hm := iteF hc2 hm
   refine AW.skip (bq_n (nq (AW.region (zs (op_addw (.r rfl) (.r rfl)) (zm rfl (zn ?_))))))
   obtain rfl := Option.some.inj hm
   exact nq ⟨_, hI1, ⟨by first | exact .of rfl | exact .d rfl, trivial⟩, ⟨rfl, rfl, rfl, rfl, rfl, trivial⟩, rfl⟩
 ·replace hm := iteF hc1 hm
  refine AW.exit (tq_exit (tq_exit ?_))
  obtain rfl := Option.some.inj hm
  obtain rfl := Option.some.inj hI1
  replace hm := hk1
  try dsimp only at hm
  refine bq_hit (nq (zr (zm rfl (zs (op_lenM (f := D.str) (.r rfl) sl22) (zm rfl (zs (op_leq (.r rfl) (.r rfl)) (za rfl (zn (AW.ret ?_)))))))))
  obtain rfl := Option.some.inj hm
  exact ⟨_, _, (.tmp .r .nil), .d rfl, rfl, rfl⟩

theorem m_feature_isbn_ok {n : Nat} {a1 : (List UInt8)} {r : Bool} (hm : m_feature_isbn n a1 = some r) : Fn Tryz.prog 46 [(.str a1)] (.bool r) := by
 unfold m_feature_isbn at hm
 refine Fn.of_AW (fnn := Tryz.f46) Tryz.func46 rfl (Nat.le_of_ble_eq_true rfl) (fun g0 w0 hw0 => ?_)
 refine zr (za rfl (zn (zr (zm rfl (zs (op_lenS (.r rfl) Tryz.underlying9) (zs (op_eql (.r rfl) (.r rfl)) (zm rfl (AL.sT rfl rfl rfl rfl (fun g => op_moveD .r) ?_))))))))
 obtain ⟨v2, hv2, hm⟩ := bindE hm
 refine AL.sT rfl rfl rfl rfl (fun g => op_fn Tryz.call40 .r (.cons (.we g rfl rfl) (.cons (.r rfl) (.cons (.r rfl) .nil))) (m_feature_only_ok (iteT g hv2))) (zs (op_and (.r rfl) (fun h => (.we h rfl rfl)) rfl) (za rfl (zn (AW.ret ?_))))
 obtain rfl := Option.some.inj hm
 exact EndQ.d (.tmp .r .nil) rfl rfl

theorem m_feature_lang_ok {n : Nat} {a1 : (List UInt8)} {r : Bool} (hm : m_feature_lang n a1 = some r) : Fn Tryz.prog 47 [(.str a1)] (.bool r) := by
 unfold m_feature_lang at hm
 refine Fn.of_AW (fnn := Tryz.f47) Tryz.func47 rfl (Nat.le_of_ble_eq_true rfl) (fun g0 w0 hw0 => ?_)
 refine zr (za rfl (zn (zr (zm rfl (zs (op_lenS (.r rfl) Tryz.underlying9) (zs (op_eql (.r rfl) (.r rfl)) (zm rfl (AL.sT rfl rfl rfl rfl (fun g => op_moveD .r) ?_))))))))
 obtain ⟨v2, hv2, hm⟩ := bindE hm
 refine AL.sT rfl rfl rfl rfl (fun g => op_fn Tryz.call40 .r (.cons (.we g rfl rfl) (.cons (.r rfl) (.cons (.r rfl) .nil))) (m_feature_only_ok (iteT g hv2))) (zs (op_and (.r rfl) (fun h => (.we h rfl rfl)) rfl) (za rfl (zn (AW.ret ?_))))
 obtain rfl := Option.some.inj hm
 exact EndQ.d (.tmp .r .nil) rfl rfl

theorem m_feature_Valid_ok {n : Nat} {a1 : SFeatures} {r : Bool} (hm : m_feature_Valid n a1 = some r) : Fn Tryz.prog 18 [(SFeatures.e a1)] (.bool r) := by
 unfold m_feature_Valid at hm
 refine Fn.of_AW (fnn := Tryz.f18) Tryz.func18 rfl (Nat.le_of_ble_eq_true rfl) (fun g0 w0 hw0 => ?_)
 refine AW.reset 0 [(0, .d (SFeatures.e a1))] [] (WOK.g0 hw0 (by simp)) ⟨[], rfl, rfl, rfl, ⟨(.d rfl), trivial⟩, trivial, .nil⟩ (zr (zs (op_box (n := 0) .r rfl rfl rfl) (za rfl (zn (AW.seq (zr (zs (op_field_ptr .r fd33_0) (zs (op_load_ptr1 .r rfl rfl sc3) (zs (op_lss (.r rfl) (.r rfl)) (zm rfl (AL.sF rfl rfl rfl rfl (fun g => op_field_ptr .r fd33_0) (AL.sF rfl rfl rfl rfl (fun g => op_load_ptr1 (.we (nt g) rfl) rfl rfl sc3) (AL.sF rfl rfl rfl rfl (fun g => op_gtr (.we (nt g) rfl rfl) (.r rfl)) (zs (op_or (.r rfl) rfl (fun h => (.we (nt h) rfl rfl))) (zm rfl (AL.sF rfl rfl rfl rfl (fun g => op_field_ptr .r fd33_1) (AL.sF rfl rfl rfl rfl (fun g => op_load_ptr1 (.we (nt g) rfl) rfl rfl sc22) (AL.sF rfl rfl rfl rfl (fun g => op_lenM (f := D.str) (.we (nt g) rfl rfl) sl22) (AL.sF rfl rfl rfl rfl (fun g => op_gtr (.we (nt g) rfl rfl) (.r rfl)) (zs (op_or (.r rfl) rfl (fun h => (.we (nt h) rfl rfl))) (zm rfl (AL.sF rfl rfl rfl rfl (fun g => op_field_ptr .r fd33_2) (AL.sF rfl rfl rfl rfl (fun g => op_load_ptr1 (.we (nt g) rfl) rfl rfl sc9) (AL.sF rfl rfl rfl rfl (fun g => op_lenS (.we (nt g) rfl rfl) Tryz.underlying9) (AL.sF rfl rfl rfl rfl (fun g => op_gtr (.we (nt g) rfl rfl) (.r rfl)) (zs (op_or (.r rfl) rfl (fun h => (.we (nt h) rfl rfl))) (zm rfl (AL.sF rfl rfl rfl rfl (fun g => op_field_ptr .r fd33_2) (AL.sF rfl rfl rfl rfl (fun g => op_load_ptr1 (.we (nt g) rfl) rfl rfl sc9) ?_)))))))))))))))))))))))))))))
 obtain ⟨v2, hv2, hm⟩ := bindE hm
 refine AL.sF rfl rfl rfl rfl (fun g => op_fn Tryz.call40 .r (.cons (.we (nt g) rfl rfl) (.cons (.r rfl) (.cons (.r rfl) .nil))) (m_feature_only_ok (iteT (nt g) hv2))) (AL.sF rfl rfl rfl rfl (fun g => op_not (.we (nt g) rfl rfl)) (zs (op_or (.r rfl) rfl (fun h => (.we (nt h) rfl rfl))) (zn ?_)))
 refine AW.cond (b := _) rfl (fun hc1 => ?_) (fun hc1 => ?_)
 ·replace hm := iteT hc1 hm
  refine zr (za rfl (zn (AW.ret (tq_ret ?_))))
  obtain rfl := Option.some.inj hm
  exact EndQ.d (.tmp .r .nil) rfl rfl
 ·replace hm := iteF hc1 hm
  refine AW.skip (nq (AW.seq (zr (zs (op_field_ptr .r fd33_2) (zs (op_load_ptr1 .r rfl rfl sc9) (za rfl (zn (zr (zm rfl (zs (op_neqS (.r rfl) (.r rfl)) (zm rfl (AL.sT rfl rfl rfl rfl (fun g => op_moveD .r) ?_))))))))))))
  obtain ⟨v3, hv3, hm⟩ := bindE hm
  refine AL.sT rfl rfl rfl rfl (fun g => op_indexSM (.we g rfl rfl) (.r rfl) (iteT g hv3) Tryz.underlying9) (AL.sT rfl rfl rfl rfl (fun g => op_eql (.we g rfl rfl) (.r rfl)) (AL.sT rfl rfl rfl rfl (fun g => op_moveD (.we g rfl)) (AL.sFF rfl rfl rfl rfl (fun gp g => op_moveD .r) (AL.sFF rfl rfl rfl rfl (fun gp g => op_moveD .r) (AL.sFF rfl rfl rfl rfl (fun gp g => op_lenS (.we (an gp (nt g)) rfl rfl) Tryz.underlying9) (AL.sFF rfl rfl rfl rfl (fun gp g => op_subw (.we (an gp (nt g)) rfl rfl) (.r rfl)) ?_))))))
  obtain ⟨v4, hv4, hm⟩ := bindE hm
  refine AL.sFF rfl rfl rfl rfl (fun gp g => op_indexSM (.we (an gp (nt g)) rfl rfl) (.we (an gp (nt g)) rfl rfl) (iteT (an gp (nt g)) hv4) Tryz.underlying9) (AL.sFF rfl rfl rfl rfl (fun gp g => op_eql (.we (an gp (nt g)) rfl rfl) (.r rfl)) (AL.sT rfl rfl rfl rfl (fun g => op_or (.we g rfl rfl) rfl (fun h => (.we (an g (nt h)) rfl rfl))) (zs (op_and (.r rfl) (fun h => (.we h rfl rfl)) rfl) (zn ?_))))
  refine AW.cond (b := _) rfl (fun hc2 => ?_) (fun hc2 => ?_)
  ·replace hm := iteT hc2 hm
   refine AW.reset 0 [] [.row ((SFeatures.e a1).cells.map .d)] (WOK.g0 hw0 (by simp)) ⟨[0], rfl, rfl, rfl, trivial, trivial, (.row rfl (cd (SFeatures.e a1).cells) .nil)⟩ (zr (za rfl (zn (AW.ret (tq_ret ?_)))))
   obtain rfl := Option.some.inj hm
   exact EndQ.d (.tmp .r .nil) rfl rfl
  ·replace hm := iteF hc2 hm
   refine AW.skip (nq (AW.seq (zr (zs (op_field_ptr .r fd33_1) (zs (op_load_ptr1 .r rfl rfl sc22) ?_)))))
   obtain ⟨v5, hv5, hm⟩ := bindE hm
   refine zs (op_call Tryz.call41 .r (.cons .r (.cons .r .nil)) (m_slices_ContainsFunc_string_string_ok Tryz.call42 (fun _ _ hb => (m_feature_Valid_1_ok hb).at _) hv5)) (zn ?_)
   refine AW.cond (b := _) rfl (fun hc3 => ?_) (fun hc3 => ?_)
   ·replace hm := iteT hc3 hm
    refine zr (za rfl (zn (AW.ret (tq_ret ?_))))
    obtain rfl := Option.some.inj hm
    exact EndQ.d (.tmp .r .nil) rfl rfl
   ·replace hm := iteF hc3 hm
    refine AW.skip (nq (zr (zs (op_field_ptr .r fd33_3) (zs (op_load_ptr1 .r rfl rfl sc23) ?_))))
    obtain ⟨v6, hv6, hm⟩ := bindE hm
    refine zs (op_fn Tryz.call44 .r (.cons (.r rfl) .nil) (m_feature_years_ok hv6)) (zm rfl (AL.sT rfl rfl rfl rfl (fun g => op_field_ptr .r fd33_4) (AL.sT rfl rfl rfl rfl (fun g => op_load_ptr1 (.we g rfl) rfl rfl sc22) ?_)))
    obtain ⟨v7, hv7, hm⟩ := bindE hm
    refine AL.sT rfl rfl rfl rfl (fun g => op_call Tryz.call45 .r (.cons (.we g rfl) (.cons .r (.cons .r .nil))) (m_feature_set_ok Tryz.call46 (fun _ _ hb => (m_feature_isbn_ok hb).at _) (iteT g hv7))) (zs (op_and (.r rfl) (fun h => (.we h rfl rfl)) rfl) (zm rfl (AL.sT rfl rfl rfl rfl (fun g => op_field_ptr .r fd33_5) (AL.sT rfl rfl rfl rfl (fun g => op_load_ptr1 (.we g rfl) rfl rfl sc22) ?_))))
    obtain ⟨v8, hv8, hm⟩ := bindE hm
    refine AL.sT rfl rfl rfl rfl (fun g => op_call Tryz.call45 .r (.cons (.we g rfl) (.cons .r (.cons .r .nil))) (m_feature_set_ok Tryz.call47 (fun _ _ hb => (m_feature_lang_ok hb).at _) (iteT g hv8))) (zs (op_and (.r rfl) (fun h => (.we h rfl rfl)) rfl) (zm rfl (AL.sT rfl rfl rfl rfl (fun g => op_field_ptr .r fd33_6) (AL.sT rfl rfl rfl rfl (fun g => op_load_ptr1 (.we g rfl) rfl rfl sc22) ?_))))
    obtain ⟨v9, hv9, hm⟩ := bindE hm
    refine AL.sT rfl rfl rfl rfl (fun g => op_call Tryz.call45 .r (.cons (.we g rfl) (.cons .r (.cons .r .nil))) (m_feature_set_ok Tryz.call43 (fun _ _ hb => (m_feature_word_ok hb).at _) (iteT g hv9))) (zs (op_and (.r rfl) (fun h => (.we h rfl rfl)) rfl) (zm rfl (AL.sT rfl rfl rfl rfl (fun g => op_field_ptr .r fd33_7) (AL.sT rfl rfl rfl rfl (fun g => op_load_ptr1 (.we g rfl) rfl rfl sc22) ?_))))
    obtain ⟨v10, hv10, hm⟩ := bindE hm
    refine AL.sT rfl rfl rfl rfl (fun g => op_call Tryz.call45 .r (.cons (.we g rfl) (.cons .r (.cons .r .nil))) (m_feature_set_ok Tryz.call43 (fun _ _ hb => (m_feature_word_ok hb).at _) (iteT g hv10))) (zs (op_and (.r rfl) (fun h => (.we h rfl rfl)) rfl) (za rfl (zn (AW.ret ?_))))
    obtain rfl := Option.some.inj hm
    exact EndQ.d (.tmp .r .nil) rfl rfl

theorem m_slices_Equal_string_string_ok {n : Nat} {a1 : (List (List UInt8))} {a2 : (List (List UInt8))} {r : Bool} (hm : m_slices_Equal_string_string n a1 a2 = some r) : Fn Tryz.prog 20 [(.sl (a1.map D.str)), (.sl (a2.map D.str))] (.bool r) := by
 unfold m_slices_Equal_string_string at hm
 refine Fn.of_AW (fnn := Tryz.f20) Tryz.func20 rfl (Nat.le_of_ble_eq_true rfl) (fun g0 w0 hw0 => ?_)
 refine AW.reset 0 [(0, .d (.sl (a1.map D.str))), (1, .d (.sl (a2.map D.str)))] [] (WOK.g0 hw0 (by simp)) ⟨[], rfl, rfl, rfl, ⟨(.d rfl), (.d rfl), trivial⟩, trivial, .nil⟩ (zr (za rfl (zn (AW.seq (zr (zm rfl (zs (op_lenM (f := D.str) (.r rfl) sl22) (zm rfl (zs (op_lenM (f := D.str) (.r rfl) sl22) (zs (op_neq (.r rfl) (.r rfl)) (zn ?_)))))))))))
 refine AW.cond (b := _) rfl (fun hc1 => ?_) (fun hc1 => ?_)
 ·replace hm := iteT hc1 hm
  refine zr (za rfl (zn (AW.ret (tq_ret ?_))))
  obtain rfl := Option.some.inj hm
  exact EndQ.d (.tmp .r .nil) rfl rfl
 ·replace hm := iteF hc1 hm
  refine AW.skip (nq (AW.seq (zr (zm rfl (zs (op_lenM (f := D.str) (.r rfl) sl22) (zm rfl (zn (AW.block ?_))))))))
  obtain ⟨t_1, hI1, hk1⟩ := bindE hm
  refine AW.loopS (σ := Int) (τ := (Bool ⊕ Unit)) 0 (fun x => [(0, .d (.sl (a1.map D.str))), (1, .d (.sl (a2.map D.str))), (12, .d (.int .i64 (a1.length : Int))), (13, .d (.int .i64 x))]) (fun x => []) hI1 (WOK.g0 hw0 (by simp)) ⟨[], rfl, rfl, rfl, ⟨(.d rfl), (.d rfl), (.d rfl), (.d rfl), trivial⟩, trivial, .nil⟩ ?_
  rintro n1 s3 hI1
  obtain ⟨y_1, hm, hI1⟩ := iterS hI1
  replace hm : m_slices_Equal_string_string_L1 n _ _ s3 = some y_1 := hm
  unfold m_slices_Equal_string_string_L1 at hm
  try dsimp only at hm
  refine zr (zs (op_lss (.r rfl) (.r rfl)) (zn (AW.seq ?_)))
  refine AW.cond (b := _) rfl (fun hc2 => ?_) (fun hc2 => ?_)
  ·replace hm := iteT hc2 hm
   refine AW.skip (nq (AW.seq (AW.block (zr (zm rfl (za rfl (zn (AW.seqD [([], []), ([], []), ([], []), ([], []), ([], []), ([], []), ([], []), ([], []), ([], [])] mo (by decide +kernel) (AD.s (ws := []) rfl rfl (fun H' _ hH => op_moveD .r) (AD.s (ws := []) rfl rfl (fun H' _ hH => op_moveD .r) ?_))))))))))
   obtain ⟨v4, hv4, hm⟩ := bindE hm
   refine AD.s (ws := []) rfl rfl (fun H' _ hH => op_indexAddrM (f := D.str) (.r rfl) (.r rfl) hv4 En.str sl22) (AD.s (ws := []) rfl rfl (fun H' _ hH => op_load_vp1 .r rfl sc9) (AD.s (ws := []) rfl rfl (fun H' _ hH => op_moveD .r) (AD.s (ws := []) rfl rfl (fun H' _ hH => op_moveD .r) ?_)))
   obtain ⟨v5, hv5, hm⟩ := bindE hm
   refine AD.s (ws := []) rfl rfl (fun H' _ hH => op_indexAddrM (f := D.str) (.r rfl) (.r rfl) hv5 En.str sl22) (AD.s (ws := []) rfl rfl (fun H' _ hH => op_load_vp1 .r rfl sc9) (AD.s (ws := []) rfl rfl (fun H' _ hH => op_neqS (.r rfl) (.r rfl)) (AD.nil ?_)))
   refine AW.cond (b := _) rfl (fun hc3 => ?_) (fun hc3 => ?_)
   ·replace hm := iteT hc3 hm
    refine zr (za rfl (zn (AW.ret (bq_ret (tq_ret (tq_ret ?_))))))
    obtain rfl := Option.some.inj hm
    obtain rfl := Option.some.inj hI1
    replace hm := hk1
    try dsimp only at hm
    refine bq_ret (tq_ret ?_)
    obtain rfl := Option.some.inj hm
    exact EndQ.d (.tmp .r .nil) rfl rfl
   ·replace hm := iteF hc3 hm
    refine AW.skip (bq_n (nq (AW.region (zs (op_addw (.r rfl) (.r rfl)) (zm rfl (zn ?_))))))
    obtain rfl := Option.some.inj hm
    exact nq ⟨_, hI1, ⟨[], rfl, rfl, rfl, ⟨(.d rfl), (.d rfl), (.d rfl), (.d rfl), trivial⟩, trivial, .nil⟩⟩
  ·replace hm := iteF hc2 hm
   refine AW.exit (tq_exit (tq_exit ?_))
   obtain rfl := Option.some.inj hm
   obtain rfl := Option.some.inj hI1
   replace hm := hk1
   try dsimp only at hm
   refine bq_hit (nq (zr (za rfl (zn (AW.ret ?_)))))
   obtain rfl := Option.some.inj hm
   exact EndQ.d (.tmp .r .nil) rfl rfl

theorem m_match_closeWords_ok {n : Nat} {a1 : (List (List UInt8))} {a2 : (List (List UInt8))} {r : Bool} (hm : m_match_closeWords n a1 a2 = some r) : Fn Tryz.prog 21 [(.sl (a1.map D.str)), (.sl (a2.map D.str))] (.bool r) := by
 unfold m_match_closeWords at hm
 refine Fn.of_AW (fnn := Tryz.f21) Tryz.func21 rfl (Nat.le_of_ble_eq_true rfl) (fun g0 w0 hw0 => ?_)
 refine AW.reset 0 [(0, .d (.sl (a1.map D.str))), (1, .d (.sl (a2.map D.str)))] [] (WOK.g0 hw0 (by simp)) ⟨[], rfl, rfl, rfl, ⟨(.d rfl), (.d rfl), trivial⟩, trivial, .nil⟩ (zr (za rfl (zn (zr (zs (op_makeMap (n := 0) rfl) (zs (op_assignM .r) (zn (AW.seq (zr (zm rfl (zs (op_lenM (f := D.str) (.r rfl) sl22) (zm rfl (zn (AW.block ?_))))))))))))))
 obtain ⟨t_1, hI1, hk1⟩ := bindE hm
 refine AW.loopS (σ := (Int × (List ((List UInt8) × Int)))) (τ := (List ((List UInt8) × Int))) 0 (fun x => [(1, .d (.sl (a2.map D.str))), (5, .mp 0), (14, .d (.sl (a1.map D.str))), (15, .d (.int .i64 (a1.length : Int))), (16, .d (.int .i64 x.1))]) (fun x => [.ob (mpO (x.2.map (fun q => ((.str q.1), (.int .i64 q.2)))))]) hI1 (WOK.g0 hw0 (by simp)) ⟨[0], rfl, rfl, rfl, ⟨(.d rfl), (.mp rfl), (.d rfl), (.d rfl), (.d rfl), trivial⟩, trivial, (.ob rfl obR_mp .nil)⟩ ?_
 rintro n1 ⟨s3, s4⟩ hI1
 obtain ⟨y_1, hm, hI1⟩ := iterS hI1
 replace hm : m_match_closeWords_L1 n _ s3 s4 = some y_1 := hm
 unfold m_match_closeWords_L1 at hm
 try dsimp only at hm
 refine zr (zs (op_lss (.r rfl) (.r rfl)) (zn (AW.seq ?_)))
 refine AW.cond (b := _) rfl (fun hc1 => ?_) (fun hc1 => ?_)
 ·replace hm := iteT hc1 hm
  refine AW.skip (nq (AW.seq (AW.block (zr ?_))))
  obtain ⟨v5, hv5, hm⟩ := bindE hm
  refine zs (op_indexAddrM (f := D.str) (.r rfl) (.r rfl) hv5 En.str sl22) (zs (op_load_vp1 .r rfl sc9) (za rfl (zn (AW.region (zs (op_moveM .r) (zm rfl (zs (op_lookup (m := s4) (k := v5) (z := ((0 : Int) : Int)) (fv := D.i) (keyStr Tryz.underlying9) Tryz.underlying98 .r (.r rfl) rfl ⟨_, rfl, rfl⟩ (fun _ _ => .int _ _)) (zs (op_orM (.r rfl) (.r rfl)) ?_))))))))
  obtain ⟨v6, hv6, hm⟩ := bindE hm
  refine zs (op_mapUpdateM (m := s4) (k := v5) (v := (bitM .i64 (· ||| ·) ((mget s4 v5).getD ((0 : Int) : Int)) (1 : Int))) (fv := D.i) (keyStr Tryz.underlying9) Tryz.underlying98 .r (.r rfl) (.r rfl) rfl hv6) (zn (bq_n (nq (AW.region (zs (op_addw (.r rfl) (.r rfl)) (zm rfl (zn ?_)))))))
  obtain rfl := Option.some.inj hm
  exact nq ⟨_, hI1, ⟨[0], rfl, rfl, rfl, ⟨(.d rfl), (.mp rfl), (.d rfl), (.d rfl), (.d rfl), trivial⟩, trivial, (.ob rfl obR_mp .nil)⟩⟩
 ·replace hm := iteF hc1 hm
  refine AW.exit (tq_exit (tq_exit ?_))
  obtain rfl := Option.some.inj hm
  obtain rfl := Option.some.inj hI1
  replace hm := hk1
  try dsimp only at hm
  refine bq_hit (nq (AW.seq (zr (zm rfl (zs (op_lenM (f := D.str) (.r rfl) sl22) (zm rfl (zn (AW.block ?_))))))))
  obtain ⟨t_2, hI2, hk2⟩ := bindE hm
  refine AW.loopS (σ := (Int × (List ((List UInt8) × Int)))) (τ := (List ((List UInt8) × Int))) 0 (fun x => [(5, .mp 0), (25, .d (.sl (a2.map D.str))), (26, .d (.int .i64 (a2.length : Int))), (27, .d (.int .i64 x.1))]) (fun x => [.ob (mpO (x.2.map (fun q => ((.str q.1), (.int .i64 q.2)))))]) hI2 (WOK.g0 hw0 (by simp)) ⟨[0], rfl, rfl, rfl, ⟨(.mp rfl), (.d rfl), (.d rfl), (.d rfl), trivial⟩, trivial, (.ob rfl obR_mp .nil)⟩ ?_
  rintro n2 ⟨s7, s8⟩ hI2
  obtain ⟨y_2, hm, hI2⟩ := iterS hI2
  replace hm : m_match_closeWords_L2 n _ s7 s8 = some y_2 := hm
  unfold m_match_closeWords_L2 at hm
  try dsimp only at hm
  refine zr (zs (op_lss (.r rfl) (.r rfl)) (zn (AW.seq ?_)))
  refine AW.cond (b := _) rfl (fun hc2 => ?_) (fun hc2 => ?_)
  ·replace hm := iteT hc2 hm
   refine AW.skip (nq (AW.seq (AW.block (zr ?_))))
   obtain ⟨v9, hv9, hm⟩ := bindE hm
   refine zs (op_indexAddrM (f := D.str) (.r rfl) (.r rfl) hv9 En.str sl22) (zs (op_load_vp1 .r rfl sc9) (za rfl (zn (AW.region (zs (op_moveM .r) (zm rfl (zs (op_lookup (m := s8) (k := v9) (z := ((0 : Int) : Int)) (fv := D.i) (keyStr Tryz.underlying9) Tryz.underlying98 .r (.r rfl) rfl ⟨_, rfl, rfl⟩ (fun _ _ => .int _ _)) (zs (op_orM (.r rfl) (.r rfl)) ?_))))))))
   obtain ⟨v10, hv10, hm⟩ := bindE hm
   refine zs (op_mapUpdateM (m := s8) (k := v9) (v := (bitM .i64 (· ||| ·) ((mget s8 v9).getD ((0 : Int) : Int)) (2 : Int))) (fv := D.i) (keyStr Tryz.underlying9) Tryz.underlying98 .r (.r rfl) (.r rfl) rfl hv10) (zn (bq_n (nq (AW.region (zs (op_addw (.r rfl) (.r rfl)) (zm rfl (zn ?_)))))))
   obtain rfl := Option.some.inj hm
   exact nq ⟨_, hI2, ⟨[0], rfl, rfl, rfl, ⟨(.mp rfl), (.d rfl), (.d rfl), (.d rfl), trivial⟩, trivial, (.ob rfl obR_mp .nil)⟩⟩
  ·replace hm := iteF hc2 hm
   refine AW.exit (tq_exit (tq_exit ?_))
   obtain rfl := Option.some.inj hm
   obtain rfl := Option.some.inj hI2
   replace hm := hk2
   try dsimp only at hm
   refine bq_hit (nq (zr (za rfl (zn (AW.seq (zr (zs (op_moveM .r) (zs (op_rangeMapM (n := 1) (l := s8) (fx := (fun q => ((.str q.1), (.int .i64 q.2)))) Tryz.underlying98 .r rfl rfl) (zn (AW.block ?_))))))))))
   obtain ⟨t_3, hI3, hk3⟩ := bindE hm
   refine AW.loopR (rid := 1) (mid := 0) (σ := Int) (τ := Int) (α := ((List UInt8) × Int)) 0 [5, 37] (fun x => [(10, .d (.int .i64 x))]) (fun x z => [.ob (mpO (s8.map (fun q => ((.str q.1), (.int .i64 q.2))))), .ob (z)]) (fx := (fun q => ((.str q.1), (.int .i64 q.2)))) (l := s8) hI3 (WOK.g0 hw0 (by simp)) ⟨[0, 1], rfl, rfl, rfl, ⟨(.d rfl), trivial⟩, ⟨rfl, rfl, trivial⟩, (.ob rfl obR_mp (.ob rfl (obR_it rfl) .nil))⟩ (fun _ => rfl) (fun _ _ => rfl) (fun _ _ => rfl) (fun _ _ _ => rfl) rfl rfl ?_ ?_
   ·rintro inv_3 s11 e_3 S_3 i_3 y_3 he_3 hm hI3
    replace hm : m_match_closeWords_L3 n s11 e_3 = some y_3 := hm
    unfold m_match_closeWords_L3 at hm
    try dsimp only at hm
    refine AW.block (zr (zs (op_entryM (e := e_3) (fx := (fun q => ((.str q.1), (.int .i64 q.2)))) .r rfl rfl he_3) (zs (op_extractV .r rfl) (za rfl (zn (zr (zm rfl (zs (op_eql (.r rfl) (.r rfl)) (zn ?_)))))))))
    refine AW.cond (b := _) rfl (fun hc3 => ?_) (fun hc3 => ?_)
    ·replace hm := iteT hc3 hm
     refine AW.region (zm rfl (zs (op_addw (.r rfl) (.r rfl)) (za rfl (zn (bq_n ?_)))))
     obtain rfl := Option.some.inj hm
     exact nq ⟨_, hI3, ⟨[0, 1], rfl, rfl, rfl, ⟨(.d rfl), trivial⟩, ⟨rfl, rfl, trivial⟩, (.ob rfl obR_mp (.ob rfl (obR_it rfl) .nil))⟩⟩
    ·replace hm := iteF hc3 hm
     refine AW.skip (bq_n ?_)
     obtain rfl := Option.some.inj hm
     exact nq ⟨_, hI3, ⟨[0, 1], rfl, rfl, rfl, ⟨(.d rfl), trivial⟩, ⟨rfl, rfl, trivial⟩, (.ob rfl obR_mp (.ob rfl (obR_it rfl) .nil))⟩⟩
   ·rintro s11 S_3 hI3
    obtain rfl := Option.some.inj hI3
    replace hm := hk3
    try dsimp only at hm
    refine bq_hit (nq (zr (zs (op_moveM .r) (zs (op_lenMapM (l := s8) (fx := (fun q => ((.str q.1), (.int .i64 q.2)))) Tryz.underlying98 .r rfl) (zs (op_gtr (.r rfl) (.r rfl)) (zm rfl (AL.sT rfl rfl rfl rfl (fun g => op_moveD .r) (AL.sT rfl rfl rfl rfl (fun g => op_mulw (.r rfl) (.we g rfl rfl)) (AL.sT rfl rfl rfl rfl (fun g => op_moveM .r) (AL.sT rfl rfl rfl rfl (fun g => op_lenMapM (l := s8) (fx := (fun q => ((.str q.1), (.int .i64 q.2)))) Tryz.underlying98 (.we g rfl) rfl) (AL.sT rfl rfl rfl rfl (fun g => op_mulw (.r rfl) (.we g rfl rfl)) (AL.sT rfl rfl rfl rfl (fun g => op_geq (.we g rfl rfl) (.we g rfl rfl)) (zs (op_and (.r rfl) (fun h => (.we h rfl rfl)) rfl) (za rfl (zn (AW.ret ?_))))))))))))))))
    obtain rfl := Option.some.inj hm
    exact EndQ.d (.tmp .r .nil) rfl rfl

theorem m_editdist_Chars_ok {n : Nat} {a1 : (List UInt8)} {r : (List Int)} (hm : m_editdist_Chars n a1 = some r) : Fn Tryz.prog 81 [(.str a1)] (.sl (r.map D.i)) := by
 unfold m_editdist_Chars at hm
 refine Fn.of_AW (fnn := Tryz.f81) Tryz.func81 rfl (Nat.le_of_ble_eq_true rfl) (fun g0 w0 hw0 => ?_)
 refine AW.reset 0 [(0, .d (.str a1))] [] (WOK.g0 hw0 (by simp)) ⟨[], rfl, rfl, rfl, ⟨(.d rfl), trivial⟩, trivial, .nil⟩ (zr (zs (op_assignN .r) (zn (zr (zs (op_assignN .r) (zn (AW.seq (zr (zm rfl (zs (op_rangeStr (n := 0) Tryz.underlying9 (.r rfl) rfl) (zn (AW.block (AW.tokenize (n := 1) 3 3 1 rfl rfl (by simp) ?_)))))))))))))
 obtain ⟨t_1, hI1, hk1⟩ := bindE hm
 refine AW.loopS (σ := ((List Int) × Nat)) (τ := ((List Int) × Nat)) 0 (fun x => [(3, .tk 1 (x.1.map D.i)), (7, .ptr 0 0)]) (fun x => [.ob (siO a1 x.2), .tok x.1.length 3 1]) hI1 (WOK.g0 hw0 (by simp)) ⟨[0, 1], rfl, rfl, rfl, ⟨(.tk rfl), (.ptr rfl), trivial⟩, trivial, (.ob rfl obR_si (.tok rfl .nil))⟩ ?_
 rintro n1 ⟨s2, s3⟩ hI1
 obtain ⟨y_1, hm, hI1⟩ := iterS hI1
 replace hm : m_editdist_Chars_L1 n _ s2 s3 = some y_1 := hm
 unfold m_editdist_Chars_L1 at hm
 try dsimp only at hm
 refine zr ?_
 obtain ⟨v4, hv4, hm⟩ := bindE hm
 refine zs (op_nextStr .r rfl hv4) (zs (op_exS0 (r := v4) .r) (zn (AW.seq ?_)))
 refine AW.cond (b := _) rfl (fun hc1 => ?_) (fun hc1 => ?_)
 ·replace hm := iteT hc1 hm
  refine AW.skip (nq (AW.block (zr (zs (op_exS2 (r := v4) (by assumption) .r) (za rfl (zn (AW.region (zs (op_moveT .r) (zm rfl (zs (op_conv_int (.r rfl) ⟨_, Tryz.underlying21⟩ Tryz.underlying3) (zs (op_buildSlice (ds := ([(IntKind.i64.wrap v4.2.2.1)] : List Int).map D.i) sl23 (.cons (.r rfl) rfl (En.i.one _) .nil) rfl (by decide)) ?_)))))))))))
  obtain ⟨v5, hv5, hm⟩ := bindE hm
  refine zs (op_appendM (f := D.i) (l' := ([(IntKind.i64.wrap v4.2.2.1)] : List Int)) sl23 .r (.r rfl) rfl rfl En.i hv5) (zs (op_assignT .r) (zn (bq_n ?_)))
  obtain rfl := Option.some.inj hm
  exact nq ⟨_, hI1, ⟨[0, 1], rfl, rfl, rfl, ⟨(.tk rfl), (.ptr rfl), trivial⟩, trivial, (.ob rfl obR_si (.tok rfl .nil))⟩⟩
 ·replace hm := iteF hc1 hm
  refine AW.exit (tq_exit (tq_exit ?_))
  obtain rfl := Option.some.inj hm
  obtain rfl := Option.some.inj hI1
  replace hm := hk1
  try dsimp only at hm
  refine bq_hit (nq (zr (zs (op_moveT .r) (zs (op_assignT .r) (zn (AW.ret ?_))))))
  obtain rfl := Option.some.inj hm
  exact EndQ.d (.tmp .r .nil) rfl rfl

theorem m_editdist_Distance_ok {n : Nat} {a1 : (List Int)} {a2 : (List Int)} {r : Int} (hm : m_editdist_Distance n a1 a2 = some r) : Fn Tryz.prog 80 [(.sl (a1.map D.i)), (.sl (a2.map D.i))] (.int .i64 r) := by
 unfold m_editdist_Distance at hm
 refine Fn.of_AW (fnn := Tryz.f80) Tryz.func80 rfl (Nat.le_of_ble_eq_true rfl) (fun g0 w0 hw0 => ?_)
 refine AW.reset 0 [(0, .d (.sl (a1.map D.i))), (1, .d (.sl (a2.map D.i)))] [] (WOK.g0 hw0 (by simp)) ⟨[], rfl, rfl, rfl, ⟨(.d rfl), (.d rfl), trivial⟩, trivial, .nil⟩ (zr (za rfl (zn (zr (zm rfl (zs (op_lenM (f := D.i) (.r rfl) sl23) (zs (op_addw (.r rfl) (.r rfl)) ?_)))))))
 obtain ⟨v3, hv3, hm⟩ := bindE hm
 refine zs (op_makeM (n := 0) (f := D.i) (.r rfl) sl23 zr3 rfl rfl hv3) (zs (op_assignH .r) (zn (AW.seq (zr (zs (op_moveH .r) (zs (op_len_hs .r rfl sl23) (zm rfl (zn (AW.block ?_)))))))))
 obtain ⟨t_1, hI1, hk1⟩ := bindE hm
 refine AW.loopS (σ := (Int × (List Int))) (τ := (List Int)) 0 (fun x => [(0, .d (.sl (a1.map D.i))), (1, .d (.sl (a2.map D.i))), (5, .hs 0 0 x.2.length 1), (18, .d (.int .i64 (v3.length : Int))), (19, .d (.int .i64 x.1))]) (fun x => [.lst (x.2.map D.i) 3 1]) hI1 (WOK.g0 hw0 (by simp)) ⟨[0], rfl, rfl, rfl, ⟨(.d rfl), (.d rfl), (.hs rfl rfl), (.d rfl), (.d rfl), trivial⟩, trivial, (.lst rfl .nil)⟩ ?_
 rintro n1 ⟨s4, s5⟩ hI1
 obtain ⟨y_1, hm, hI1⟩ := iterS hI1
 replace hm : m_editdist_Distance_L1 n _ s4 s5 = some y_1 := hm
 unfold m_editdist_Distance_L1 at hm
 try dsimp only at hm
 refine zr (zs (op_lss (.r rfl) (.r rfl)) (zn (AW.seq ?_)))
 refine AW.cond (b := _) rfl (fun hc1 => ?_) (fun hc1 => ?_)
 ·replace hm := iteT hc1 hm
  refine AW.skip (nq (AW.seq (AW.block (zr (zm rfl (za rfl (zn (AW.region (zs (op_moveH .r) (zm rfl (zm rfl ?_)))))))))))
  obtain ⟨v6, hv6, hm⟩ := bindE hm
  refine zs (op_indexAddr_hs (f := D.i) (l := s5) .r rfl rfl (.r rfl) hv6 sl23) ?_
  obtain ⟨v7, hv7, hm⟩ := bindE hm
  refine zs (op_store_lp (f := D.i) (fun _ => rfl) .r (.r rfl) rfl hv7 ⟨_, rfl, rfl⟩ En.i) (zn (bq_n (nq (AW.region (zs (op_addw (.r rfl) (.r rfl)) (zm rfl (zn ?_)))))))
  obtain rfl := Option.some.inj hm
  exact nq ⟨_, hI1, ⟨[0], rfl, rfl, rfl, ⟨(.d rfl), (.d rfl), (.hs rfl (setI_len hv7).symm), (.d rfl), (.d rfl), trivial⟩, trivial, (.lst rfl .nil)⟩⟩
 ·replace hm := iteF hc1 hm
  refine AW.exit (tq_exit (tq_exit ?_))
  obtain rfl := Option.some.inj hm
  obtain rfl := Option.some.inj hI1
  replace hm := hk1
  try dsimp only at hm
  refine bq_hit (nq (AW.seq (zr (zm rfl (zs (op_lenM (f := D.i) (.r rfl) sl23) (zm rfl (zn (AW.block ?_))))))))
  obtain ⟨t_2, hI2, hk2⟩ := bindE hm
  refine AW.loopS (σ := (Int × (List Int))) (τ := (List Int)) 0 (fun x => [(1, .d (.sl (a2.map D.i))), (5, .hs 0 0 x.2.length 1), (27, .d (.sl (a1.map D.i))), (28, .d (.int .i64 (a1.length : Int))), (29, .d (.int .i64 x.1))]) (fun x => [.lst (x.2.map D.i) 3 1]) hI2 (WOK.g0 hw0 (by simp)) ⟨[0], rfl, rfl, rfl, ⟨(.d rfl), (.hs rfl rfl), (.d rfl), (.d rfl), (.d rfl), trivial⟩, trivial, (.lst rfl .nil)⟩ ?_
  rintro n2 ⟨s8, s9⟩ hI2
  obtain ⟨y_2, hm, hI2⟩ := iterS hI2
  replace hm : m_editdist_Distance_L2 n _ _ s8 s9 = some y_2 := hm
  unfold m_editdist_Distance_L2 at hm
  try dsimp only at hm
  refine zr (zs (op_lss (.r rfl) (.r rfl)) (zn (AW.seq ?_)))
  refine AW.cond (b := _) rfl (fun hc2 => ?_) (fun hc2 => ?_)
  ·replace hm := iteT hc2 hm
   refine AW.skip (nq (AW.seq (AW.block (zr (zm rfl ?_)))))
   obtain ⟨v10, hv10, hm⟩ := bindE hm
   refine zs (op_indexAddrM (f := D.i) (.r rfl) (.r rfl) hv10 En.i sl23) (zs (op_load_vp1 .r rfl sc3) (za rfl (za rfl (zn (zr (zs (op_moveH .r) ?_))))))
   obtain ⟨v11, hv11, hm⟩ := bindE hm
   refine zs (op_indexAddr_hs (f := D.i) (l := s9) .r rfl rfl (.r rfl) hv11 sl23) ?_
   obtain ⟨v12, hv12, hm⟩ := bindE hm
   refine zs (op_load_lp (f := D.i) (fun _ => rfl) .r rfl hv12 sc3) (za rfl (zn (zr (zs (op_moveH .r) (zm rfl (zs (op_addw (.r rfl) (.r rfl)) ?_))))))
   obtain ⟨v13, hv13, hm⟩ := bindE hm
   refine zs (op_indexAddr_hs (f := D.i) (l := s9) .r rfl rfl (.r rfl) hv13 sl23) ?_
   obtain ⟨v14, hv14, hm⟩ := bindE hm
   refine zs (op_store_lp (f := D.i) (fun _ => rfl) .r (.r rfl) rfl hv14 ⟨_, rfl, rfl⟩ En.i) (zn (zr (zm rfl (zs (op_lenM (f := D.i) (.r rfl) sl23) (zm rfl (zn (AW.block ?_)))))))
   obtain ⟨t_3, hI3, hk3⟩ := bindE hm
   refine AW.loopS (σ := (Int × Int × (List Int))) (τ := (List Int)) 0 (fun x => [(1, .d (.sl (a2.map D.i))), (5, .hs 0 0 x.2.2.length 1), (8, .d (.int .i64 v10)), (9, .d (.int .i64 x.1)), (27, .d (.sl (a1.map D.i))), (28, .d (.int .i64 (a1.length : Int))), (29, .d (.int .i64 s8)), (41, .d (.sl (a2.map D.i))), (42, .d (.int .i64 (a2.length : Int))), (43, .d (.int .i64 x.2.1))]) (fun x => [.lst (x.2.2.map D.i) 3 1]) hI3 (WOK.g0 hw0 (by simp)) ⟨[0], rfl, rfl, rfl, ⟨(.d rfl), (.hs rfl (setI_len hv14).symm), (.d rfl), (.d rfl), (.d rfl), (.d rfl), (.d rfl), (.d rfl), (.d rfl), (.d rfl), trivial⟩, trivial, (.lst rfl .nil)⟩ ?_
   rintro n3 ⟨s15, s16, s17⟩ hI3
   obtain ⟨y_3, hm, hI3⟩ := iterS hI3
   replace hm : m_editdist_Distance_L3 n _ _ s15 s16 s17 = some y_3 := hm
   unfold m_editdist_Distance_L3 at hm
   try dsimp only at hm
   refine zr (zs (op_lss (.r rfl) (.r rfl)) (zn (AW.seq ?_)))
   refine AW.cond (b := _) rfl (fun hc3 => ?_) (fun hc3 => ?_)
   ·replace hm := iteT hc3 hm
    refine AW.skip (nq (AW.seq (AW.block (zr (zm rfl ?_)))))
    obtain ⟨v18, hv18, hm⟩ := bindE hm
    refine zs (op_indexAddrM (f := D.i) (.r rfl) (.r rfl) hv18 En.i sl23) (zs (op_load_vp1 .r rfl sc3) (za rfl (za rfl (zn (zr (zm rfl (za rfl (zn ?_))))))))
    obtain ⟨t_j1, hm, hkj1⟩ := bindE hm
    refine AW.cutS (α := Int) 0 (fun x => x = t_j1) (fun x => [(1, .d (.sl (a2.map D.i))), (5, .hs 0 0 s17.length 1), (8, .d (.int .i64 v10)), (10, .d (.int .i64 s16)), (12, .d (.int .i64 x)), (27, .d (.sl (a1.map D.i))), (28, .d (.int .i64 (a1.length : Int))), (29, .d (.int .i64 s8)), (41, .d (.sl (a2.map D.i))), (42, .d (.int .i64 (a2.length : Int))), (43, .d (.int .i64 s16))]) (fun x => [.lst (s17.map D.i) 3 1]) (WOK.g0 hw0 (by simp)) ?_ ?_
    ·skip
     refine zr (zm rfl (zm rfl (zs (op_neq (.r rfl) (.r rfl)) (zn ?_))))
     refine AW.cond (b := _) rfl (fun hc4 => ?_) (fun hc4 => ?_)
     ·replace hm := iteT hc4 hm
      refine AW.drawn [([], []), ([], []), ([], []), ([0], []), ([0], []), ([], []), ([], []), ([], []), ([0], []), ([0], []), ([], []), ([], []), ([], [])] mo (by decide +kernel) (AD.s (ws := []) rfl rfl (fun H' _ hH => op_moveD .r) (AD.s (ws := []) rfl rfl (fun H' _ hH => op_moveH .r) (AD.s (ws := []) rfl rfl (fun H' _ hH => op_moveD .r) ?_)))
      obtain ⟨v19, hv19, hm⟩ := bindE hm
      refine AD.s (ws := []) rfl rfl (fun H' _ hH => op_indexAddr_hs (f := D.i) (l := s17) .r ((hH _ (by simp)).trans rfl) rfl (.r rfl) hv19 sl23) ?_
      obtain ⟨v20, hv20, hm⟩ := bindE hm
      refine AD.s (ws := []) rfl rfl (fun H' _ hH => op_load_lp (f := D.i) (fun _ => rfl) .r ((hH _ (by simp)).trans rfl) hv20 sc3) (AD.s (ws := []) rfl rfl (fun H' _ hH => op_moveH .r) (AD.s (ws := []) rfl rfl (fun H' _ hH => op_moveD .r) (AD.s (ws := []) rfl rfl (fun H' _ hH => op_addw (.r rfl) (.r rfl)) ?_)))
      obtain ⟨v21, hv21, hm⟩ := bindE hm
      refine AD.s (ws := []) rfl rfl (fun H' _ hH => op_indexAddr_hs (f := D.i) (l := s17) .r ((hH _ (by simp)).trans rfl) rfl (.r rfl) hv21 sl23) ?_
      obtain ⟨v22, hv22, hm⟩ := bindE hm
      refine AD.s (ws := []) rfl rfl (fun H' _ hH => op_load_lp (f := D.i) (fun _ => rfl) .r ((hH _ (by simp)).trans rfl) hv22 sc3) (AD.s (ws := []) rfl rfl (fun H' _ hH => op_min3 (.r rfl) (.r rfl) (.r rfl)) (AD.s (ws := []) rfl rfl (fun H' _ hH => op_addw (.r rfl) (.r rfl)) (AD.s (ws := []) rfl rfl (fun H' _ hH => op_assignD .r) (AD.nil ?_))))
      obtain rfl := Option.some.inj hm
      exact nq ⟨_, rfl, ⟨[0], rfl, rfl, rfl, ⟨(.d rfl), (.hs rfl rfl), (.d rfl), (.d rfl), (.d rfl), (.d rfl), (.d rfl), (.d rfl), (.d rfl), (.d rfl), (.d rfl), trivial⟩, trivial, (.lst rfl .nil)⟩⟩
     ·replace hm := iteF hc4 hm
      refine AW.skip ?_
      obtain rfl := Option.some.inj hm
      exact nq ⟨_, rfl, ⟨[0], rfl, rfl, rfl, ⟨(.d rfl), (.hs rfl rfl), (.d rfl), (.d rfl), (.d rfl), (.d rfl), (.d rfl), (.d rfl), (.d rfl), (.d rfl), (.d rfl), trivial⟩, trivial, (.lst rfl .nil)⟩⟩
    ·rintro s23 rfl
     replace hm := hkj1
     try dsimp only at hm
     refine AW.region (zs (op_moveH .r) (zm rfl (zs (op_addw (.r rfl) (.r rfl)) (zs (op_moveH .r) (zm rfl (zs (op_addw (.r rfl) (.r rfl)) ?_))))))
     obtain ⟨v24, hv24, hm⟩ := bindE hm
     refine zs (op_indexAddr_hs (f := D.i) (l := s17) .r rfl rfl (.r rfl) hv24 sl23) ?_
     obtain ⟨v25, hv25, hm⟩ := bindE hm
     refine zs (op_load_lp (f := D.i) (fun _ => rfl) .r rfl hv25 sc3) (zm rfl (za rfl ?_))
     obtain ⟨v26, hv26, hm⟩ := bindE hm
     refine zs (op_indexAddr_hs (f := D.i) (l := s17) .r rfl rfl (.r rfl) hv26 sl23) ?_
     obtain ⟨v27, hv27, hm⟩ := bindE hm
     refine zs (op_store_lp (f := D.i) (fun _ => rfl) .r (.r rfl) rfl hv27 ⟨_, rfl, rfl⟩ En.i) (zn (bq_n (nq (AW.region (zs (op_addw (.r rfl) (.r rfl)) (zm rfl (zn ?_)))))))
     obtain rfl := Option.some.inj hm
     exact nq ⟨_, hI3, ⟨[0], rfl, rfl, rfl, ⟨(.d rfl), (.hs rfl (setI_len hv27).symm), (.d rfl), (.d rfl), (.d rfl), (.d rfl), (.d rfl), (.d rfl), (.d rfl), (.d rfl), trivial⟩, trivial, (.lst rfl .nil)⟩⟩
   ·replace hm := iteF hc3 hm
    refine AW.exit (tq_exit (tq_exit ?_))
    obtain rfl := Option.some.inj hm
    obtain rfl := Option.some.inj hI3
    replace hm := hk3
    try dsimp only at hm
    refine bq_hit (bq_n (nq (AW.region (zs (op_addw (.r rfl) (.r rfl)) (zm rfl (zn ?_))))))
    obtain rfl := Option.some.inj hm
    exact nq ⟨_, hI2, ⟨[0], rfl, rfl, rfl, ⟨(.d rfl), (.hs rfl rfl), (.d rfl), (.d rfl), (.d rfl), trivial⟩, trivial, (.lst rfl .nil)⟩⟩
  ·replace hm := iteF hc2 hm
   refine AW.exit (tq_exit (tq_exit ?_))
   obtain rfl := Option.some.inj hm
   obtain rfl := Option.some.inj hI2
   replace hm := hk2
   try dsimp only at hm
   refine bq_hit (nq (zr (zs (op_moveH .r) (zm rfl (zs (op_lenM (f := D.i) (.r rfl) sl23) ?_)))))
   obtain ⟨v28, hv28, hm⟩ := bindE hm
   refine zs (op_indexAddr_hs (f := D.i) (l := s9) .r rfl rfl (.r rfl) hv28 sl23) ?_
   obtain ⟨v29, hv29, hm⟩ := bindE hm
   refine zs (op_load_lp (f := D.i) (fun _ => rfl) .r rfl hv29 sc3) (za rfl (zn (AW.ret ?_)))
   obtain rfl := Option.some.inj hm
   exact EndQ.d (.tmp .r .nil) rfl rfl

theorem m_editdist_Text_ok {n : Nat} {a1 : (List UInt8)} {a2 : (List UInt8)} {r : Int} (hm : m_editdist_Text n a1 a2 = some r) : Fn Tryz.prog 48 [(.str a1), (.str a2)] (.int .i64 r) := by
 unfold m_editdist_Text at hm
 refine Fn.of_AW (fnn := Tryz.f48) Tryz.func48 rfl (Nat.le_of_ble_eq_true rfl) (fun g0 w0 hw0 => ?_)
 refine zr (za rfl (zn (zr (zm rfl ?_))))
 obtain ⟨v3, hv3, hm⟩ := bindE hm
 refine zs (op_fn Tryz.call81 .r (.cons (.r rfl) .nil) (m_editdist_Chars_ok hv3)) (zm rfl ?_)
 obtain ⟨v4, hv4, hm⟩ := bindE hm
 refine zs (op_fn Tryz.call81 .r (.cons (.r rfl) .nil) (m_editdist_Chars_ok hv4)) ?_
 obtain ⟨v5, hv5, hm⟩ := bindE hm
 refine zs (op_fn Tryz.call80 .r (.cons (.r rfl) (.cons (.r rfl) .nil)) (m_editdist_Distance_ok hv5)) (za rfl (zn (AW.ret ?_)))
 obtain rfl := Option.some.inj hm
 exact EndQ.d (.tmp .r .nil) rfl rfl

theorem m_match_near_ok {n : Nat} {a1 : (List UInt8)} {a2 : (List UInt8)} {r : Bool} (hm : m_match_near n a1 a2 = some r) : Fn Tryz.prog 22 [(.str a1), (.str a2)] (.bool r) := by
 unfold m_match_near at hm
 refine Fn.of_AW (fnn := Tryz.f22) Tryz.func22 rfl (Nat.le_of_ble_eq_true rfl) (fun g0 w0 hw0 => ?_)
 refine zr (za rfl (zn (zr (zm rfl (zm rfl ?_)))))
 obtain ⟨v3, hv3, hm⟩ := bindE hm
 refine zs (op_fn Tryz.call48 .r (.cons (.r rfl) (.cons (.r rfl) .nil)) (m_editdist_Text_ok hv3)) (zs (op_leq (.r rfl) (.r rfl)) (za rfl (zn (AW.ret ?_))))
 obtain rfl := Option.some.inj hm
 exact EndQ.d (.tmp .r .nil) rfl rfl

theorem m_match_verdict_ok {n : Nat} {a1 : Bool} {a2 : Bool} {r : Int} (hm : m_match_verdict n a1 a2 = some r) : Fn Tryz.prog 19 [(.bool a1), (.bool a2)] (.int .i64 r) := by
 unfold m_match_verdict at hm
 refine Fn.of_AW (fnn := Tryz.f19) Tryz.func19 rfl (Nat.le_of_ble_eq_true rfl) (fun g0 w0 hw0 => ?_)
 refine zr (za rfl (zn (AW.seq (AW.block (zr (zm rfl (za rfl (zn ?_))))))))
 refine AW.cond (b := _) rfl (fun hc1 => ?_) (fun hc1 => ?_)
 ·replace hm := iteT hc1 hm
  refine zr (za rfl (zn (AW.ret (bq_ret (tq_ret ?_)))))
  obtain rfl := Option.some.inj hm
  exact EndQ.d (.tmp .r .nil) rfl rfl
 ·replace hm := iteF hc1 hm
  refine zr (zm rfl (za rfl (zn ?_)))
  refine AW.cond (b := _) rfl (fun hc2 => ?_) (fun hc2 => ?_)
  ·replace hm := iteT hc2 hm
   refine zr (za rfl (zn (AW.ret (bq_ret (tq_ret ?_)))))
   obtain rfl := Option.some.inj hm
   exact EndQ.d (.tmp .r .nil) rfl rfl
  ·replace hm := iteF hc2 hm
   refine AW.skip (bq_n (nq (zr (za rfl (zn (AW.ret ?_))))))
   obtain rfl := Option.some.inj hm
   exact EndQ.d (.tmp .r .nil) rfl rfl

end Go.Proofs.YtgcmhhcopeiomaaGreat.Ab
