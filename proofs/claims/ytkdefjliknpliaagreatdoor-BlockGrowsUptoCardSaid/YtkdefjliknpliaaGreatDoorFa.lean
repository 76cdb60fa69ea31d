/- The functions do what they are in plain Lean. Conditions: none. -/
import Derived.Test.YtkdefjliknpliaaGreatDoorTy
import Derived.Test.YtkdefjliknpliaaGreatDoorMi
import Derived.Test.YtkdefjliknpliaaGreatDoorSo
import Derived.Test.YtkdefjliknpliaaGreatDoorIt
import Derived.Test.YtkdefjliknpliaaGreatDoorEs
set_option maxRecDepth 100000
set_option maxHeartbeats 20000000
namespace Go.Proofs.YtkdefjliknpliaaGreatDoor.Ab
open Go
attribute [local irreducible] AL AD AW nlO nlV nlD
theorem m_block_ids_ok {n : Nat} {a1 : (List Int)} {r : Bool} (hm : m_block_ids n a1 = some r) : Fn Tryz.prog 58 [(.sl (a1.map D.i))] (.bool r) := by
 unfold m_block_ids at hm
 refine Fn.of_AW (fnn := Tryz.f58) Tryz.func58 rfl (Nat.le_of_ble_eq_true rfl) (fun g0 w0 hw0 => ?_)
 refine AW.reset 0 [(0, .d (.sl (a1.map D.i)))] [] (WOK.g0 hw0 (by simp)) ⟨[], rfl, rfl, rfl, ⟨(.d rfl), trivial⟩, trivial, .nil⟩ (zr (za rfl (zn (AW.seq (zr (zm rfl (zs (op_lenM (f := D.i) (.r rfl) sl38) (zm rfl (zn (AW.block ?_))))))))))
 obtain ⟨t_1, hI1, hk1⟩ := bindE hm
 refine AW.loopS (σ := Int) (τ := (Bool ⊕ Unit)) 0 (fun x => [(0, .d (.sl (a1.map D.i))), (5, .d (.sl (a1.map D.i))), (6, .d (.int .i64 (a1.length : Int))), (7, .d (.int .i64 x))]) (fun x => []) hI1 (WOK.g0 hw0 (by simp)) ⟨[], rfl, rfl, rfl, ⟨(.d rfl), (.d rfl), (.d rfl), (.d rfl), trivial⟩, trivial, .nil⟩ ?_
 rintro n1 s2 hI1
 obtain ⟨y_1, hm, hI1⟩ := iterS hI1
 replace hm : m_block_ids_L1 n _ s2 = some y_1 := hm
 unfold m_block_ids_L1 at hm
 try dsimp only at hm
 refine zr (zs (op_lss (.r rfl) (.r rfl)) (zn (AW.seq ?_)))
 refine AW.cond (b := _) rfl (fun hc1 => ?_) (fun hc1 => ?_)
 ·replace hm := iteT hc1 hm
  refine AW.skip (nq (AW.seq (AW.block (zr (zm rfl ?_)))))
  obtain ⟨v3, hv3, hm⟩ := bindE hm
  refine zs (op_indexAddrM (f := D.i) (.r rfl) (.r rfl) hv3 En.i sl38) (zs (op_load_vp1 .r rfl sc3) (za rfl (za rfl (zn (zr (zm rfl (zs (op_lss (.r rfl) (.r rfl)) (zm rfl (AL.sF rfl rfl rfl rfl (fun g => op_moveD .r) (AL.sF rfl rfl rfl rfl (fun g => op_gtr (.we (nt g) rfl rfl) (.r rfl)) (zs (op_or (.r rfl) rfl (fun h => (.we (nt h) rfl rfl))) (zm rfl (AL.sF rfl rfl rfl rfl (fun g => op_moveD .r) (AL.sF rfl rfl rfl rfl (fun g => op_gtr (.we (nt g) rfl rfl) (.r rfl)) (AL.sF rfl rfl rfl rfl (fun g => op_moveD (.we (nt g) rfl)) (AL.sTT rfl rfl rfl rfl (fun gp g => op_moveD .r) (AL.sTT rfl rfl rfl rfl (fun gp g => op_moveD .r) (AL.sTT rfl rfl rfl rfl (fun gp g => op_moveD .r) (AL.sTT rfl rfl rfl rfl (fun gp g => op_subw (.we (an gp g) rfl rfl) (.r rfl)) ?_)))))))))))))))))))
  obtain ⟨v4, hv4, hm⟩ := bindE hm
  refine AL.sTT rfl rfl rfl rfl (fun gp g => op_indexAddrM (f := D.i) (.we (an gp g) rfl rfl) (.we (an gp g) rfl rfl) (iteT (an gp g) hv4) En.i sl38) (AL.sTT rfl rfl rfl rfl (fun gp g => op_load_vp1 (.we (an gp g) rfl) rfl sc3) (AL.sTT rfl rfl rfl rfl (fun gp g => op_leq (.we (an gp g) rfl rfl) (.we (an gp g) rfl rfl)) (AL.sF rfl rfl rfl rfl (fun g => op_and (.we (nt g) rfl rfl) (fun h => (.we (an (nt g) h) rfl rfl)) rfl) (zs (op_or (.r rfl) rfl (fun h => (.we (nt h) rfl rfl))) (zn ?_)))))
  refine AW.cond (b := _) rfl (fun hc2 => ?_) (fun hc2 => ?_)
  ·replace hm := iteT hc2 hm
   refine zr (za rfl (zn (AW.ret (bq_ret (tq_ret (tq_ret ?_))))))
   obtain rfl := Option.some.inj hm
   obtain rfl := Option.some.inj hI1
   replace hm := hk1
   try dsimp only at hm
   refine bq_ret (tq_ret ?_)
   obtain rfl := Option.some.inj hm
   exact EndQ.d (.tmp .r .nil) rfl rfl
  ·replace hm := iteF hc2 hm
   refine AW.skip (bq_n (nq (AW.region (zs (op_addw (.r rfl) (.r rfl)) (zm rfl (zn ?_))))))
   obtain rfl := Option.some.inj hm
   exact nq ⟨_, hI1, ⟨[], rfl, rfl, rfl, ⟨(.d rfl), (.d rfl), (.d rfl), (.d rfl), trivial⟩, trivial, .nil⟩⟩
 ·replace hm := iteF hc1 hm
  refine AW.exit (tq_exit (tq_exit ?_))
  obtain rfl := Option.some.inj hm
  obtain rfl := Option.some.inj hI1
  replace hm := hk1
  try dsimp only at hm
  refine bq_hit (nq (zr (zm rfl (zs (op_lenM (f := D.i) (.r rfl) sl38) (zs (op_gtr (.r rfl) (.r rfl)) (za rfl (zn (AW.ret ?_))))))))
  obtain rfl := Option.some.inj hm
  exact EndQ.d (.tmp .r .nil) rfl rfl
theorem m_block_Valid_ok {n : Nat} {a1 : (List SBlock)} {r : Bool} (hm : m_block_Valid n a1 = some r) : Fn Tryz.prog 27 [(.sl (a1.map SBlock.e))] (.bool r) := by
 unfold m_block_Valid at hm
 refine Fn.of_AW (fnn := Tryz.f27) Tryz.func27 rfl (Nat.le_of_ble_eq_true rfl) (fun g0 w0 hw0 => ?_)
 refine AW.reset 0 [(0, .d (.sl (a1.map SBlock.e)))] [] (WOK.g0 hw0 (by simp)) ⟨[], rfl, rfl, rfl, ⟨(.d rfl), trivial⟩, trivial, .nil⟩ (zr (za rfl (zn (AW.seq (zr (zm rfl (zs (op_lenM (f := SBlock.e) (.r rfl) sl26) (zm rfl (zn (AW.block ?_))))))))))
 obtain ⟨t_1, hI1, hk1⟩ := bindE hm
 refine AW.loopS (σ := Int) (τ := (Bool ⊕ Unit)) 0 (fun x => [(0, .d (.sl (a1.map SBlock.e))), (5, .d (.sl (a1.map SBlock.e))), (6, .d (.int .i64 (a1.length : Int))), (7, .d (.int .i64 x))]) (fun x => []) hI1 (WOK.g0 hw0 (by simp)) ⟨[], rfl, rfl, rfl, ⟨(.d rfl), (.d rfl), (.d rfl), (.d rfl), trivial⟩, trivial, .nil⟩ ?_
 rintro n1 s2 hI1
 obtain ⟨y_1, hm, hI1⟩ := iterS hI1
 replace hm : m_block_Valid_L1 n _ s2 = some y_1 := hm
 unfold m_block_Valid_L1 at hm
 try dsimp only at hm
 refine zr (zs (op_lss (.r rfl) (.r rfl)) (zn (AW.seq ?_)))
 refine AW.cond (b := _) rfl (fun hc1 => ?_) (fun hc1 => ?_)
 ·replace hm := iteT hc1 hm
  refine AW.skip (nq (AW.seq (AW.block (zr (zm rfl ?_)))))
  obtain ⟨v3, hv3, hm⟩ := bindE hm
  refine zs (op_indexAddrM (f := SBlock.e) (.r rfl) (.r rfl) hv3 enSBlock sl26) (zs (op_loadA .r rfl ag75) (zs (op_alloc (n := 0) zr75 rfl) (za rfl (zs (op_store .r .r rfl rfl rfl ⟨_, rfl, rfl⟩ rfl (Nat.le_of_ble_eq_true rfl)) (zn (AW.seqD [([], []), ([0], []), ([], []), ([], []), ([], []), ([], []), ([], []), ([], []), ([0], []), ([], []), ([], []), ([], []), ([], []), ([], []), ([], []), ([], []), ([], []), ([], []), ([], []), ([], []), ([0], []), ([], []), ([], []), ([], [])] mo (by decide +kernel) (AD.s (ws := []) rfl rfl (fun H' _ hH => op_field_ptr .r fd75_0) (AD.s (ws := []) rfl rfl (fun H' _ hH => op_load_ptr1 .r ((hH _ (by simp)).trans rfl) rfl sc9) (AD.s (ws := []) rfl rfl (fun H' _ hH => op_eqlS (.r rfl) (.r rfl)) (AD.s (ws := []) rfl rfl (fun H' _ hH => op_moveD .r) (AD.sF rfl rfl rfl rfl (fun g H' _ hH => op_moveD .r) (AD.sF rfl rfl rfl rfl (fun g H' _ hH => op_gtr (.we (nt g) rfl rfl) (.r rfl)) (AD.sF rfl rfl rfl rfl (fun g H' _ hH => op_moveD (.we (nt g) rfl)) (AD.sTT rfl rfl rfl rfl (fun gp g H' _ hH => op_field_ptr .r fd75_0) (AD.sTT rfl rfl rfl rfl (fun gp g H' _ hH => op_load_ptr1 (.we (an gp g) rfl) ((hH _ (by simp)).trans rfl) rfl sc9) (AD.sTT rfl rfl rfl rfl (fun gp g H' _ hH => op_moveD .r) (AD.sTT rfl rfl rfl rfl (fun gp g H' _ hH => op_moveD .r) (AD.sTT rfl rfl rfl rfl (fun gp g H' _ hH => op_subw (.we (an gp g) rfl rfl) (.r rfl)) ?_))))))))))))))))))
  obtain ⟨v4, hv4, hm⟩ := bindE hm
  refine AD.sTT rfl rfl rfl rfl (fun gp g H' _ hH => op_indexAddrM (f := SBlock.e) (.we (an gp g) rfl rfl) (.we (an gp g) rfl rfl) (iteT (an gp g) hv4) enSBlock sl26) (AD.sTT rfl rfl rfl rfl (fun gp g H' _ hH => op_field_vp (.we (an gp g) rfl) fd75_0) (AD.sTT rfl rfl rfl rfl (fun gp g H' _ hH => op_load_vp1 (.we (an gp g) rfl) rfl sc9) (AD.sTT rfl rfl rfl rfl (fun gp g H' _ hH => op_leqS (.we (an gp g) rfl rfl) (.we (an gp g) rfl rfl)) (AD.sF rfl rfl rfl rfl (fun g H' _ hH => op_and (.we (nt g) rfl rfl) (fun h => (.we (an (nt g) h) rfl rfl)) rfl) (AD.s (ws := []) rfl rfl (fun H' _ hH => op_or (.r rfl) rfl (fun h => (.we (nt h) rfl rfl))) (AD.s (ws := []) rfl rfl (fun H' _ hH => op_moveD .r) (AD.sF rfl rfl rfl rfl (fun g H' _ hH => op_field_ptr .r fd75_1) (AD.sF rfl rfl rfl rfl (fun g H' _ hH => op_load_ptr1 (.we (nt g) rfl) ((hH _ (by simp)).trans rfl) rfl sc38) ?_))))))))
  obtain ⟨v5, hv5, hm⟩ := bindE hm
  refine AD.sF rfl rfl rfl rfl (fun g H' _ hH => op_fn Tryz.call58 .r (.cons (.we (nt g) rfl rfl) .nil) (m_block_ids_ok (iteT (nt g) hv5))) (AD.sF rfl rfl rfl rfl (fun g H' _ hH => op_not (.we (nt g) rfl rfl)) (AD.s (ws := []) rfl rfl (fun H' _ hH => op_or (.r rfl) rfl (fun h => (.we (nt h) rfl rfl))) (AD.nil ?_)))
  refine AW.cond (b := _) rfl (fun hc2 => ?_) (fun hc2 => ?_)
  ·replace hm := iteT hc2 hm
   refine zr (za rfl (zn (AW.ret (bq_ret (tq_ret (tq_ret ?_))))))
   obtain rfl := Option.some.inj hm
   obtain rfl := Option.some.inj hI1
   replace hm := hk1
   try dsimp only at hm
   refine bq_ret (tq_ret ?_)
   obtain rfl := Option.some.inj hm
   exact EndQ.d (.tmp .r .nil) rfl rfl
  ·replace hm := iteF hc2 hm
   refine AW.skip (bq_n (nq (AW.region (zs (op_addw (.r rfl) (.r rfl)) (zm rfl (zn ?_))))))
   obtain rfl := Option.some.inj hm
   exact nq ⟨_, hI1, ⟨[], rfl, rfl, rfl, ⟨(.d rfl), (.d rfl), (.d rfl), (.d rfl), trivial⟩, trivial, .nil⟩⟩
 ·replace hm := iteF hc1 hm
  refine AW.exit (tq_exit (tq_exit ?_))
  obtain rfl := Option.some.inj hm
  obtain rfl := Option.some.inj hI1
  replace hm := hk1
  try dsimp only at hm
  refine bq_hit (nq (zr (za rfl (zn (AW.ret ?_)))))
  obtain rfl := Option.some.inj hm
  exact EndQ.d (.tmp .r .nil) rfl rfl
theorem m_slices_IndexFunc_byte_byte_ok {n : Nat} {H : List HE} {a1 : (List Int)} {p2 : Int → Option Bool} {r : Int} {ff_p2 : FuncId} {caps_p2 : List V} (hff_p2 : ∀ (a : Array Value) (w : World), (callFunc ff_p2 a).run Tryz.prog w = .ok (.enter ff_p2 a) w) (hF_p2 : ∀ (y1 : Int) (b : Bool), p2 y1 = some b → ACall Tryz.prog ff_p2 (.d (.int .u8 y1) :: caps_p2) H fun r' H' => r' = .d (.bool b) ∧ H' = H) (hm : m_slices_IndexFunc_byte_byte n a1 p2 = some r) : ACall Tryz.prog 145 [.d (.sl (a1.map (D.int .u8))), .fn (.func ff_p2) caps_p2] H fun r' H' => r' = .d (.int .i64 r) ∧ H' = H := by
 unfold m_slices_IndexFunc_byte_byte at hm
 refine ACall.of_AW (fnn := Tryz.f145) Tryz.func145 rfl (Nat.le_of_ble_eq_true rfl) (fun g0 w0 hw0 => ?_)
 refine zr (za rfl (zn (AW.seq (zr (zm rfl (zs (op_lenM (f := (D.int .u8)) (.r rfl) sl116) (zm rfl (zn (AW.block ?_)))))))))
 obtain ⟨t_1, hI1, hk1⟩ := bindE hm
 refine AW.loopN (σ := Int) (τ := (Int ⊕ Unit)) [0, 1, 7] (fun x => [(8, .d (.int .i64 x))]) hI1 ⟨by first | exact .of rfl | exact .d rfl, trivial⟩ ?_
 rintro n1 s3 hI1
 obtain ⟨y_1, hm, hI1⟩ := iterS hI1
 replace hm : m_slices_IndexFunc_byte_byte_L1 n _ _ s3 = some y_1 := hm
 unfold m_slices_IndexFunc_byte_byte_L1 at hm
 try dsimp only at hm
 refine zr (zs (op_lss (.r rfl) (.r rfl)) (zn (AW.seq ?_)))
 refine AW.cond (b := _) rfl (fun hc1 => ?_) (fun hc1 => ?_)
 ·replace hm := iteT hc1 hm
  refine AW.skip (nq (AW.seq (AW.block (zr (zm rfl (za rfl (zn (zr (zs (op_moveF .r) (zm rfl (zm rfl ?_)))))))))))
  obtain ⟨v4, hv4, hm⟩ := bindE hm
  refine zs (op_indexAddrM (f := (D.int .u8)) (.r rfl) (.r rfl) hv4 En.int sl116) (zs (op_load_vp1 .r rfl sc5) ?_)
  obtain ⟨v5, hv5, hm⟩ := bindE hm
  refine zs (op_call hff_p2 .r (.cons .r .nil) (hF_p2 _ _ hv5)) (zn ?_)
  refine AW.cond (b := _) rfl (fun hc2 => ?_) (fun hc2 => ?_)
  ·replace hm := iteT hc2 hm
   refine zr (zm rfl (za rfl (zn (AW.ret (bq_ret (tq_ret (tq_ret ?_)))))))
   obtain rfl := Option.some.inj hm
   obtain rfl := Option.some.inj hI1
   replace hm := hk1
   try dsimp only at hm
   refine bq_ret (tq_ret ?_)
   obtain rfl := Option.some.inj hm
   exact ⟨_, _, (.tmp .r .nil), .d rfl, rfl, rfl⟩
  ·replace hm := iteF hc2 hm
   refine AW.skip (bq_n (nq (AW.region (zs (op_addw (.r rfl) (.r rfl)) (zm rfl (zn ?_))))))
   obtain rfl := Option.some.inj hm
   exact nq ⟨_, hI1, ⟨by first | exact .of rfl | exact .d rfl, trivial⟩, ⟨rfl, rfl, rfl, trivial⟩, rfl⟩
 ·replace hm := iteF hc1 hm
  refine AW.exit (tq_exit (tq_exit ?_))
  obtain rfl := Option.some.inj hm
  obtain rfl := Option.some.inj hI1
  replace hm := hk1
  try dsimp only at hm
  refine bq_hit (nq (zr (za rfl (zn (AW.ret ?_)))))
  obtain rfl := Option.some.inj hm
  exact ⟨_, _, (.tmp .r .nil), .d rfl, rfl, rfl⟩
theorem m_slices_ContainsFunc_byte_byte_ok {n : Nat} {H : List HE} {a1 : (List Int)} {p2 : Int → Option Bool} {r : Bool} {ff_p2 : FuncId} {caps_p2 : List V} (hff_p2 : ∀ (a : Array Value) (w : World), (callFunc ff_p2 a).run Tryz.prog w = .ok (.enter ff_p2 a) w) (hF_p2 : ∀ (y1 : Int) (b : Bool), p2 y1 = some b → ACall Tryz.prog ff_p2 (.d (.int .u8 y1) :: caps_p2) H fun r' H' => r' = .d (.bool b) ∧ H' = H) (hm : m_slices_ContainsFunc_byte_byte n a1 p2 = some r) : ACall Tryz.prog 102 [.d (.sl (a1.map (D.int .u8))), .fn (.func ff_p2) caps_p2] H fun r' H' => r' = .d (.bool r) ∧ H' = H := by
 unfold m_slices_ContainsFunc_byte_byte at hm
 refine ACall.of_AW (fnn := Tryz.f102) Tryz.func102 rfl (Nat.le_of_ble_eq_true rfl) (fun g0 w0 hw0 => ?_)
 refine zr (za rfl (zn (zr (zm rfl (zs (op_moveF .r) ?_)))))
 obtain ⟨v3, hv3, hm⟩ := bindE hm
 refine zs (op_call Tryz.call145 .r (.cons .r (.cons .r .nil)) (m_slices_IndexFunc_byte_byte_ok hff_p2 hF_p2 hv3)) (zs (op_geq (.r rfl) (.r rfl)) (za rfl (zn (AW.ret ?_))))
 obtain rfl := Option.some.inj hm
 exact ⟨_, _, (.tmp .r .nil), .d rfl, rfl, rfl⟩
theorem m_feature_only_1_ok {n : Nat} {a1 : Int} {c2 : Int} {c3 : Int} {r : Bool} (hm : m_feature_only_1 n a1 c2 c3 = some r) : FnR Tryz.prog 103 [.d (.int .u8 a1), .ptr 0 0, .ptr 1 0] [.row [.d (.int .u8 c2)], .row [.d (.int .u8 c3)]] (.bool r) := by
 unfold m_feature_only_1 at hm
 refine ACall.of_AW (fnn := Tryz.f103) Tryz.func103 rfl (Nat.le_of_ble_eq_true rfl) (fun g0 w0 hw0 => ?_)
 refine zr (za rfl (zn (zr (zm rfl (zs (op_load_ptr1 .r rfl rfl sc5) (zs (op_lss (.r rfl) (.r rfl)) (zm rfl (AL.sF rfl rfl rfl rfl (fun g => op_moveD .r) (AL.sF rfl rfl rfl rfl (fun g => op_load_ptr1 .r rfl rfl sc5) (AL.sF rfl rfl rfl rfl (fun g => op_gtr (.we (nt g) rfl rfl) (.we (nt g) rfl rfl)) (zs (op_or (.r rfl) rfl (fun h => (.we (nt h) rfl rfl))) (za rfl (zn (AW.ret ?_))))))))))))))
 obtain rfl := Option.some.inj hm
 exact ⟨_, _, (.tmp .r .nil), .d rfl, rfl, rfl⟩
theorem m_feature_only_ok {n : Nat} {a1 : (List UInt8)} {a2 : Int} {a3 : Int} {r : Bool} (hm : m_feature_only n a1 a2 a3 = some r) : Fn Tryz.prog 69 [(.str a1), (.int .u8 a2), (.int .u8 a3)] (.bool r) := by
 unfold m_feature_only at hm
 refine Fn.of_AW (fnn := Tryz.f69) Tryz.func69 rfl (Nat.le_of_ble_eq_true rfl) (fun g0 w0 hw0 => ?_)
 refine zr (zs (op_box (n := 0) .r rfl rfl rfl) (zs (op_box (n := 1) .r rfl rfl rfl) (za rfl (zn (zr (zm rfl (zs (op_bytesM (.r rfl) Tryz.underlying9 Tryz.underlying116 Tryz.underlying5) (zs (op_makeFunc (.cons .r (.cons .r .nil))) ?_))))))))
 obtain ⟨v4, hv4, hm⟩ := bindE hm
 refine zs (op_call Tryz.call102 .r (.cons .r (.cons .r .nil)) (m_slices_ContainsFunc_byte_byte_ok Tryz.call103 (fun _ _ hb => FnR.at [0, 1] (m_feature_only_1_ok hb) (.cons rfl rfl (.cons rfl rfl .nil)) (.cons (.d _) (.cons (.ptr rfl) (.cons (.ptr rfl) .nil))) rfl) hv4)) (zs (op_not (.r rfl)) (za rfl (zn (AW.ret ?_))))
 obtain rfl := Option.some.inj hm
 exact EndQ.d (.tmp .r .nil) rfl rfl
theorem m_slices_IndexFunc_string_string_ok {n : Nat} {H : List HE} {a1 : (List (List UInt8))} {p2 : (List UInt8) → Option Bool} {r : Int} {ff_p2 : FuncId} {caps_p2 : List V} (hff_p2 : ∀ (a : Array Value) (w : World), (callFunc ff_p2 a).run Tryz.prog w = .ok (.enter ff_p2 a) w) (hF_p2 : ∀ (y1 : (List UInt8)) (b : Bool), p2 y1 = some b → ACall Tryz.prog ff_p2 (.d (.str y1) :: caps_p2) H fun r' H' => r' = .d (.bool b) ∧ H' = H) (hm : m_slices_IndexFunc_string_string n a1 p2 = some r) : ACall Tryz.prog 104 [.d (.sl (a1.map D.str)), .fn (.func ff_p2) caps_p2] H fun r' H' => r' = .d (.int .i64 r) ∧ H' = H := by
 unfold m_slices_IndexFunc_string_string at hm
 refine ACall.of_AW (fnn := Tryz.f104) Tryz.func104 rfl (Nat.le_of_ble_eq_true rfl) (fun g0 w0 hw0 => ?_)
 refine zr (za rfl (zn (AW.seq (zr (zm rfl (zs (op_lenM (f := D.str) (.r rfl) sl37) (zm rfl (zn (AW.block ?_)))))))))
 obtain ⟨t_1, hI1, hk1⟩ := bindE hm
 refine AW.loopN (σ := Int) (τ := (Int ⊕ Unit)) [0, 1, 7] (fun x => [(8, .d (.int .i64 x))]) hI1 ⟨by first | exact .of rfl | exact .d rfl, trivial⟩ ?_
 rintro n1 s3 hI1
 obtain ⟨y_1, hm, hI1⟩ := iterS hI1
 replace hm : m_slices_IndexFunc_string_string_L1 n _ _ s3 = some y_1 := hm
 unfold m_slices_IndexFunc_string_string_L1 at hm
 try dsimp only at hm
 refine zr (zs (op_lss (.r rfl) (.r rfl)) (zn (AW.seq ?_)))
 refine AW.cond (b := _) rfl (fun hc1 => ?_) (fun hc1 => ?_)
 ·replace hm := iteT hc1 hm
  refine AW.skip (nq (AW.seq (AW.block (zr (zm rfl (za rfl (zn (zr (zs (op_moveF .r) (zm rfl (zm rfl ?_)))))))))))
  obtain ⟨v4, hv4, hm⟩ := bindE hm
  refine zs (op_indexAddrM (f := D.str) (.r rfl) (.r rfl) hv4 En.str sl37) (zs (op_load_vp1 .r rfl sc9) ?_)
  obtain ⟨v5, hv5, hm⟩ := bindE hm
  refine zs (op_call hff_p2 .r (.cons .r .nil) (hF_p2 _ _ hv5)) (zn ?_)
  refine AW.cond (b := _) rfl (fun hc2 => ?_) (fun hc2 => ?_)
  ·replace hm := iteT hc2 hm
   refine zr (zm rfl (za rfl (zn (AW.ret (bq_ret (tq_ret (tq_ret ?_)))))))
   obtain rfl := Option.some.inj hm
   obtain rfl := Option.some.inj hI1
   replace hm := hk1
   try dsimp only at hm
   refine bq_ret (tq_ret ?_)
   obtain rfl := Option.some.inj hm
   exact ⟨_, _, (.tmp .r .nil), .d rfl, rfl, rfl⟩
  ·replace hm := iteF hc2 hm
   refine AW.skip (bq_n (nq (AW.region (zs (op_addw (.r rfl) (.r rfl)) (zm rfl (zn ?_))))))
   obtain rfl := Option.some.inj hm
   exact nq ⟨_, hI1, ⟨by first | exact .of rfl | exact .d rfl, trivial⟩, ⟨rfl, rfl, rfl, trivial⟩, rfl⟩
 ·replace hm := iteF hc1 hm
  refine AW.exit (tq_exit (tq_exit ?_))
  obtain rfl := Option.some.inj hm
  obtain rfl := Option.some.inj hI1
  replace hm := hk1
  try dsimp only at hm
  refine bq_hit (nq (zr (za rfl (zn (AW.ret ?_)))))
  obtain rfl := Option.some.inj hm
  exact ⟨_, _, (.tmp .r .nil), .d rfl, rfl, rfl⟩
theorem m_slices_ContainsFunc_string_string_ok {n : Nat} {H : List HE} {a1 : (List (List UInt8))} {p2 : (List UInt8) → Option Bool} {r : Bool} {ff_p2 : FuncId} {caps_p2 : List V} (hff_p2 : ∀ (a : Array Value) (w : World), (callFunc ff_p2 a).run Tryz.prog w = .ok (.enter ff_p2 a) w) (hF_p2 : ∀ (y1 : (List UInt8)) (b : Bool), p2 y1 = some b → ACall Tryz.prog ff_p2 (.d (.str y1) :: caps_p2) H fun r' H' => r' = .d (.bool b) ∧ H' = H) (hm : m_slices_ContainsFunc_string_string n a1 p2 = some r) : ACall Tryz.prog 70 [.d (.sl (a1.map D.str)), .fn (.func ff_p2) caps_p2] H fun r' H' => r' = .d (.bool r) ∧ H' = H := by
 unfold m_slices_ContainsFunc_string_string at hm
 refine ACall.of_AW (fnn := Tryz.f70) Tryz.func70 rfl (Nat.le_of_ble_eq_true rfl) (fun g0 w0 hw0 => ?_)
 refine zr (za rfl (zn (zr (zm rfl (zs (op_moveF .r) ?_)))))
 obtain ⟨v3, hv3, hm⟩ := bindE hm
 refine zs (op_call Tryz.call104 .r (.cons .r (.cons .r .nil)) (m_slices_IndexFunc_string_string_ok hff_p2 hF_p2 hv3)) (zs (op_geq (.r rfl) (.r rfl)) (za rfl (zn (AW.ret ?_))))
 obtain rfl := Option.some.inj hm
 exact ⟨_, _, (.tmp .r .nil), .d rfl, rfl, rfl⟩
theorem m_feature_word_ok {n : Nat} {a1 : (List UInt8)} {r : Bool} (hm : m_feature_word n a1 = some r) : Fn Tryz.prog 72 [(.str a1)] (.bool r) := by
 unfold m_feature_word at hm
 refine Fn.of_AW (fnn := Tryz.f72) Tryz.func72 rfl (Nat.le_of_ble_eq_true rfl) (fun g0 w0 hw0 => ?_)
 refine zr (za rfl (zn (zr (zm rfl (zs (op_neqS (.r rfl) (.r rfl)) (zm rfl (AL.sT rfl rfl rfl rfl (fun g => op_moveD .r) (AL.sT rfl rfl rfl rfl (fun g => op_lenS (.we g rfl rfl) Tryz.underlying9) (AL.sT rfl rfl rfl rfl (fun g => op_leq (.we g rfl rfl) (.r rfl)) (zs (op_and (.r rfl) (fun h => (.we h rfl rfl)) rfl) (zm rfl (AL.sT rfl rfl rfl rfl (fun g => op_moveD .r) ?_))))))))))))
 obtain ⟨v2, hv2, hm⟩ := bindE hm
 refine AL.sT rfl rfl rfl rfl (fun g => op_fn Tryz.call69 .r (.cons (.we g rfl rfl) (.cons (.r rfl) (.cons (.r rfl) .nil))) (m_feature_only_ok (iteT g hv2))) (zs (op_and (.r rfl) (fun h => (.we h rfl rfl)) rfl) (za rfl (zn (AW.ret ?_))))
 obtain rfl := Option.some.inj hm
 exact EndQ.d (.tmp .r .nil) rfl rfl
theorem m_feature_Valid_1_ok {n : Nat} {a1 : (List UInt8)} {r : Bool} (hm : m_feature_Valid_1 n a1 = some r) : Fn Tryz.prog 71 [(.str a1)] (.bool r) := by
 unfold m_feature_Valid_1 at hm
 refine Fn.of_AW (fnn := Tryz.f71) Tryz.func71 rfl (Nat.le_of_ble_eq_true rfl) (fun g0 w0 hw0 => ?_)
 refine zr (za rfl (zn (zr (zm rfl ?_))))
 obtain ⟨v2, hv2, hm⟩ := bindE hm
 refine zs (op_fn Tryz.call72 .r (.cons (.r rfl) .nil) (m_feature_word_ok hv2)) (zs (op_not (.r rfl)) (za rfl (zn (AW.ret ?_))))
 obtain rfl := Option.some.inj hm
 exact EndQ.d (.tmp .r .nil) rfl rfl
theorem m_feature_years_ok {n : Nat} {a1 : (List Int)} {r : Bool} (hm : m_feature_years n a1 = some r) : Fn Tryz.prog 73 [(.sl (a1.map D.i))] (.bool r) := by
 unfold m_feature_years at hm
 refine Fn.of_AW (fnn := Tryz.f73) Tryz.func73 rfl (Nat.le_of_ble_eq_true rfl) (fun g0 w0 hw0 => ?_)
 refine AW.reset 0 [(0, .d (.sl (a1.map D.i)))] [] (WOK.g0 hw0 (by simp)) ⟨[], rfl, rfl, rfl, ⟨(.d rfl), trivial⟩, trivial, .nil⟩ (zr (za rfl (zn (AW.seq (zr (zm rfl (zs (op_lenM (f := D.i) (.r rfl) sl38) (zm rfl (zn (AW.block ?_))))))))))
 obtain ⟨t_1, hI1, hk1⟩ := bindE hm
 refine AW.loopS (σ := Int) (τ := (Bool ⊕ Unit)) 0 (fun x => [(0, .d (.sl (a1.map D.i))), (5, .d (.sl (a1.map D.i))), (6, .d (.int .i64 (a1.length : Int))), (7, .d (.int .i64 x))]) (fun x => []) hI1 (WOK.g0 hw0 (by simp)) ⟨[], rfl, rfl, rfl, ⟨(.d rfl), (.d rfl), (.d rfl), (.d rfl), trivial⟩, trivial, .nil⟩ ?_
 rintro n1 s2 hI1
 obtain ⟨y_1, hm, hI1⟩ := iterS hI1
 replace hm : m_feature_years_L1 n _ s2 = some y_1 := hm
 unfold m_feature_years_L1 at hm
 try dsimp only at hm
 refine zr (zs (op_lss (.r rfl) (.r rfl)) (zn (AW.seq ?_)))
 refine AW.cond (b := _) rfl (fun hc1 => ?_) (fun hc1 => ?_)
 ·replace hm := iteT hc1 hm
  refine AW.skip (nq (AW.seq (AW.block (zr (zm rfl ?_)))))
  obtain ⟨v3, hv3, hm⟩ := bindE hm
  refine zs (op_indexAddrM (f := D.i) (.r rfl) (.r rfl) hv3 En.i sl38) (zs (op_load_vp1 .r rfl sc3) (za rfl (za rfl (zn (zr (zm rfl (zs (op_lss (.r rfl) (.r rfl)) (zm rfl (AL.sF rfl rfl rfl rfl (fun g => op_moveD .r) (AL.sF rfl rfl rfl rfl (fun g => op_gtr (.we (nt g) rfl rfl) (.r rfl)) (zs (op_or (.r rfl) rfl (fun h => (.we (nt h) rfl rfl))) (zm rfl (AL.sF rfl rfl rfl rfl (fun g => op_moveD .r) (AL.sF rfl rfl rfl rfl (fun g => op_gtr (.we (nt g) rfl rfl) (.r rfl)) (AL.sF rfl rfl rfl rfl (fun g => op_moveD (.we (nt g) rfl)) (AL.sTT rfl rfl rfl rfl (fun gp g => op_moveD .r) (AL.sTT rfl rfl rfl rfl (fun gp g => op_moveD .r) (AL.sTT rfl rfl rfl rfl (fun gp g => op_moveD .r) (AL.sTT rfl rfl rfl rfl (fun gp g => op_subw (.we (an gp g) rfl rfl) (.r rfl)) ?_)))))))))))))))))))
  obtain ⟨v4, hv4, hm⟩ := bindE hm
  refine AL.sTT rfl rfl rfl rfl (fun gp g => op_indexAddrM (f := D.i) (.we (an gp g) rfl rfl) (.we (an gp g) rfl rfl) (iteT (an gp g) hv4) En.i sl38) (AL.sTT rfl rfl rfl rfl (fun gp g => op_load_vp1 (.we (an gp g) rfl) rfl sc3) (AL.sTT rfl rfl rfl rfl (fun gp g => op_leq (.we (an gp g) rfl rfl) (.we (an gp g) rfl rfl)) (AL.sF rfl rfl rfl rfl (fun g => op_and (.we (nt g) rfl rfl) (fun h => (.we (an (nt g) h) rfl rfl)) rfl) (zs (op_or (.r rfl) rfl (fun h => (.we (nt h) rfl rfl))) (zn ?_)))))
  refine AW.cond (b := _) rfl (fun hc2 => ?_) (fun hc2 => ?_)
  ·replace hm := iteT hc2 hm
   refine zr (za rfl (zn (AW.ret (bq_ret (tq_ret (tq_ret ?_))))))
   obtain rfl := Option.some.inj hm
   obtain rfl := Option.some.inj hI1
   replace hm := hk1
   try dsimp only at hm
   refine bq_ret (tq_ret ?_)
   obtain rfl := Option.some.inj hm
   exact EndQ.d (.tmp .r .nil) rfl rfl
  ·replace hm := iteF hc2 hm
   refine AW.skip (bq_n (nq (AW.region (zs (op_addw (.r rfl) (.r rfl)) (zm rfl (zn ?_))))))
   obtain rfl := Option.some.inj hm
   exact nq ⟨_, hI1, ⟨[], rfl, rfl, rfl, ⟨(.d rfl), (.d rfl), (.d rfl), (.d rfl), trivial⟩, trivial, .nil⟩⟩
 ·replace hm := iteF hc1 hm
  refine AW.exit (tq_exit (tq_exit ?_))
  obtain rfl := Option.some.inj hm
  obtain rfl := Option.some.inj hI1
  replace hm := hk1
  try dsimp only at hm
  refine bq_hit (nq (zr (zm rfl (zs (op_lenM (f := D.i) (.r rfl) sl38) (zs (op_leq (.r rfl) (.r rfl)) (za rfl (zn (AW.ret ?_))))))))
  obtain rfl := Option.some.inj hm
  exact EndQ.d (.tmp .r .nil) rfl rfl
theorem m_feature_set_ok {n : Nat} {H : List HE} {a1 : (List (List UInt8))} {a2 : Int} {p3 : (List UInt8) → Option Bool} {r : Bool} {ff_p3 : FuncId} {caps_p3 : List V} (hff_p3 : ∀ (a : Array Value) (w : World), (callFunc ff_p3 a).run Tryz.prog w = .ok (.enter ff_p3 a) w) (hF_p3 : ∀ (y1 : (List UInt8)) (b : Bool), p3 y1 = some b → ACall Tryz.prog ff_p3 (.d (.str y1) :: caps_p3) H fun r' H' => r' = .d (.bool b) ∧ H' = H) (hm : m_feature_set n a1 a2 p3 = some r) : ACall Tryz.prog 74 [.d (.sl (a1.map D.str)), .d (.int .i64 a2), .fn (.func ff_p3) caps_p3] H fun r' H' => r' = .d (.bool r) ∧ H' = H := by
 unfold m_feature_set at hm
 refine ACall.of_AW (fnn := Tryz.f74) Tryz.func74 rfl (Nat.le_of_ble_eq_true rfl) (fun g0 w0 hw0 => ?_)
 refine zr (za rfl (zn (AW.seq (zr (zm rfl (zs (op_lenM (f := D.str) (.r rfl) sl37) (zm rfl (zn (AW.block ?_)))))))))
 obtain ⟨t_1, hI1, hk1⟩ := bindE hm
 refine AW.loopN (σ := Int) (τ := (Bool ⊕ Unit)) [0, 1, 2, 9, 10] (fun x => [(11, .d (.int .i64 x))]) hI1 ⟨by first | exact .of rfl | exact .d rfl, trivial⟩ ?_
 rintro n1 s4 hI1
 obtain ⟨y_1, hm, hI1⟩ := iterS hI1
 replace hm : m_feature_set_L1 n _ _ s4 = some y_1 := hm
 unfold m_feature_set_L1 at hm
 try dsimp only at hm
 refine zr (zs (op_lss (.r rfl) (.r rfl)) (zn (AW.seq ?_)))
 refine AW.cond (b := _) rfl (fun hc1 => ?_) (fun hc1 => ?_)
 ·replace hm := iteT hc1 hm
  refine AW.skip (nq (AW.seq (AW.block (zr (zm rfl ?_)))))
  obtain ⟨v5, hv5, hm⟩ := bindE hm
  refine zs (op_indexAddrM (f := D.str) (.r rfl) (.r rfl) hv5 En.str sl37) (zs (op_load_vp1 .r rfl sc9) (za rfl (za rfl (zn (zr (zs (op_moveF .r) (zm rfl ?_)))))))
  obtain ⟨v6, hv6, hm⟩ := bindE hm
  refine zs (op_call hff_p3 .r (.cons .r .nil) (hF_p3 _ _ hv6)) (zs (op_not (.r rfl)) (zm rfl (AL.sF rfl rfl rfl rfl (fun g => op_moveD .r) (AL.sF rfl rfl rfl rfl (fun g => op_gtr (.we (nt g) rfl rfl) (.r rfl)) (AL.sF rfl rfl rfl rfl (fun g => op_moveD (.we (nt g) rfl)) (AL.sTT rfl rfl rfl rfl (fun gp g => op_moveD .r) (AL.sTT rfl rfl rfl rfl (fun gp g => op_moveD .r) (AL.sTT rfl rfl rfl rfl (fun gp g => op_moveD .r) (AL.sTT rfl rfl rfl rfl (fun gp g => op_subw (.we (an gp g) rfl rfl) (.r rfl)) ?_)))))))))
  obtain ⟨v7, hv7, hm⟩ := bindE hm
  refine AL.sTT rfl rfl rfl rfl (fun gp g => op_indexAddrM (f := D.str) (.we (an gp g) rfl rfl) (.we (an gp g) rfl rfl) (iteT (an gp g) hv7) En.str sl37) (AL.sTT rfl rfl rfl rfl (fun gp g => op_load_vp1 (.we (an gp g) rfl) rfl sc9) (AL.sTT rfl rfl rfl rfl (fun gp g => op_leqS (.we (an gp g) rfl rfl) (.we (an gp g) rfl rfl)) (AL.sF rfl rfl rfl rfl (fun g => op_and (.we (nt g) rfl rfl) (fun h => (.we (an (nt g) h) rfl rfl)) rfl) (zs (op_or (.r rfl) rfl (fun h => (.we (nt h) rfl rfl))) (zn ?_)))))
  refine AW.cond (b := _) rfl (fun hc2 => ?_) (fun hc2 => ?_)
  ·replace hm := iteT hc2 hm
   refine zr (za rfl (zn (AW.ret (bq_ret (tq_ret (tq_ret ?_))))))
   obtain rfl := Option.some.inj hm
   obtain rfl := Option.some.inj hI1
   replace hm := hk1
   try dsimp only at hm
   refine bq_ret (tq_ret ?_)
   obtain rfl := Option.some.inj hm
   exact ⟨_, _, (.tmp .r .nil), .d rfl, rfl, rfl⟩
  ·replace hm := iteF hc2 hm
   refine AW.skip (bq_n (nq (AW.region (zs (op_addw (.r rfl) (.r rfl)) (zm rfl (zn ?_))))))
   obtain rfl := Option.some.inj hm
   exact nq ⟨_, hI1, ⟨by first | exact .of rfl | exact .d rfl, trivial⟩, ⟨rfl, rfl, rfl, rfl, rfl, trivial⟩, rfl⟩
 ·replace hm := iteF hc1 hm
  refine AW.exit (tq_exit (tq_exit ?_))
  obtain rfl := Option.some.inj hm
  obtain rfl := Option.some.inj hI1
  replace hm := hk1
  try dsimp only at hm
  refine bq_hit (nq (zr (zm rfl (zs (op_lenM (f := D.str) (.r rfl) sl37) (zm rfl (zs (op_leq (.r rfl) (.r rfl)) (za rfl (zn (AW.ret ?_)))))))))
  obtain rfl := Option.some.inj hm
  exact ⟨_, _, (.tmp .r .nil), .d rfl, rfl, rfl⟩
theorem m_feature_isbn_ok {n : Nat} {a1 : (List UInt8)} {r : Bool} (hm : m_feature_isbn n a1 = some r) : Fn Tryz.prog 75 [(.str a1)] (.bool r) := by
 unfold m_feature_isbn at hm
 refine Fn.of_AW (fnn := Tryz.f75) Tryz.func75 rfl (Nat.le_of_ble_eq_true rfl) (fun g0 w0 hw0 => ?_)
 refine zr (za rfl (zn (zr (zm rfl (zs (op_lenS (.r rfl) Tryz.underlying9) (zs (op_eql (.r rfl) (.r rfl)) (zm rfl (AL.sT rfl rfl rfl rfl (fun g => op_moveD .r) ?_))))))))
 obtain ⟨v2, hv2, hm⟩ := bindE hm
 refine AL.sT rfl rfl rfl rfl (fun g => op_fn Tryz.call69 .r (.cons (.we g rfl rfl) (.cons (.r rfl) (.cons (.r rfl) .nil))) (m_feature_only_ok (iteT g hv2))) (zs (op_and (.r rfl) (fun h => (.we h rfl rfl)) rfl) (za rfl (zn (AW.ret ?_))))
 obtain rfl := Option.some.inj hm
 exact EndQ.d (.tmp .r .nil) rfl rfl
theorem m_feature_lang_ok {n : Nat} {a1 : (List UInt8)} {r : Bool} (hm : m_feature_lang n a1 = some r) : Fn Tryz.prog 76 [(.str a1)] (.bool r) := by
 unfold m_feature_lang at hm
 refine Fn.of_AW (fnn := Tryz.f76) Tryz.func76 rfl (Nat.le_of_ble_eq_true rfl) (fun g0 w0 hw0 => ?_)
 refine zr (za rfl (zn (zr (zm rfl (zs (op_lenS (.r rfl) Tryz.underlying9) (zs (op_eql (.r rfl) (.r rfl)) (zm rfl (AL.sT rfl rfl rfl rfl (fun g => op_moveD .r) ?_))))))))
 obtain ⟨v2, hv2, hm⟩ := bindE hm
 refine AL.sT rfl rfl rfl rfl (fun g => op_fn Tryz.call69 .r (.cons (.we g rfl rfl) (.cons (.r rfl) (.cons (.r rfl) .nil))) (m_feature_only_ok (iteT g hv2))) (zs (op_and (.r rfl) (fun h => (.we h rfl rfl)) rfl) (za rfl (zn (AW.ret ?_))))
 obtain rfl := Option.some.inj hm
 exact EndQ.d (.tmp .r .nil) rfl rfl
theorem m_feature_Valid_ok {n : Nat} {a1 : SFeatures} {r : Bool} (hm : m_feature_Valid n a1 = some r) : Fn Tryz.prog 42 [(SFeatures.e a1)] (.bool r) := by
 unfold m_feature_Valid at hm
 refine Fn.of_AW (fnn := Tryz.f42) Tryz.func42 rfl (Nat.le_of_ble_eq_true rfl) (fun g0 w0 hw0 => ?_)
 refine AW.reset 0 [(0, .d (SFeatures.e a1))] [] (WOK.g0 hw0 (by simp)) ⟨[], rfl, rfl, rfl, ⟨(.d rfl), trivial⟩, trivial, .nil⟩ (zr (zs (op_box (n := 0) .r rfl rfl rfl) (za rfl (zn (AW.seq (zr (zs (op_field_ptr .r fd43_0) (zs (op_load_ptr1 .r rfl rfl sc3) (zs (op_lss (.r rfl) (.r rfl)) (zm rfl (AL.sF rfl rfl rfl rfl (fun g => op_field_ptr .r fd43_0) (AL.sF rfl rfl rfl rfl (fun g => op_load_ptr1 (.we (nt g) rfl) rfl rfl sc3) (AL.sF rfl rfl rfl rfl (fun g => op_gtr (.we (nt g) rfl rfl) (.r rfl)) (zs (op_or (.r rfl) rfl (fun h => (.we (nt h) rfl rfl))) (zm rfl (AL.sF rfl rfl rfl rfl (fun g => op_field_ptr .r fd43_1) (AL.sF rfl rfl rfl rfl (fun g => op_load_ptr1 (.we (nt g) rfl) rfl rfl sc37) (AL.sF rfl rfl rfl rfl (fun g => op_lenM (f := D.str) (.we (nt g) rfl rfl) sl37) (AL.sF rfl rfl rfl rfl (fun g => op_gtr (.we (nt g) rfl rfl) (.r rfl)) (zs (op_or (.r rfl) rfl (fun h => (.we (nt h) rfl rfl))) (zm rfl (AL.sF rfl rfl rfl rfl (fun g => op_field_ptr .r fd43_2) (AL.sF rfl rfl rfl rfl (fun g => op_load_ptr1 (.we (nt g) rfl) rfl rfl sc9) (AL.sF rfl rfl rfl rfl (fun g => op_lenS (.we (nt g) rfl rfl) Tryz.underlying9) (AL.sF rfl rfl rfl rfl (fun g => op_gtr (.we (nt g) rfl rfl) (.r rfl)) (zs (op_or (.r rfl) rfl (fun h => (.we (nt h) rfl rfl))) (zm rfl (AL.sF rfl rfl rfl rfl (fun g => op_field_ptr .r fd43_2) (AL.sF rfl rfl rfl rfl (fun g => op_load_ptr1 (.we (nt g) rfl) rfl rfl sc9) ?_)))))))))))))))))))))))))))))
 obtain ⟨v2, hv2, hm⟩ := bindE hm
 refine AL.sF rfl rfl rfl rfl (fun g => op_fn Tryz.call69 .r (.cons (.we (nt g) rfl rfl) (.cons (.r rfl) (.cons (.r rfl) .nil))) (m_feature_only_ok (iteT (nt g) hv2))) (AL.sF rfl rfl rfl rfl (fun g => op_not (.we (nt g) rfl rfl)) (zs (op_or (.r rfl) rfl (fun h => (.we (nt h) rfl rfl))) (zn ?_)))
 refine AW.cond (b := _) rfl (fun hc1 => ?_) (fun hc1 => ?_)
 ·replace hm := iteT hc1 hm
  refine zr (za rfl (zn (AW.ret (tq_ret ?_))))
  obtain rfl := Option.some.inj hm
  exact EndQ.d (.tmp .r .nil) rfl rfl
 ·replace hm := iteF hc1 hm
  refine AW.skip (nq (AW.seq (zr (zs (op_field_ptr .r fd43_2) (zs (op_load_ptr1 .r rfl rfl sc9) (za rfl (zn (zr (zm rfl (zs (op_neqS (.r rfl) (.r rfl)) (zm rfl (AL.sT rfl rfl rfl rfl (fun g => op_moveD .r) ?_))))))))))))
  obtain ⟨v3, hv3, hm⟩ := bindE hm
  refine AL.sT rfl rfl rfl rfl (fun g => op_indexSM (.we g rfl rfl) (.r rfl) (iteT g hv3) Tryz.underlying9) (AL.sT rfl rfl rfl rfl (fun g => op_eql (.we g rfl rfl) (.r rfl)) (AL.sT rfl rfl rfl rfl (fun g => op_moveD (.we g rfl)) (AL.sFF rfl rfl rfl rfl (fun gp g => op_moveD .r) (AL.sFF rfl rfl rfl rfl (fun gp g => op_moveD .r) (AL.sFF rfl rfl rfl rfl (fun gp g => op_lenS (.we (an gp (nt g)) rfl rfl) Tryz.underlying9) (AL.sFF rfl rfl rfl rfl (fun gp g => op_subw (.we (an gp (nt g)) rfl rfl) (.r rfl)) ?_))))))
  obtain ⟨v4, hv4, hm⟩ := bindE hm
  refine AL.sFF rfl rfl rfl rfl (fun gp g => op_indexSM (.we (an gp (nt g)) rfl rfl) (.we (an gp (nt g)) rfl rfl) (iteT (an gp (nt g)) hv4) Tryz.underlying9) (AL.sFF rfl rfl rfl rfl (fun gp g => op_eql (.we (an gp (nt g)) rfl rfl) (.r rfl)) (AL.sT rfl rfl rfl rfl (fun g => op_or (.we g rfl rfl) rfl (fun h => (.we (an g (nt h)) rfl rfl))) (zs (op_and (.r rfl) (fun h => (.we h rfl rfl)) rfl) (zn ?_))))
  refine AW.cond (b := _) rfl (fun hc2 => ?_) (fun hc2 => ?_)
  ·replace hm := iteT hc2 hm
   refine AW.reset 0 [] [.row [.d (.int .i64 a1.fID), .d (.sl (a1.fTitle.map D.str)), .d (.str a1.fAuthor), .d (.sl (a1.fYears.map D.i)), .d (.sl (a1.fIsbns.map D.str)), .d (.sl (a1.fLangs.map D.str)), .d (.sl (a1.fPublisher.map D.str)), .d (.sl (a1.fEdition.map D.str))]] (WOK.g0 hw0 (by simp)) ⟨[0], rfl, rfl, rfl, trivial, trivial, (.row rfl (.cons (.d rfl) (.cons (.d rfl) (.cons (.d rfl) (.cons (.d rfl) (.cons (.d rfl) (.cons (.d rfl) (.cons (.d rfl) (.cons (.d rfl) .nil)))))))) .nil)⟩ (zr (za rfl (zn (AW.ret (tq_ret ?_)))))
   obtain rfl := Option.some.inj hm
   exact EndQ.d (.tmp .r .nil) rfl rfl
  ·replace hm := iteF hc2 hm
   refine AW.skip (nq (AW.seq (zr (zs (op_field_ptr .r fd43_1) (zs (op_load_ptr1 .r rfl rfl sc37) ?_)))))
   obtain ⟨v5, hv5, hm⟩ := bindE hm
   refine zs (op_call Tryz.call70 .r (.cons .r (.cons .r .nil)) (m_slices_ContainsFunc_string_string_ok Tryz.call71 (fun _ _ hb => (m_feature_Valid_1_ok hb).at _) hv5)) (zn ?_)
   refine AW.cond (b := _) rfl (fun hc3 => ?_) (fun hc3 => ?_)
   ·replace hm := iteT hc3 hm
    refine zr (za rfl (zn (AW.ret (tq_ret ?_))))
    obtain rfl := Option.some.inj hm
    exact EndQ.d (.tmp .r .nil) rfl rfl
   ·replace hm := iteF hc3 hm
    refine AW.skip (nq (zr (zs (op_field_ptr .r fd43_3) (zs (op_load_ptr1 .r rfl rfl sc38) ?_))))
    obtain ⟨v6, hv6, hm⟩ := bindE hm
    refine zs (op_fn Tryz.call73 .r (.cons (.r rfl) .nil) (m_feature_years_ok hv6)) (zm rfl (AL.sT rfl rfl rfl rfl (fun g => op_field_ptr .r fd43_4) (AL.sT rfl rfl rfl rfl (fun g => op_load_ptr1 (.we g rfl) rfl rfl sc37) ?_)))
    obtain ⟨v7, hv7, hm⟩ := bindE hm
    refine AL.sT rfl rfl rfl rfl (fun g => op_call Tryz.call74 .r (.cons (.we g rfl) (.cons .r (.cons .r .nil))) (m_feature_set_ok Tryz.call75 (fun _ _ hb => (m_feature_isbn_ok hb).at _) (iteT g hv7))) (zs (op_and (.r rfl) (fun h => (.we h rfl rfl)) rfl) (zm rfl (AL.sT rfl rfl rfl rfl (fun g => op_field_ptr .r fd43_5) (AL.sT rfl rfl rfl rfl (fun g => op_load_ptr1 (.we g rfl) rfl rfl sc37) ?_))))
    obtain ⟨v8, hv8, hm⟩ := bindE hm
    refine AL.sT rfl rfl rfl rfl (fun g => op_call Tryz.call74 .r (.cons (.we g rfl) (.cons .r (.cons .r .nil))) (m_feature_set_ok Tryz.call76 (fun _ _ hb => (m_feature_lang_ok hb).at _) (iteT g hv8))) (zs (op_and (.r rfl) (fun h => (.we h rfl rfl)) rfl) (zm rfl (AL.sT rfl rfl rfl rfl (fun g => op_field_ptr .r fd43_6) (AL.sT rfl rfl rfl rfl (fun g => op_load_ptr1 (.we g rfl) rfl rfl sc37) ?_))))
    obtain ⟨v9, hv9, hm⟩ := bindE hm
    refine AL.sT rfl rfl rfl rfl (fun g => op_call Tryz.call74 .r (.cons (.we g rfl) (.cons .r (.cons .r .nil))) (m_feature_set_ok Tryz.call72 (fun _ _ hb => (m_feature_word_ok hb).at _) (iteT g hv9))) (zs (op_and (.r rfl) (fun h => (.we h rfl rfl)) rfl) (zm rfl (AL.sT rfl rfl rfl rfl (fun g => op_field_ptr .r fd43_7) (AL.sT rfl rfl rfl rfl (fun g => op_load_ptr1 (.we g rfl) rfl rfl sc37) ?_))))
    obtain ⟨v10, hv10, hm⟩ := bindE hm
    refine AL.sT rfl rfl rfl rfl (fun g => op_call Tryz.call74 .r (.cons (.we g rfl) (.cons .r (.cons .r .nil))) (m_feature_set_ok Tryz.call72 (fun _ _ hb => (m_feature_word_ok hb).at _) (iteT g hv10))) (zs (op_and (.r rfl) (fun h => (.we h rfl rfl)) rfl) (za rfl (zn (AW.ret ?_))))
    obtain rfl := Option.some.inj hm
    exact EndQ.d (.tmp .r .nil) rfl rfl
theorem m_block_longest_ok {n : Nat} {a1 : (List (List UInt8))} {r : (List UInt8)} (hm : m_block_longest n a1 = some r) : Fn Tryz.prog 48 [(.sl (a1.map D.str))] (.str r) := by
 unfold m_block_longest at hm
 refine Fn.of_AW (fnn := Tryz.f48) Tryz.func48 rfl (Nat.le_of_ble_eq_true rfl) (fun g0 w0 hw0 => ?_)
 refine AW.reset 0 [(0, .d (.sl (a1.map D.str)))] [] (WOK.g0 hw0 (by simp)) ⟨[], rfl, rfl, rfl, ⟨(.d rfl), trivial⟩, trivial, .nil⟩ (zr (za rfl (zn (zr (za rfl (zn (AW.seq (zr (zm rfl (zs (op_lenM (f := D.str) (.r rfl) sl37) (zm rfl (zn (AW.block ?_)))))))))))))
 obtain ⟨t_1, hI1, hk1⟩ := bindE hm
 refine AW.loopS (σ := ((List UInt8) × Int)) (τ := (List UInt8)) 0 (fun x => [(3, .d (.str x.1)), (6, .d (.sl (a1.map D.str))), (7, .d (.int .i64 (a1.length : Int))), (8, .d (.int .i64 x.2))]) (fun x => []) hI1 (WOK.g0 hw0 (by simp)) ⟨[], rfl, rfl, rfl, ⟨(.d rfl), (.d rfl), (.d rfl), (.d rfl), trivial⟩, trivial, .nil⟩ ?_
 rintro n1 ⟨s2, s3⟩ hI1
 obtain ⟨y_1, hm, hI1⟩ := iterS hI1
 replace hm : m_block_longest_L1 n _ s2 s3 = some y_1 := hm
 unfold m_block_longest_L1 at hm
 try dsimp only at hm
 refine zr (zs (op_lss (.r rfl) (.r rfl)) (zn (AW.seq ?_)))
 refine AW.cond (b := _) rfl (fun hc1 => ?_) (fun hc1 => ?_)
 ·replace hm := iteT hc1 hm
  refine AW.skip (nq ?_)
  obtain ⟨t_j1, hm, hkj1⟩ := bindE hm
  refine AW.cutS (α := (List UInt8)) 0 (fun x => x = t_j1) (fun x => [(3, .d (.str x)), (6, .d (.sl (a1.map D.str))), (7, .d (.int .i64 (a1.length : Int))), (8, .d (.int .i64 s3))]) (fun x => []) (WOK.g0 hw0 (by simp)) ?_ ?_
  ·skip
   refine AW.block (zr ?_)
   obtain ⟨v4, hv4, hm⟩ := bindE hm
   refine zs (op_indexAddrM (f := D.str) (.r rfl) (.r rfl) hv4 En.str sl37) (zs (op_load_vp1 .r rfl sc9) (za rfl (zn (zr (zm rfl (zs (op_lenS (.r rfl) Tryz.underlying9) (zm rfl (zs (op_lenS (.r rfl) Tryz.underlying9) (zs (op_gtr (.r rfl) (.r rfl)) (zn ?_))))))))))
   refine AW.cond (b := _) rfl (fun hc2 => ?_) (fun hc2 => ?_)
   ·replace hm := iteT hc2 hm
    refine AW.region (zm rfl (za rfl (zn (bq_n ?_))))
    obtain rfl := Option.some.inj hm
    exact nq ⟨_, rfl, ⟨[], rfl, rfl, rfl, ⟨(.d rfl), (.d rfl), (.d rfl), (.d rfl), trivial⟩, trivial, .nil⟩⟩
   ·replace hm := iteF hc2 hm
    refine AW.skip (bq_n ?_)
    obtain rfl := Option.some.inj hm
    exact nq ⟨_, rfl, ⟨[], rfl, rfl, rfl, ⟨(.d rfl), (.d rfl), (.d rfl), (.d rfl), trivial⟩, trivial, .nil⟩⟩
  ·rintro s5 rfl
   replace hm := hkj1
   try dsimp only at hm
   refine AW.region (zs (op_addw (.r rfl) (.r rfl)) (zm rfl (zn ?_)))
   obtain rfl := Option.some.inj hm
   exact nq ⟨_, hI1, ⟨[], rfl, rfl, rfl, ⟨(.d rfl), (.d rfl), (.d rfl), (.d rfl), trivial⟩, trivial, .nil⟩⟩
 ·replace hm := iteF hc1 hm
  refine AW.exit (tq_exit (tq_exit ?_))
  obtain rfl := Option.some.inj hm
  obtain rfl := Option.some.inj hI1
  replace hm := hk1
  try dsimp only at hm
  refine bq_hit (nq (zr (zm rfl (za rfl (zn (AW.ret ?_))))))
  obtain rfl := Option.some.inj hm
  exact EndQ.d (.tmp .r .nil) rfl rfl
theorem m_slices_Sort_string_string_len {n : Nat} {c1 r : List (List UInt8)} (hm : m_slices_Sort_string_string n c1 = some r) : r.length = c1.length := by
 unfold m_slices_Sort_string_string at hm
 split at hm
 ·injection hm with hm; subst hm; exact isort_len _ _
 ·cases hm
theorem m_slices_Sort_string_string_ok {n : Nat} {c1 r : List (List UInt8)} (hm : m_slices_Sort_string_string n c1 = some r) : ACall Tryz.prog 49 [.hs 0 0 c1.length 1] [.lst (c1.map D.str) 9 1] fun r' H' => r' = resOf [] ∧ H' = [.lst (r.map D.str) 9 1] := by
 unfold m_slices_Sort_string_string at hm
 split at hm
 ·rename_i h; injection hm with hm; subst hm; exact ACall.sort_str sortsS h
 ·cases hm
theorem m_block_Keys_ok {n : Nat} {a1 : SFeatures} {r : (List (List UInt8))} (hm : m_block_Keys n a1 = some r) : Fn Tryz.prog 17 [(SFeatures.e a1)] (.sl (r.map D.str)) := by
 unfold m_block_Keys at hm
 refine Fn.of_AW (fnn := Tryz.f17) Tryz.func17 rfl (Nat.le_of_ble_eq_true rfl) (fun g0 w0 hw0 => ?_)
 refine AW.reset 0 [(0, .d (SFeatures.e a1))] [] (WOK.g0 hw0 (by simp)) ⟨[], rfl, rfl, rfl, ⟨(.d rfl), trivial⟩, trivial, .nil⟩ (zr (zs (op_box (n := 0) .r rfl rfl rfl) (zs (op_assignN .r) (zn (AW.seq (zr (zs (op_load_ptrA .r rfl rfl rfl ag43) ?_)))))))
 obtain ⟨v2, hv2, hm⟩ := bindE hm
 refine zs (op_fn Tryz.call42 .r (.cons (.r rfl) .nil) (m_feature_Valid_ok hv2)) (zs (op_not (.r rfl)) (zn ?_))
 refine AW.cond (b := _) rfl (fun hc1 => ?_) (fun hc1 => ?_)
 ·replace hm := iteT hc1 hm
  refine zr (zs (op_assignN .r) (zn (AW.ret (tq_ret ?_))))
  obtain rfl := Option.some.inj hm
  exact EndQ.d (.tmp .r .nil) rfl rfl
 ·replace hm := iteF hc1 hm
  refine AW.skip (nq (zr (zs (op_makeMap (n := 1) rfl) (zs (op_assignM .r) (zn (AW.seq (zr (zs (op_field_ptr .r fd43_4) (zs (op_load_ptr1 .r rfl rfl sc37) (zs (op_lenM (f := D.str) (.r rfl) sl37) (zm rfl (zn (AW.block ?_)))))))))))))
  obtain ⟨t_1, hI1, hk1⟩ := bindE hm
  refine AW.loopS (σ := (Int × (List ((List UInt8) × Bool)))) (τ := (List ((List UInt8) × Bool))) 0 (fun x => [(1, .ptr 0 0), (3, .mp 1), (15, .d (.sl (a1.fIsbns.map D.str))), (16, .d (.int .i64 (a1.fIsbns.length : Int))), (17, .d (.int .i64 x.1))]) (fun x => [.row [.d (.int .i64 a1.fID), .d (.sl (a1.fTitle.map D.str)), .d (.str a1.fAuthor), .d (.sl (a1.fYears.map D.i)), .d (.sl (a1.fIsbns.map D.str)), .d (.sl (a1.fLangs.map D.str)), .d (.sl (a1.fPublisher.map D.str)), .d (.sl (a1.fEdition.map D.str))], .ob (mpO (x.2.map (fun q => ((.str q.1), (.bool q.2)))))]) hI1 (WOK.g0 hw0 (by simp)) ⟨[0, 1], rfl, rfl, rfl, ⟨(.ptr rfl), (.mp rfl), (.d rfl), (.d rfl), (.d rfl), trivial⟩, trivial, (.row rfl (.cons (.d rfl) (.cons (.d rfl) (.cons (.d rfl) (.cons (.d rfl) (.cons (.d rfl) (.cons (.d rfl) (.cons (.d rfl) (.cons (.d rfl) .nil)))))))) (.ob rfl obR_mp .nil))⟩ ?_
  rintro n1 ⟨s3, s4⟩ hI1
  obtain ⟨y_1, hm, hI1⟩ := iterS hI1
  replace hm : m_block_Keys_L1 n _ s3 s4 = some y_1 := hm
  unfold m_block_Keys_L1 at hm
  try dsimp only at hm
  refine zr (zs (op_lss (.r rfl) (.r rfl)) (zn (AW.seq ?_)))
  refine AW.cond (b := _) rfl (fun hc2 => ?_) (fun hc2 => ?_)
  ·replace hm := iteT hc2 hm
   refine AW.skip (nq (AW.seq (AW.block (zr ?_))))
   obtain ⟨v5, hv5, hm⟩ := bindE hm
   refine zs (op_indexAddrM (f := D.str) (.r rfl) (.r rfl) hv5 En.str sl37) (zs (op_load_vp1 .r rfl sc9) (za rfl (zn (AW.region (zs (op_moveM .r) (zm rfl ?_))))))
   obtain ⟨v6, hv6, hm⟩ := bindE hm
   refine zs (op_addSM (.r rfl) (.r rfl) hv6) ?_
   obtain ⟨v7, hv7, hm⟩ := bindE hm
   refine zs (op_mapUpdateM (m := s4) (k := v6) (v := true) (fv := D.bool) (keyStr Tryz.underlying9) Tryz.underlying82 .r (.r rfl) (.r rfl) rfl hv7) (zn (bq_n (nq (AW.region (zs (op_addw (.r rfl) (.r rfl)) (zm rfl (zn ?_)))))))
   obtain rfl := Option.some.inj hm
   exact nq ⟨_, hI1, ⟨[0, 1], rfl, rfl, rfl, ⟨(.ptr rfl), (.mp rfl), (.d rfl), (.d rfl), (.d rfl), trivial⟩, trivial, (.row rfl (.cons (.d rfl) (.cons (.d rfl) (.cons (.d rfl) (.cons (.d rfl) (.cons (.d rfl) (.cons (.d rfl) (.cons (.d rfl) (.cons (.d rfl) .nil)))))))) (.ob rfl obR_mp .nil))⟩⟩
  ·replace hm := iteF hc2 hm
   refine AW.exit (tq_exit (tq_exit ?_))
   obtain rfl := Option.some.inj hm
   obtain rfl := Option.some.inj hI1
   replace hm := hk1
   try dsimp only at hm
   refine bq_hit (nq ?_)
   obtain ⟨t_j1, hm, hkj1⟩ := bindE hm
   refine AW.cutS (α := (List ((List UInt8) × Bool))) 0 (fun x => x = t_j1) (fun x => [(3, .mp 1)]) (fun x => [.row [.d (.int .i64 a1.fID), .d (.sl (a1.fTitle.map D.str)), .d (.str a1.fAuthor), .d (.sl (a1.fYears.map D.i)), .d (.sl (a1.fIsbns.map D.str)), .d (.sl (a1.fLangs.map D.str)), .d (.sl (a1.fPublisher.map D.str)), .d (.sl (a1.fEdition.map D.str))], .ob (mpO (x.map (fun q => ((.str q.1), (.bool q.2)))))]) (WOK.g0 hw0 (by simp)) ?_ ?_
   ·skip
    refine AW.reset 0 [(1, .ptr 0 0), (3, .mp 1)] [.row [.d (.int .i64 a1.fID), .d (.sl (a1.fTitle.map D.str)), .d (.str a1.fAuthor), .d (.sl (a1.fYears.map D.i)), .d (.sl (a1.fIsbns.map D.str)), .d (.sl (a1.fLangs.map D.str)), .d (.sl (a1.fPublisher.map D.str)), .d (.sl (a1.fEdition.map D.str))], .ob (mpO (s4.map (fun q => ((.str q.1), (.bool q.2)))))] (WOK.g0 hw0 (by simp)) ⟨[0, 1], rfl, rfl, rfl, ⟨(.ptr rfl), (.mp rfl), trivial⟩, trivial, (.row rfl (.cons (.d rfl) (.cons (.d rfl) (.cons (.d rfl) (.cons (.d rfl) (.cons (.d rfl) (.cons (.d rfl) (.cons (.d rfl) (.cons (.d rfl) .nil)))))))) (.ob rfl obR_mp .nil))⟩ (zr (zs (op_field_ptr .r fd43_1) (zs (op_load_ptr1 .r rfl rfl sc37) (zs (op_lenM (f := D.str) (.r rfl) sl37) (zs (op_gtr (.r rfl) (.r rfl)) (zn ?_))))))
    refine AW.cond (b := _) rfl (fun hc3 => ?_) (fun hc3 => ?_)
    ·replace hm := iteT hc3 hm
     refine zr (zs (op_moveM .r) (zs (op_field_ptr .r fd43_1) (zs (op_load_ptr1 .r rfl rfl sc37) (zs (op_field_ptr .r fd43_1) (zs (op_load_ptr1 .r rfl rfl sc37) (zs (op_lenM (f := D.str) (.r rfl) sl37) (zs (op_min (.r rfl) (.r rfl)) ?_)))))))
     obtain ⟨v8, hv8, hm⟩ := bindE hm
     refine zs (op_sliceM (f := D.str) (.r rfl) sl37 rfl (.r rfl) En.str hv8) ?_
     obtain ⟨v9, hv9, hm⟩ := bindE hm
     refine zs (op_fn Tryz.call46 .r (.cons (.r rfl) (.cons (.r rfl) .nil)) (joinM_fn hv9)) ?_
     obtain ⟨v10, hv10, hm⟩ := bindE hm
     refine zs (op_addSM (.r rfl) (.r rfl) hv10) ?_
     obtain ⟨v11, hv11, hm⟩ := bindE hm
     refine zs (op_mapUpdateM (m := s4) (k := v10) (v := true) (fv := D.bool) (keyStr Tryz.underlying9) Tryz.underlying82 .r (.r rfl) (.r rfl) rfl hv11) (zn ?_)
     obtain ⟨t_j2, hm, hkj2⟩ := bindE hm
     refine AW.cutS (α := (List ((List UInt8) × Bool))) 0 (fun x => x = t_j2) (fun x => [(1, .ptr 0 0), (3, .mp 1)]) (fun x => [.row [.d (.int .i64 a1.fID), .d (.sl (a1.fTitle.map D.str)), .d (.str a1.fAuthor), .d (.sl (a1.fYears.map D.i)), .d (.sl (a1.fIsbns.map D.str)), .d (.sl (a1.fLangs.map D.str)), .d (.sl (a1.fPublisher.map D.str)), .d (.sl (a1.fEdition.map D.str))], .ob (mpO (x.map (fun q => ((.str q.1), (.bool q.2)))))]) (WOK.g0 hw0 (by simp)) ?_ ?_
     ·skip
      refine zr (zs (op_field_ptr .r fd43_2) (zs (op_load_ptr1 .r rfl rfl sc9) (zs (op_neqS (.r rfl) (.r rfl)) (zn ?_))))
      refine AW.cond (b := _) rfl (fun hc4 => ?_) (fun hc4 => ?_)
      ·replace hm := iteT hc4 hm
       refine AW.drawn [([], []), ([], []), ([0], []), ([], []), ([], []), ([], []), ([0], []), ([], []), ([], []), ([], []), ([1], [1])] mo (by decide +kernel) (AD.s (ws := []) rfl rfl (fun H' _ hH => op_moveM .r) (AD.s (ws := []) rfl rfl (fun H' _ hH => op_field_ptr .r fd43_2) (AD.s (ws := []) rfl rfl (fun H' _ hH => op_load_ptr1 .r ((hH _ (by simp)).trans rfl) rfl sc9) ?_)))
       obtain ⟨v12, hv12, hm⟩ := bindE hm
       refine AD.s (ws := []) rfl rfl (fun H' _ hH => op_addSM (.r rfl) (.r rfl) hv12) ?_
       obtain ⟨v13, hv13, hm⟩ := bindE hm
       refine AD.s (ws := []) rfl rfl (fun H' _ hH => op_addSM (.r rfl) (.r rfl) hv13) (AD.s (ws := []) rfl rfl (fun H' _ hH => op_field_ptr .r fd43_1) (AD.s (ws := []) rfl rfl (fun H' _ hH => op_load_ptr1 .r ((hH _ (by simp)).trans rfl) rfl sc37) ?_))
       obtain ⟨v14, hv14, hm⟩ := bindE hm
       refine AD.s (ws := []) rfl rfl (fun H' _ hH => op_indexAddrM (f := D.str) (.r rfl) (.r rfl) hv14 En.str sl37) (AD.s (ws := []) rfl rfl (fun H' _ hH => op_load_vp1 .r rfl sc9) ?_)
       obtain ⟨v15, hv15, hm⟩ := bindE hm
       refine AD.s (ws := []) rfl rfl (fun H' _ hH => op_addSM (.r rfl) (.r rfl) hv15) ?_
       obtain ⟨v16, hv16, hm⟩ := bindE hm
       refine AD.s (ws := [(1, _)]) rfl rfl (fun H' _ hH => op_mapUpdateM (m := v11) (k := v15) (v := true) (fv := D.bool) (keyStr Tryz.underlying9) Tryz.underlying82 .r (.r rfl) (.r rfl) ((hH _ (by simp)).trans rfl) hv16) (AD.nil ?_)
       obtain rfl := Option.some.inj hm
       exact nq ⟨_, rfl, ⟨[0, 1], rfl, rfl, rfl, ⟨(.ptr rfl), (.mp rfl), trivial⟩, trivial, (.row rfl (.cons (.d rfl) (.cons (.d rfl) (.cons (.d rfl) (.cons (.d rfl) (.cons (.d rfl) (.cons (.d rfl) (.cons (.d rfl) (.cons (.d rfl) .nil)))))))) (.ob rfl obR_mp .nil))⟩⟩
      ·replace hm := iteF hc4 hm
       refine AW.skip ?_
       obtain rfl := Option.some.inj hm
       exact nq ⟨_, rfl, ⟨[0, 1], rfl, rfl, rfl, ⟨(.ptr rfl), (.mp rfl), trivial⟩, trivial, (.row rfl (.cons (.d rfl) (.cons (.d rfl) (.cons (.d rfl) (.cons (.d rfl) (.cons (.d rfl) (.cons (.d rfl) (.cons (.d rfl) (.cons (.d rfl) .nil)))))))) (.ob rfl obR_mp .nil))⟩⟩
     ·rintro s17 rfl
      replace hm := hkj2
      try dsimp only at hm
      refine zr (zs (op_field_ptr .r fd43_3) (zs (op_load_ptr1 .r rfl rfl sc38) (zs (op_lenM (f := D.i) (.r rfl) sl38) (zm rfl (zn (AW.block ?_))))))
      obtain ⟨t_2, hI2, hk2⟩ := bindE hm
      refine AW.loopS (σ := (Int × (List ((List UInt8) × Bool)))) (τ := (List ((List UInt8) × Bool))) 0 (fun x => [(1, .ptr 0 0), (3, .mp 1), (53, .d (.sl (a1.fYears.map D.i))), (54, .d (.int .i64 (a1.fYears.length : Int))), (55, .d (.int .i64 x.1))]) (fun x => [.row [.d (.int .i64 a1.fID), .d (.sl (a1.fTitle.map D.str)), .d (.str a1.fAuthor), .d (.sl (a1.fYears.map D.i)), .d (.sl (a1.fIsbns.map D.str)), .d (.sl (a1.fLangs.map D.str)), .d (.sl (a1.fPublisher.map D.str)), .d (.sl (a1.fEdition.map D.str))], .ob (mpO (x.2.map (fun q => ((.str q.1), (.bool q.2)))))]) hI2 (WOK.g0 hw0 (by simp)) ⟨[0, 1], rfl, rfl, rfl, ⟨(.ptr rfl), (.mp rfl), (.d rfl), (.d rfl), (.d rfl), trivial⟩, trivial, (.row rfl (.cons (.d rfl) (.cons (.d rfl) (.cons (.d rfl) (.cons (.d rfl) (.cons (.d rfl) (.cons (.d rfl) (.cons (.d rfl) (.cons (.d rfl) .nil)))))))) (.ob rfl obR_mp .nil))⟩ ?_
      rintro n2 ⟨s18, s19⟩ hI2
      obtain ⟨y_2, hm, hI2⟩ := iterS hI2
      replace hm : m_block_Keys_L2 n _ s18 s19 = some y_2 := hm
      unfold m_block_Keys_L2 at hm
      try dsimp only at hm
      refine zr (zs (op_lss (.r rfl) (.r rfl)) (zn (AW.seq ?_)))
      refine AW.cond (b := _) rfl (fun hc5 => ?_) (fun hc5 => ?_)
      ·replace hm := iteT hc5 hm
       refine AW.skip (nq (AW.seq (AW.block (zr ?_))))
       obtain ⟨v20, hv20, hm⟩ := bindE hm
       refine zs (op_indexAddrM (f := D.i) (.r rfl) (.r rfl) hv20 En.i sl38) (zs (op_load_vp1 .r rfl sc3) (za rfl (zn (AW.drawn [([], []), ([], []), ([], []), ([], []), ([], []), ([], []), ([0], []), ([], []), ([], []), ([1], [1])] mo (by decide +kernel) (AD.s (ws := []) rfl rfl (fun H' _ hH => op_moveM .r) (AD.s (ws := []) rfl rfl (fun H' _ hH => op_moveD .r) ?_))))))
       obtain ⟨v21, hv21, hm⟩ := bindE hm
       refine AD.s (ws := []) rfl rfl (fun H' _ hH => op_fn Tryz.call47 .r (.cons (.r rfl) .nil) (itoaM_fn hv21)) ?_
       obtain ⟨v22, hv22, hm⟩ := bindE hm
       refine AD.s (ws := []) rfl rfl (fun H' _ hH => op_addSM (.r rfl) (.r rfl) hv22) ?_
       obtain ⟨v23, hv23, hm⟩ := bindE hm
       refine AD.s (ws := []) rfl rfl (fun H' _ hH => op_addSM (.r rfl) (.r rfl) hv23) (AD.s (ws := []) rfl rfl (fun H' _ hH => op_field_ptr .r fd43_1) (AD.s (ws := []) rfl rfl (fun H' _ hH => op_load_ptr1 .r ((hH _ (by simp)).trans rfl) rfl sc37) ?_))
       obtain ⟨v24, hv24, hm⟩ := bindE hm
       refine AD.s (ws := []) rfl rfl (fun H' _ hH => op_fn Tryz.call48 .r (.cons (.r rfl) .nil) (m_block_longest_ok hv24)) ?_
       obtain ⟨v25, hv25, hm⟩ := bindE hm
       refine AD.s (ws := []) rfl rfl (fun H' _ hH => op_addSM (.r rfl) (.r rfl) hv25) ?_
       obtain ⟨v26, hv26, hm⟩ := bindE hm
       refine AD.s (ws := [(1, _)]) rfl rfl (fun H' _ hH => op_mapUpdateM (m := s19) (k := v25) (v := true) (fv := D.bool) (keyStr Tryz.underlying9) Tryz.underlying82 .r (.r rfl) (.r rfl) ((hH _ (by simp)).trans rfl) hv26) (AD.nil (bq_n (nq (AW.region (zs (op_addw (.r rfl) (.r rfl)) (zm rfl (zn ?_)))))))
       obtain rfl := Option.some.inj hm
       exact nq ⟨_, hI2, ⟨[0, 1], rfl, rfl, rfl, ⟨(.ptr rfl), (.mp rfl), (.d rfl), (.d rfl), (.d rfl), trivial⟩, trivial, (.row rfl (.cons (.d rfl) (.cons (.d rfl) (.cons (.d rfl) (.cons (.d rfl) (.cons (.d rfl) (.cons (.d rfl) (.cons (.d rfl) (.cons (.d rfl) .nil)))))))) (.ob rfl obR_mp .nil))⟩⟩
      ·replace hm := iteF hc5 hm
       refine AW.exit (tq_exit (tq_exit ?_))
       obtain rfl := Option.some.inj hm
       obtain rfl := Option.some.inj hI2
       replace hm := hk2
       try dsimp only at hm
       refine bq_hit ?_
       obtain rfl := Option.some.inj hm
       exact nq ⟨_, rfl, ⟨[0, 1], rfl, rfl, rfl, ⟨(.mp rfl), trivial⟩, trivial, (.row rfl (.cons (.d rfl) (.cons (.d rfl) (.cons (.d rfl) (.cons (.d rfl) (.cons (.d rfl) (.cons (.d rfl) (.cons (.d rfl) (.cons (.d rfl) .nil)))))))) (.ob rfl obR_mp .nil))⟩⟩
    ·replace hm := iteF hc3 hm
     refine AW.skip ?_
     obtain rfl := Option.some.inj hm
     exact nq ⟨_, rfl, ⟨[0, 1], rfl, rfl, rfl, ⟨(.mp rfl), trivial⟩, trivial, (.row rfl (.cons (.d rfl) (.cons (.d rfl) (.cons (.d rfl) (.cons (.d rfl) (.cons (.d rfl) (.cons (.d rfl) (.cons (.d rfl) (.cons (.d rfl) .nil)))))))) (.ob rfl obR_mp .nil))⟩⟩
   ·rintro s27 rfl
    replace hm := hkj1
    try dsimp only at hm
    refine zr (zs (op_assignN .r) (zn (AW.seq (zr (zs (op_moveM .r) (zs (op_rangeMapM (n := 2) (l := s27) (fx := (fun q => ((.str q.1), (.bool q.2)))) Tryz.underlying82 .r rfl rfl) (zn (AW.block (AW.lstize (n := 3) 8 9 1 rfl rfl ?_)))))))))
    refine AW.loopRK (rid := 2) (mid := 1) (σ := (List (List UInt8))) (τ := (List (List UInt8))) (α := ((List UInt8) × Bool)) 0 [70] (fun x => [(8, .hs 3 0 x.length 1)]) (fun x z => [.row [.d (.int .i64 a1.fID), .d (.sl (a1.fTitle.map D.str)), .d (.str a1.fAuthor), .d (.sl (a1.fYears.map D.i)), .d (.sl (a1.fIsbns.map D.str)), .d (.sl (a1.fLangs.map D.str)), .d (.sl (a1.fPublisher.map D.str)), .d (.sl (a1.fEdition.map D.str))], .ob (mpO (s27.map (fun q => ((.str q.1), (.bool q.2))))), .ob (z), .lst (x.map D.str) 9 1]) (fx := (fun q => ((.str q.1), (.bool q.2)))) (l := s27) hm (WOK.g0 hw0 (by simp)) ⟨[0, 1, 2, 3], rfl, rfl, rfl, ⟨(.hs rfl rfl), trivial⟩, ⟨rfl, trivial⟩, (.row rfl (.cons (.d rfl) (.cons (.d rfl) (.cons (.d rfl) (.cons (.d rfl) (.cons (.d rfl) (.cons (.d rfl) (.cons (.d rfl) (.cons (.d rfl) .nil)))))))) (.ob rfl obR_mp (.ob rfl (obR_it rfl) (.lst rfl .nil))))⟩ (fun _ => rfl) (fun _ _ => rfl) (fun _ _ => rfl) (fun _ _ _ => rfl) rfl rfl ?_ ?_
    all_goals clear hm
    ·rintro inv_3 s28 e_3 S_3 i_3 y_3 he_3 hm hI3
     replace hm : m_block_Keys_L3 n s28 e_3 = some y_3 := hm
     unfold m_block_Keys_L3 at hm
     try dsimp only at hm
     refine AW.block (zr (zs (op_entryM (e := e_3) (fx := (fun q => ((.str q.1), (.bool q.2)))) .r rfl rfl he_3) (zs (op_extractV .r rfl) (za rfl (zn (AW.region (zs (op_moveH .r) (zm rfl (zs (op_buildSlice (ds := ([e_3.1] : List (List UInt8)).map D.str) sl37 (.cons (.r rfl) rfl (En.str.one _) .nil) rfl (by decide)) ?_)))))))))
     obtain ⟨v29, hv29, hm⟩ := bindE hm
     refine zs (op_appendHM (n := 4) (f := D.str) (l := s28) (l' := ([e_3.1] : List (List UInt8))) sl37 .r (.r rfl) rfl rfl rfl En.str hv29) (zs (op_assignH .r) (zn (bq_n ?_)))
     obtain rfl := Option.some.inj hm
     exact nq ⟨_, hI3, ⟨[0, 1, 2, 4], rfl, rfl, rfl, ⟨(.hs rfl rfl), trivial⟩, ⟨rfl, trivial⟩, (.row rfl (.cons (.d rfl) (.cons (.d rfl) (.cons (.d rfl) (.cons (.d rfl) (.cons (.d rfl) (.cons (.d rfl) (.cons (.d rfl) (.cons (.d rfl) .nil)))))))) (.ob rfl obR_mp (.ob rfl (obR_it rfl) (.lst rfl .nil))))⟩⟩
    ·rintro s28 S_3 hI3
     replace hm := hI3
     try dsimp only at hm
     refine bq_hit (nq (zr (zs (op_moveH .r) ?_)))
     obtain ⟨v30, hv30, hm⟩ := bindE hm
     refine zs (op_callF (v := .tup []) (H' := [.row [.d (.int .i64 a1.fID), .d (.sl (a1.fTitle.map D.str)), .d (.str a1.fAuthor), .d (.sl (a1.fYears.map D.i)), .d (.sl (a1.fIsbns.map D.str)), .d (.sl (a1.fLangs.map D.str)), .d (.sl (a1.fPublisher.map D.str)), .d (.sl (a1.fEdition.map D.str))], .ob (mpO (s27.map (fun q => ((.str q.1), (.bool q.2))))), .ob (itO 1 s27.length S_3), .lst (v30.map D.str) 9 1]) [3] Tryz.call49 .r (.cons .r .nil) (m_slices_Sort_string_string_ok hv30) rfl (.cons rfl .nil) rfl rfl rfl rfl rfl rfl rfl rfl) (zn (zr (zs (op_moveH .r) (zs (op_assignH .r) (zn (AW.freeze (f := D.str) (l := v30) 3 [2, 8, 79, 81] rfl (m_slices_Sort_string_string_len hv30) En.str ⟨rfl, rfl, rfl, rfl, trivial⟩ (AW.ret ?_)))))))
     obtain rfl := Option.some.inj hm
     exact EndQ.d (.tmp .r .nil) rfl rfl
theorem m_cmp_isNaN_string_ok {n : Nat} {a1 : (List UInt8)} {r : Bool} (hm : m_cmp_isNaN_string n a1 = some r) : Fn Tryz.prog 136 [(.str a1)] (.bool r) := by
 unfold m_cmp_isNaN_string at hm
 refine Fn.of_AW (fnn := Tryz.f136) Tryz.func136 rfl (Nat.le_of_ble_eq_true rfl) (fun g0 w0 hw0 => ?_)
 refine zr (za rfl (zn (zr (zm rfl (zm rfl (zs (op_neqS (.r rfl) (.r rfl)) (za rfl (zn (AW.ret ?_)))))))))
 obtain rfl := Option.some.inj hm
 exact EndQ.d (.tmp .r .nil) rfl rfl
theorem m_cmp_Compare_string_ok {n : Nat} {a1 : (List UInt8)} {a2 : (List UInt8)} {r : Int} (hm : m_cmp_Compare_string n a1 a2 = some r) : Fn Tryz.prog 100 [(.str a1), (.str a2)] (.int .i64 r) := by
 unfold m_cmp_Compare_string at hm
 refine Fn.of_AW (fnn := Tryz.f100) Tryz.func100 rfl (Nat.le_of_ble_eq_true rfl) (fun g0 w0 hw0 => ?_)
 refine zr (za rfl (zn (zr (zm rfl ?_))))
 obtain ⟨v3, hv3, hm⟩ := bindE hm
 refine zs (op_fn Tryz.call136 .r (.cons (.r rfl) .nil) (m_cmp_isNaN_string_ok hv3)) (za rfl (zn (zr (zm rfl ?_))))
 obtain ⟨v4, hv4, hm⟩ := bindE hm
 refine zs (op_fn Tryz.call136 .r (.cons (.r rfl) .nil) (m_cmp_isNaN_string_ok hv4)) (za rfl (zn (AW.seq (zr (zm rfl (zn ?_))))))
 refine AW.cond (b := _) rfl (fun hc1 => ?_) (fun hc1 => ?_)
 ·replace hm := iteT hc1 hm
  refine AW.seq (zr (zm rfl (zn ?_)))
  refine AW.cond (b := _) rfl (fun hc2 => ?_) (fun hc2 => ?_)
  ·replace hm := iteT hc2 hm
   refine zr (za rfl (zn (AW.ret (tq_ret (tq_ret ?_)))))
   obtain rfl := Option.some.inj hm
   exact EndQ.d (.tmp .r .nil) rfl rfl
  ·replace hm := iteF hc2 hm
   refine AW.skip (nq (zr (za rfl (zn (AW.ret (tq_ret ?_))))))
   obtain rfl := Option.some.inj hm
   exact EndQ.d (.tmp .r .nil) rfl rfl
 ·replace hm := iteF hc1 hm
  refine AW.skip (nq (AW.seq (zr (zm rfl (zn ?_)))))
  refine AW.cond (b := _) rfl (fun hc3 => ?_) (fun hc3 => ?_)
  ·replace hm := iteT hc3 hm
   refine zr (za rfl (zn (AW.ret (tq_ret ?_))))
   obtain rfl := Option.some.inj hm
   exact EndQ.d (.tmp .r .nil) rfl rfl
  ·replace hm := iteF hc3 hm
   refine AW.skip (nq (AW.seq (zr (zm rfl (zm rfl (zs (op_lssS (.r rfl) (.r rfl)) (zn ?_)))))))
   refine AW.cond (b := _) rfl (fun hc4 => ?_) (fun hc4 => ?_)
   ·replace hm := iteT hc4 hm
    refine zr (za rfl (zn (AW.ret (tq_ret ?_))))
    obtain rfl := Option.some.inj hm
    exact EndQ.d (.tmp .r .nil) rfl rfl
   ·replace hm := iteF hc4 hm
    refine AW.skip (nq (AW.seq (zr (zm rfl (zm rfl (zs (op_gtrS (.r rfl) (.r rfl)) (zn ?_)))))))
    refine AW.cond (b := _) rfl (fun hc5 => ?_) (fun hc5 => ?_)
    ·replace hm := iteT hc5 hm
     refine AW.reset 0 [] [] (WOK.g0 hw0 (by simp)) ⟨[], rfl, rfl, rfl, trivial, trivial, .nil⟩ (zr (za rfl (zn (AW.ret (tq_ret ?_)))))
     obtain rfl := Option.some.inj hm
     exact EndQ.d (.tmp .r .nil) rfl rfl
    ·replace hm := iteF hc5 hm
     refine AW.skip (nq (zr (za rfl (zn (AW.ret ?_)))))
     obtain rfl := Option.some.inj hm
     exact EndQ.d (.tmp .r .nil) rfl rfl
end Go.Proofs.YtkdefjliknpliaaGreatDoor.Ab
