/- The functions do what they are in plain Lean. Conditions: none. -/
import Derived.Test.YtgcmhhcopeiomaaGreatTy
import Derived.Test.YtgcmhhcopeiomaaGreatMi
import Derived.Test.YtgcmhhcopeiomaaGreatFd
set_option maxRecDepth 100000
set_option maxHeartbeats 20000000
namespace Go.Proofs.YtgcmhhcopeiomaaGreat.Ab
open Go
attribute [local irreducible] AL AD AW

theorem m_ref29_Ascending_ok {n : Nat} {a1 : (List (List UInt8))} {r : Bool} (hm : m_ref29_Ascending n a1 = some r) : Fn Tryz.prog 61 [(.sl (a1.map D.str))] (.bool r) := by
 unfold m_ref29_Ascending at hm
 refine Fn.of_AW (fnn := Tryz.f61) Tryz.func61 rfl (Nat.le_of_ble_eq_true rfl) (fun g0 w0 hw0 => ?_)
 refine AW.reset 0 [(0, .d (.sl (a1.map D.str)))] [] (WOK.g0 hw0 (by simp)) ⟨[], rfl, rfl, rfl, ⟨(.d rfl), trivial⟩, trivial, .nil⟩ (zr (za rfl (zn (AW.seq (zr (za rfl (zn (AW.block ?_))))))))
 obtain ⟨t_1, hI1, hk1⟩ := bindE hm
 refine AW.loopS (σ := Int) (τ := (Bool ⊕ Unit)) 0 (fun x => [(0, .d (.sl (a1.map D.str))), (3, .d (.int .i64 x))]) (fun x => []) hI1 (WOK.g0 hw0 (by simp)) ⟨[], rfl, rfl, rfl, ⟨(.d rfl), (.d rfl), trivial⟩, trivial, .nil⟩ ?_
 rintro n1 s2 hI1
 obtain ⟨y_1, hm, hI1⟩ := iterS hI1
 replace hm : m_ref29_Ascending_L1 n _ s2 = some y_1 := hm
 unfold m_ref29_Ascending_L1 at hm
 try dsimp only at hm
 refine AW.seq (zr (zm rfl (zm rfl (zs (op_lenM (f := D.str) (.r rfl) sl22) (zs (op_lss (.r rfl) (.r rfl)) (zn ?_))))))
 refine AW.cond (b := _) rfl (fun hc1 => ?_) (fun hc1 => ?_)
 ·replace hm := iteT hc1 hm
  refine AW.skip (nq (AW.seq (AW.block (AW.seqD [([], []), ([], []), ([], []), ([], []), ([], []), ([], []), ([], []), ([], []), ([], []), ([], [])] mo (by decide +kernel) (AD.s (ws := []) rfl rfl (fun H' _ hH => op_moveD .r) (AD.s (ws := []) rfl rfl (fun H' _ hH => op_moveD .r) (AD.s (ws := []) rfl rfl (fun H' _ hH => op_subw (.r rfl) (.r rfl)) ?_)))))))
  obtain ⟨v3, hv3, hm⟩ := bindE hm
  refine AD.s (ws := []) rfl rfl (fun H' _ hH => op_indexAddrM (f := D.str) (.r rfl) (.r rfl) hv3 En.str sl22) (AD.s (ws := []) rfl rfl (fun H' _ hH => op_load_vp1 .r rfl sc9) (AD.s (ws := []) rfl rfl (fun H' _ hH => op_moveD .r) (AD.s (ws := []) rfl rfl (fun H' _ hH => op_moveD .r) ?_)))
  obtain ⟨v4, hv4, hm⟩ := bindE hm
  refine AD.s (ws := []) rfl rfl (fun H' _ hH => op_indexAddrM (f := D.str) (.r rfl) (.r rfl) hv4 En.str sl22) (AD.s (ws := []) rfl rfl (fun H' _ hH => op_load_vp1 .r rfl sc9) (AD.s (ws := []) rfl rfl (fun H' _ hH => op_geqS (.r rfl) (.r rfl)) (AD.nil ?_)))
  refine AW.cond (b := _) rfl (fun hc2 => ?_) (fun hc2 => ?_)
  ·replace hm := iteT hc2 hm
   refine zr (za rfl (zn (AW.ret (bq_ret (tq_ret (tq_ret ?_))))))
   obtain rfl := Option.some.inj hm
   obtain rfl := Option.some.inj hI1
   replace hm := hk1
   try dsimp only at hm
   refine bq_ret (tq_ret ?_)
   obtain rfl := Option.some.inj hm
   exact EndQ.d (.tmp .r .nil) rfl rfl
  ·replace hm := iteF hc2 hm
   refine AW.skip (bq_n (nq (AW.region (zm rfl (zs (op_addw (.r rfl) (.r rfl)) (za rfl (zn ?_)))))))
   obtain rfl := Option.some.inj hm
   exact nq ⟨_, hI1, ⟨[], rfl, rfl, rfl, ⟨(.d rfl), (.d rfl), trivial⟩, trivial, .nil⟩⟩
 ·replace hm := iteF hc1 hm
  refine AW.exit (tq_exit (tq_exit ?_))
  obtain rfl := Option.some.inj hm
  obtain rfl := Option.some.inj hI1
  replace hm := hk1
  try dsimp only at hm
  refine bq_hit (nq (zr (za rfl (zn (AW.ret ?_)))))
  obtain rfl := Option.some.inj hm
  exact EndQ.d (.tmp .r .nil) rfl rfl

theorem m_ref29_Valid_ok {n : Nat} {a1 : SFeatures} {r : Bool} (hm : m_ref29_Valid n a1 = some r) : Fn Tryz.prog 27 [(SFeatures.e a1)] (.bool r) := by
 unfold m_ref29_Valid at hm
 refine Fn.of_AW (fnn := Tryz.f27) Tryz.func27 rfl (Nat.le_of_ble_eq_true rfl) (fun g0 w0 hw0 => ?_)
 refine AW.reset 0 [(0, .d (SFeatures.e a1))] [] (WOK.g0 hw0 (by simp)) ⟨[], rfl, rfl, rfl, ⟨(.d rfl), trivial⟩, trivial, .nil⟩ (zr (zs (op_box (n := 0) .r rfl rfl rfl) (za rfl (zn (AW.seq (zr (za rfl (zn (AW.block ?_)))))))))
 obtain ⟨t_1, hI1, hk1⟩ := bindE hm
 refine AW.loopS (σ := Int) (τ := (Bool ⊕ Unit)) 0 (fun x => [(1, .ptr 0 0), (3, .d (.int .i64 x))]) (fun x => [.row ((SFeatures.e a1).cells.map .d)]) hI1 (WOK.g0 hw0 (by simp)) ⟨[0], rfl, rfl, rfl, ⟨(.ptr rfl), (.d rfl), trivial⟩, trivial, (.row rfl (cd (SFeatures.e a1).cells) .nil)⟩ ?_
 rintro n1 s2 hI1
 obtain ⟨y_1, hm, hI1⟩ := iterS hI1
 replace hm : m_ref29_Valid_L1 n _ s2 = some y_1 := hm
 unfold m_ref29_Valid_L1 at hm
 try dsimp only at hm
 refine AW.seq (zr (zm rfl (zs (op_field_ptr .r fd25_3) (zs (op_load_ptr1 .r rfl rfl sc23) (zs (op_lenM (f := D.i) (.r rfl) sl23) (zs (op_lss (.r rfl) (.r rfl)) (zn ?_)))))))
 refine AW.cond (b := _) rfl (fun hc1 => ?_) (fun hc1 => ?_)
 ·replace hm := iteT hc1 hm
  refine AW.skip (nq (AW.seq (AW.block (AW.seqD [([], []), ([0], []), ([], []), ([], []), ([], []), ([], []), ([], []), ([], []), ([0], []), ([], []), ([], []), ([], []), ([], []), ([], []), ([], []), ([], []), ([], []), ([], []), ([], []), ([0], []), ([], []), ([], []), ([], []), ([], []), ([], []), ([0], []), ([], []), ([], []), ([], []), ([], []), ([], []), ([], [])] mo (by decide +kernel) (AD.s (ws := []) rfl rfl (fun H' _ hH => op_field_ptr .r fd25_3) (AD.s (ws := []) rfl rfl (fun H' _ hH => op_load_ptr1 .r ((hH _ (by simp)).trans rfl) rfl sc23) (AD.s (ws := []) rfl rfl (fun H' _ hH => op_moveD .r) ?_)))))))
  obtain ⟨v3, hv3, hm⟩ := bindE hm
  refine AD.s (ws := []) rfl rfl (fun H' _ hH => op_indexAddrM (f := D.i) (.r rfl) (.r rfl) hv3 En.i sl23) (AD.s (ws := []) rfl rfl (fun H' _ hH => op_load_vp1 .r rfl sc3) (AD.s (ws := []) rfl rfl (fun H' _ hH => op_lss (.r rfl) (.r rfl)) (AD.s (ws := []) rfl rfl (fun H' _ hH => op_moveD .r) (AD.sF rfl rfl rfl rfl (fun g H' _ hH => op_field_ptr .r fd25_3) (AD.sF rfl rfl rfl rfl (fun g H' _ hH => op_load_ptr1 (.we (nt g) rfl) ((hH _ (by simp)).trans rfl) rfl sc23) (AD.sF rfl rfl rfl rfl (fun g H' _ hH => op_moveD .r) ?_))))))
  obtain ⟨v4, hv4, hm⟩ := bindE hm
  refine AD.sF rfl rfl rfl rfl (fun g H' _ hH => op_indexAddrM (f := D.i) (.we (nt g) rfl rfl) (.we (nt g) rfl rfl) (iteT (nt g) hv4) En.i sl23) (AD.sF rfl rfl rfl rfl (fun g H' _ hH => op_load_vp1 (.we (nt g) rfl) rfl sc3) (AD.sF rfl rfl rfl rfl (fun g H' _ hH => op_gtr (.we (nt g) rfl rfl) (.r rfl)) (AD.s (ws := []) rfl rfl (fun H' _ hH => op_or (.r rfl) rfl (fun h => (.we (nt h) rfl rfl))) (AD.s (ws := []) rfl rfl (fun H' _ hH => op_moveD .r) (AD.sF rfl rfl rfl rfl (fun g H' _ hH => op_moveD .r) (AD.sF rfl rfl rfl rfl (fun g H' _ hH => op_gtr (.we (nt g) rfl rfl) (.r rfl)) (AD.sF rfl rfl rfl rfl (fun g H' _ hH => op_moveD (.we (nt g) rfl)) (AD.sTT rfl rfl rfl rfl (fun gp g H' _ hH => op_field_ptr .r fd25_3) (AD.sTT rfl rfl rfl rfl (fun gp g H' _ hH => op_load_ptr1 (.we (an gp g) rfl) ((hH _ (by simp)).trans rfl) rfl sc23) (AD.sTT rfl rfl rfl rfl (fun gp g H' _ hH => op_moveD .r) (AD.sTT rfl rfl rfl rfl (fun gp g H' _ hH => op_subw (.we (an gp g) rfl rfl) (.r rfl)) ?_)))))))))))
  obtain ⟨v5, hv5, hm⟩ := bindE hm
  refine AD.sTT rfl rfl rfl rfl (fun gp g H' _ hH => op_indexAddrM (f := D.i) (.we (an gp g) rfl rfl) (.we (an gp g) rfl rfl) (iteT (an gp g) hv5) En.i sl23) (AD.sTT rfl rfl rfl rfl (fun gp g H' _ hH => op_load_vp1 (.we (an gp g) rfl) rfl sc3) (AD.sTT rfl rfl rfl rfl (fun gp g H' _ hH => op_field_ptr .r fd25_3) (AD.sTT rfl rfl rfl rfl (fun gp g H' _ hH => op_load_ptr1 (.we (an gp g) rfl) ((hH _ (by simp)).trans rfl) rfl sc23) (AD.sTT rfl rfl rfl rfl (fun gp g H' _ hH => op_moveD .r) ?_))))
  obtain ⟨v6, hv6, hm⟩ := bindE hm
  refine AD.sTT rfl rfl rfl rfl (fun gp g H' _ hH => op_indexAddrM (f := D.i) (.we (an gp g) rfl rfl) (.we (an gp g) rfl rfl) (iteT (an gp g) hv6) En.i sl23) (AD.sTT rfl rfl rfl rfl (fun gp g H' _ hH => op_load_vp1 (.we (an gp g) rfl) rfl sc3) (AD.sTT rfl rfl rfl rfl (fun gp g H' _ hH => op_geq (.we (an gp g) rfl rfl) (.we (an gp g) rfl rfl)) (AD.sF rfl rfl rfl rfl (fun g H' _ hH => op_and (.we (nt g) rfl rfl) (fun h => (.we (an (nt g) h) rfl rfl)) rfl) (AD.s (ws := []) rfl rfl (fun H' _ hH => op_or (.r rfl) rfl (fun h => (.we (nt h) rfl rfl))) (AD.nil ?_)))))
  refine AW.cond (b := _) rfl (fun hc2 => ?_) (fun hc2 => ?_)
  ·replace hm := iteT hc2 hm
   refine zr (za rfl (zn (AW.ret (bq_ret (tq_ret (tq_ret ?_))))))
   obtain rfl := Option.some.inj hm
   obtain rfl := Option.some.inj hI1
   replace hm := hk1
   try dsimp only at hm
   refine bq_ret (tq_ret ?_)
   obtain rfl := Option.some.inj hm
   exact EndQ.d (.tmp .r .nil) rfl rfl
  ·replace hm := iteF hc2 hm
   refine AW.skip (bq_n (nq (AW.region (zm rfl (zs (op_addw (.r rfl) (.r rfl)) (za rfl (zn ?_)))))))
   obtain rfl := Option.some.inj hm
   exact nq ⟨_, hI1, ⟨[0], rfl, rfl, rfl, ⟨(.ptr rfl), (.d rfl), trivial⟩, trivial, (.row rfl (cd (SFeatures.e a1).cells) .nil)⟩⟩
 ·replace hm := iteF hc1 hm
  refine AW.exit (tq_exit (tq_exit ?_))
  obtain rfl := Option.some.inj hm
  obtain rfl := Option.some.inj hI1
  replace hm := hk1
  try dsimp only at hm
  refine bq_hit (nq (AW.seq (AW.reset 0 [(1, .ptr 0 0)] [.row ((SFeatures.e a1).cells.map .d)] (WOK.g0 hw0 (by simp)) ⟨[0], rfl, rfl, rfl, ⟨(.ptr rfl), trivial⟩, trivial, (.row rfl (cd (SFeatures.e a1).cells) .nil)⟩ (zr (za rfl (zn (AW.block ?_)))))))
  obtain ⟨t_2, hI2, hk2⟩ := bindE hm
  refine AW.loopS (σ := Int) (τ := (Bool ⊕ Unit)) 0 (fun x => [(1, .ptr 0 0), (4, .d (.int .i64 x))]) (fun x => [.row ((SFeatures.e a1).cells.map .d)]) hI2 (WOK.g0 hw0 (by simp)) ⟨[0], rfl, rfl, rfl, ⟨(.ptr rfl), (.d rfl), trivial⟩, trivial, (.row rfl (cd (SFeatures.e a1).cells) .nil)⟩ ?_
  rintro n2 s7 hI2
  obtain ⟨y_2, hm, hI2⟩ := iterS hI2
  replace hm : m_ref29_Valid_L2 n _ s7 = some y_2 := hm
  unfold m_ref29_Valid_L2 at hm
  try dsimp only at hm
  refine AW.seq (zr (zm rfl (zs (op_field_ptr .r fd25_4) (zs (op_load_ptr1 .r rfl rfl sc22) (zs (op_lenM (f := D.str) (.r rfl) sl22) (zs (op_lss (.r rfl) (.r rfl)) (zn ?_)))))))
  refine AW.cond (b := _) rfl (fun hc3 => ?_) (fun hc3 => ?_)
  ·replace hm := iteT hc3 hm
   refine AW.skip (nq (AW.seq (AW.block (zr (zs (op_field_ptr .r fd25_4) (zs (op_load_ptr1 .r rfl rfl sc22) (zm rfl ?_)))))))
   obtain ⟨v8, hv8, hm⟩ := bindE hm
   refine zs (op_indexAddrM (f := D.str) (.r rfl) (.r rfl) hv8 En.str sl22) (zs (op_load_vp1 .r rfl sc9) ?_)
   obtain ⟨v9, hv9, hm⟩ := bindE hm
   refine zs (op_fn Tryz.call58 .r (.cons (.r rfl) (.cons (.r rfl) (.cons (.r rfl) (.cons (.r rfl) .nil)))) (m_ref29_made_ok hv9)) (zs (op_not (.r rfl)) (zn ?_))
   refine AW.cond (b := _) rfl (fun hc4 => ?_) (fun hc4 => ?_)
   ·replace hm := iteT hc4 hm
    refine zr (za rfl (zn (AW.ret (bq_ret (tq_ret (tq_ret ?_))))))
    obtain rfl := Option.some.inj hm
    obtain rfl := Option.some.inj hI2
    replace hm := hk2
    try dsimp only at hm
    refine bq_ret (tq_ret ?_)
    obtain rfl := Option.some.inj hm
    exact EndQ.d (.tmp .r .nil) rfl rfl
   ·replace hm := iteF hc4 hm
    refine AW.skip (bq_n (nq (AW.region (zm rfl (zs (op_addw (.r rfl) (.r rfl)) (za rfl (zn ?_)))))))
    obtain rfl := Option.some.inj hm
    exact nq ⟨_, hI2, ⟨[0], rfl, rfl, rfl, ⟨(.ptr rfl), (.d rfl), trivial⟩, trivial, (.row rfl (cd (SFeatures.e a1).cells) .nil)⟩⟩
  ·replace hm := iteF hc3 hm
   refine AW.exit (tq_exit (tq_exit ?_))
   obtain rfl := Option.some.inj hm
   obtain rfl := Option.some.inj hI2
   replace hm := hk2
   try dsimp only at hm
   refine bq_hit (nq (AW.seq (zr (za rfl (zn (AW.block ?_))))))
   obtain ⟨t_3, hI3, hk3⟩ := bindE hm
   refine AW.loopS (σ := Int) (τ := (Bool ⊕ Unit)) 0 (fun x => [(1, .ptr 0 0), (5, .d (.int .i64 x))]) (fun x => [.row ((SFeatures.e a1).cells.map .d)]) hI3 (WOK.g0 hw0 (by simp)) ⟨[0], rfl, rfl, rfl, ⟨(.ptr rfl), (.d rfl), trivial⟩, trivial, (.row rfl (cd (SFeatures.e a1).cells) .nil)⟩ ?_
   rintro n3 s10 hI3
   obtain ⟨y_3, hm, hI3⟩ := iterS hI3
   replace hm : m_ref29_Valid_L3 n _ s10 = some y_3 := hm
   unfold m_ref29_Valid_L3 at hm
   try dsimp only at hm
   refine AW.seq (zr (zm rfl (zs (op_field_ptr .r fd25_5) (zs (op_load_ptr1 .r rfl rfl sc22) (zs (op_lenM (f := D.str) (.r rfl) sl22) (zs (op_lss (.r rfl) (.r rfl)) (zn ?_)))))))
   refine AW.cond (b := _) rfl (fun hc5 => ?_) (fun hc5 => ?_)
   ·replace hm := iteT hc5 hm
    refine AW.skip (nq (AW.seq (AW.block (zr (zs (op_field_ptr .r fd25_5) (zs (op_load_ptr1 .r rfl rfl sc22) (zm rfl ?_)))))))
    obtain ⟨v11, hv11, hm⟩ := bindE hm
    refine zs (op_indexAddrM (f := D.str) (.r rfl) (.r rfl) hv11 En.str sl22) (zs (op_load_vp1 .r rfl sc9) ?_)
    obtain ⟨v12, hv12, hm⟩ := bindE hm
    refine zs (op_fn Tryz.call58 .r (.cons (.r rfl) (.cons (.r rfl) (.cons (.r rfl) (.cons (.r rfl) .nil)))) (m_ref29_made_ok hv12)) (zs (op_not (.r rfl)) (zn ?_))
    refine AW.cond (b := _) rfl (fun hc6 => ?_) (fun hc6 => ?_)
    ·replace hm := iteT hc6 hm
     refine zr (za rfl (zn (AW.ret (bq_ret (tq_ret (tq_ret ?_))))))
     obtain rfl := Option.some.inj hm
     obtain rfl := Option.some.inj hI3
     replace hm := hk3
     try dsimp only at hm
     refine bq_ret (tq_ret ?_)
     obtain rfl := Option.some.inj hm
     exact EndQ.d (.tmp .r .nil) rfl rfl
    ·replace hm := iteF hc6 hm
     refine AW.skip (bq_n (nq (AW.region (zm rfl (zs (op_addw (.r rfl) (.r rfl)) (za rfl (zn ?_)))))))
     obtain rfl := Option.some.inj hm
     exact nq ⟨_, hI3, ⟨[0], rfl, rfl, rfl, ⟨(.ptr rfl), (.d rfl), trivial⟩, trivial, (.row rfl (cd (SFeatures.e a1).cells) .nil)⟩⟩
   ·replace hm := iteF hc5 hm
    refine AW.exit (tq_exit (tq_exit ?_))
    obtain rfl := Option.some.inj hm
    obtain rfl := Option.some.inj hI3
    replace hm := hk3
    try dsimp only at hm
    refine bq_hit (nq (AW.seq (zr (zs (op_field_ptr .r fd25_3) (zs (op_load_ptr1 .r rfl rfl sc23) (zs (op_lenM (f := D.i) (.r rfl) sl23) (zs (op_gtr (.r rfl) (.r rfl)) (zm rfl (AL.sF rfl rfl rfl rfl (fun g => op_field_ptr .r fd25_4) (AL.sF rfl rfl rfl rfl (fun g => op_load_ptr1 (.we (nt g) rfl) rfl rfl sc22) (AL.sF rfl rfl rfl rfl (fun g => op_lenM (f := D.str) (.we (nt g) rfl rfl) sl22) (AL.sF rfl rfl rfl rfl (fun g => op_gtr (.we (nt g) rfl rfl) (.r rfl)) (zs (op_or (.r rfl) rfl (fun h => (.we (nt h) rfl rfl))) (zm rfl (AL.sF rfl rfl rfl rfl (fun g => op_field_ptr .r fd25_5) (AL.sF rfl rfl rfl rfl (fun g => op_load_ptr1 (.we (nt g) rfl) rfl rfl sc22) (AL.sF rfl rfl rfl rfl (fun g => op_lenM (f := D.str) (.we (nt g) rfl rfl) sl22) (AL.sF rfl rfl rfl rfl (fun g => op_gtr (.we (nt g) rfl rfl) (.r rfl)) (zs (op_or (.r rfl) rfl (fun h => (.we (nt h) rfl rfl))) (zm rfl (AL.sF rfl rfl rfl rfl (fun g => op_field_ptr .r fd25_0) (AL.sF rfl rfl rfl rfl (fun g => op_load_ptr1 (.we (nt g) rfl) rfl rfl sc3) (AL.sF rfl rfl rfl rfl (fun g => op_lss (.we (nt g) rfl rfl) (.r rfl)) (zs (op_or (.r rfl) rfl (fun h => (.we (nt h) rfl rfl))) (zm rfl (AL.sF rfl rfl rfl rfl (fun g => op_field_ptr .r fd25_0) (AL.sF rfl rfl rfl rfl (fun g => op_load_ptr1 (.we (nt g) rfl) rfl rfl sc3) (AL.sF rfl rfl rfl rfl (fun g => op_gtr (.we (nt g) rfl rfl) (.r rfl)) (zs (op_or (.r rfl) rfl (fun h => (.we (nt h) rfl rfl))) (zn ?_))))))))))))))))))))))))))))))
    refine AW.cond (b := _) rfl (fun hc7 => ?_) (fun hc7 => ?_)
    ·replace hm := iteT hc7 hm
     refine AW.reset 0 [] [.row ((SFeatures.e a1).cells.map .d)] (WOK.g0 hw0 (by simp)) ⟨[0], rfl, rfl, rfl, trivial, trivial, (.row rfl (cd (SFeatures.e a1).cells) .nil)⟩ (zr (za rfl (zn (AW.ret (tq_ret ?_)))))
     obtain rfl := Option.some.inj hm
     exact EndQ.d (.tmp .r .nil) rfl rfl
    ·replace hm := iteF hc7 hm
     refine AW.skip (nq (zr (zs (op_field_ptr .r fd25_1) (zs (op_load_ptr1 .r rfl rfl sc22) ?_))))
     obtain ⟨v13, hv13, hm⟩ := bindE hm
     refine zs (op_fn Tryz.call59 .r (.cons (.r rfl) .nil) (m_ref29_Words_ok hv13)) (zm rfl (AL.sT rfl rfl rfl rfl (fun g => op_field_ptr .r fd25_6) (AL.sT rfl rfl rfl rfl (fun g => op_load_ptr1 (.we g rfl) rfl rfl sc22) ?_)))
     obtain ⟨v14, hv14, hm⟩ := bindE hm
     refine AL.sT rfl rfl rfl rfl (fun g => op_fn Tryz.call59 .r (.cons (.we g rfl rfl) .nil) (m_ref29_Words_ok (iteT g hv14))) (zs (op_and (.r rfl) (fun h => (.we h rfl rfl)) rfl) (zm rfl (AL.sT rfl rfl rfl rfl (fun g => op_field_ptr .r fd25_7) (AL.sT rfl rfl rfl rfl (fun g => op_load_ptr1 (.we g rfl) rfl rfl sc22) ?_))))
     obtain ⟨v15, hv15, hm⟩ := bindE hm
     refine AL.sT rfl rfl rfl rfl (fun g => op_fn Tryz.call59 .r (.cons (.we g rfl rfl) .nil) (m_ref29_Words_ok (iteT g hv15))) (zs (op_and (.r rfl) (fun h => (.we h rfl rfl)) rfl) (zm rfl (AL.sT rfl rfl rfl rfl (fun g => op_field_ptr .r fd25_2) (AL.sT rfl rfl rfl rfl (fun g => op_load_ptr1 (.we g rfl) rfl rfl sc9) ?_))))
     obtain ⟨v16, hv16, hm⟩ := bindE hm
     refine AL.sT rfl rfl rfl rfl (fun g => op_fn Tryz.call60 .r (.cons (.we g rfl rfl) .nil) (m_ref29_key_ok (iteT g hv16))) (zs (op_and (.r rfl) (fun h => (.we h rfl rfl)) rfl) (zm rfl (AL.sT rfl rfl rfl rfl (fun g => op_field_ptr .r fd25_4) (AL.sT rfl rfl rfl rfl (fun g => op_load_ptr1 (.we g rfl) rfl rfl sc22) ?_))))
     obtain ⟨v17, hv17, hm⟩ := bindE hm
     refine AL.sT rfl rfl rfl rfl (fun g => op_fn Tryz.call61 .r (.cons (.we g rfl rfl) .nil) (m_ref29_Ascending_ok (iteT g hv17))) (zs (op_and (.r rfl) (fun h => (.we h rfl rfl)) rfl) (zm rfl (AL.sT rfl rfl rfl rfl (fun g => op_field_ptr .r fd25_5) (AL.sT rfl rfl rfl rfl (fun g => op_load_ptr1 (.we g rfl) rfl rfl sc22) ?_))))
     obtain ⟨v18, hv18, hm⟩ := bindE hm
     refine AL.sT rfl rfl rfl rfl (fun g => op_fn Tryz.call61 .r (.cons (.we g rfl rfl) .nil) (m_ref29_Ascending_ok (iteT g hv18))) (zs (op_and (.r rfl) (fun h => (.we h rfl rfl)) rfl) (zm rfl (AL.sT rfl rfl rfl rfl (fun g => op_field_ptr .r fd25_6) (AL.sT rfl rfl rfl rfl (fun g => op_load_ptr1 (.we g rfl) rfl rfl sc22) ?_))))
     obtain ⟨v19, hv19, hm⟩ := bindE hm
     refine AL.sT rfl rfl rfl rfl (fun g => op_fn Tryz.call61 .r (.cons (.we g rfl rfl) .nil) (m_ref29_Ascending_ok (iteT g hv19))) (zs (op_and (.r rfl) (fun h => (.we h rfl rfl)) rfl) (zm rfl (AL.sT rfl rfl rfl rfl (fun g => op_field_ptr .r fd25_7) (AL.sT rfl rfl rfl rfl (fun g => op_load_ptr1 (.we g rfl) rfl rfl sc22) ?_))))
     obtain ⟨v20, hv20, hm⟩ := bindE hm
     refine AL.sT rfl rfl rfl rfl (fun g => op_fn Tryz.call61 .r (.cons (.we g rfl rfl) .nil) (m_ref29_Ascending_ok (iteT g hv20))) (zs (op_and (.r rfl) (fun h => (.we h rfl rfl)) rfl) (za rfl (zn (AW.ret ?_))))
     obtain rfl := Option.some.inj hm
     exact EndQ.d (.tmp .r .nil) rfl rfl

theorem m_ref31_in_ok {n : Nat} {a1 : (List (List UInt8))} {a2 : (List UInt8)} {r : Bool} (hm : m_ref31_in n a1 a2 = some r) : Fn Tryz.prog 107 [(.sl (a1.map D.str)), (.str a2)] (.bool r) := by
 unfold m_ref31_in at hm
 refine Fn.of_AW (fnn := Tryz.f107) Tryz.func107 rfl (Nat.le_of_ble_eq_true rfl) (fun g0 w0 hw0 => ?_)
 refine AW.reset 0 [(0, .d (.sl (a1.map D.str))), (1, .d (.str a2))] [] (WOK.g0 hw0 (by simp)) ⟨[], rfl, rfl, rfl, ⟨(.d rfl), (.d rfl), trivial⟩, trivial, .nil⟩ (zr (za rfl (zn (AW.seq (zr (za rfl (zn (AW.block ?_))))))))
 obtain ⟨t_1, hI1, hk1⟩ := bindE hm
 refine AW.loopS (σ := Int) (τ := (Bool ⊕ Unit)) 0 (fun x => [(0, .d (.sl (a1.map D.str))), (1, .d (.str a2)), (5, .d (.int .i64 x))]) (fun x => []) hI1 (WOK.g0 hw0 (by simp)) ⟨[], rfl, rfl, rfl, ⟨(.d rfl), (.d rfl), (.d rfl), trivial⟩, trivial, .nil⟩ ?_
 rintro n1 s3 hI1
 obtain ⟨y_1, hm, hI1⟩ := iterS hI1
 replace hm : m_ref31_in_L1 n _ _ s3 = some y_1 := hm
 unfold m_ref31_in_L1 at hm
 try dsimp only at hm
 refine AW.seq (zr (zm rfl (zm rfl (zs (op_lenM (f := D.str) (.r rfl) sl22) (zs (op_lss (.r rfl) (.r rfl)) (zn ?_))))))
 refine AW.cond (b := _) rfl (fun hc1 => ?_) (fun hc1 => ?_)
 ·replace hm := iteT hc1 hm
  refine AW.skip (nq (AW.seq (AW.block (zr (zm rfl (zm rfl ?_))))))
  obtain ⟨v4, hv4, hm⟩ := bindE hm
  refine zs (op_indexAddrM (f := D.str) (.r rfl) (.r rfl) hv4 En.str sl22) (zs (op_load_vp1 .r rfl sc9) (zm rfl (zs (op_eqlS (.r rfl) (.r rfl)) (zn ?_))))
  refine AW.cond (b := _) rfl (fun hc2 => ?_) (fun hc2 => ?_)
  ·replace hm := iteT hc2 hm
   refine zr (za rfl (zn (AW.ret (bq_ret (tq_ret (tq_ret ?_))))))
   obtain rfl := Option.some.inj hm
   obtain rfl := Option.some.inj hI1
   replace hm := hk1
   try dsimp only at hm
   refine bq_ret (tq_ret ?_)
   obtain rfl := Option.some.inj hm
   exact EndQ.d (.tmp .r .nil) rfl rfl
  ·replace hm := iteF hc2 hm
   refine AW.skip (bq_n (nq (AW.region (zm rfl (zs (op_addw (.r rfl) (.r rfl)) (za rfl (zn ?_)))))))
   obtain rfl := Option.some.inj hm
   exact nq ⟨_, hI1, ⟨[], rfl, rfl, rfl, ⟨(.d rfl), (.d rfl), (.d rfl), trivial⟩, trivial, .nil⟩⟩
 ·replace hm := iteF hc1 hm
  refine AW.exit (tq_exit (tq_exit ?_))
  obtain rfl := Option.some.inj hm
  obtain rfl := Option.some.inj hI1
  replace hm := hk1
  try dsimp only at hm
  refine bq_hit (nq (zr (za rfl (zn (AW.ret ?_)))))
  obtain rfl := Option.some.inj hm
  exact EndQ.d (.tmp .r .nil) rfl rfl

theorem m_ref31_common_ok {n : Nat} {a1 : (List (List UInt8))} {a2 : (List (List UInt8))} {r : Int} (hm : m_ref31_common n a1 a2 = some r) : Fn Tryz.prog 88 [(.sl (a1.map D.str)), (.sl (a2.map D.str))] (.int .i64 r) := by
 unfold m_ref31_common at hm
 refine Fn.of_AW (fnn := Tryz.f88) Tryz.func88 rfl (Nat.le_of_ble_eq_true rfl) (fun g0 w0 hw0 => ?_)
 refine AW.reset 0 [(0, .d (.sl (a1.map D.str))), (1, .d (.sl (a2.map D.str)))] [] (WOK.g0 hw0 (by simp)) ⟨[], rfl, rfl, rfl, ⟨(.d rfl), (.d rfl), trivial⟩, trivial, .nil⟩ (zr (za rfl (zn (zr (za rfl (zn (AW.seq (zr (za rfl (zn (AW.block ?_)))))))))))
 obtain ⟨t_1, hI1, hk1⟩ := bindE hm
 refine AW.loopS (σ := (Int × Int)) (τ := Int) 0 (fun x => [(0, .d (.sl (a1.map D.str))), (1, .d (.sl (a2.map D.str))), (5, .d (.int .i64 x.1)), (6, .d (.int .i64 x.2))]) (fun x => []) hI1 (WOK.g0 hw0 (by simp)) ⟨[], rfl, rfl, rfl, ⟨(.d rfl), (.d rfl), (.d rfl), (.d rfl), trivial⟩, trivial, .nil⟩ ?_
 rintro n1 ⟨s3, s4⟩ hI1
 obtain ⟨y_1, hm, hI1⟩ := iterS hI1
 replace hm : m_ref31_common_L1 n _ _ s3 s4 = some y_1 := hm
 unfold m_ref31_common_L1 at hm
 try dsimp only at hm
 refine AW.seq (zr (zm rfl (zm rfl (zs (op_lenM (f := D.str) (.r rfl) sl22) (zs (op_lss (.r rfl) (.r rfl)) (zn ?_))))))
 refine AW.cond (b := _) rfl (fun hc1 => ?_) (fun hc1 => ?_)
 ·replace hm := iteT hc1 hm
  refine AW.skip (nq ?_)
  obtain ⟨t_j1, hm, hkj1⟩ := bindE hm
  refine AW.cutS (α := Int) 0 (fun x => x = t_j1) (fun x => [(0, .d (.sl (a1.map D.str))), (1, .d (.sl (a2.map D.str))), (5, .d (.int .i64 x)), (6, .d (.int .i64 s4))]) (fun x => []) (WOK.g0 hw0 (by simp)) ?_ ?_
  ·skip
   refine AW.block (AW.seqD [([], []), ([], []), ([], []), ([], []), ([], []), ([], []), ([], []), ([], []), ([], []), ([], []), ([], []), ([], []), ([], []), ([], []), ([], []), ([], []), ([], [])] mo (by decide +kernel) (AD.s (ws := []) rfl rfl (fun H' _ hH => op_moveD .r) (AD.s (ws := []) rfl rfl (fun H' _ hH => op_moveD .r) (AD.s (ws := []) rfl rfl (fun H' _ hH => op_moveD .r) ?_))))
   obtain ⟨v5, hv5, hm⟩ := bindE hm
   refine AD.s (ws := []) rfl rfl (fun H' _ hH => op_indexAddrM (f := D.str) (.r rfl) (.r rfl) hv5 En.str sl22) (AD.s (ws := []) rfl rfl (fun H' _ hH => op_load_vp1 .r rfl sc9) ?_)
   obtain ⟨v6, hv6, hm⟩ := bindE hm
   refine AD.s (ws := []) rfl rfl (fun H' _ hH => op_fn Tryz.call107 .r (.cons (.r rfl) (.cons (.r rfl) .nil)) (m_ref31_in_ok hv6)) (AD.s (ws := []) rfl rfl (fun H' _ hH => op_moveD .r) (AD.sT rfl rfl rfl rfl (fun g H' _ hH => op_moveD .r) (AD.sT rfl rfl rfl rfl (fun g H' _ hH => op_moveD .r) ?_)))
   obtain ⟨v7, hv7, hm⟩ := bindE hm
   refine AD.sT rfl rfl rfl rfl (fun g H' _ hH => op_sliceM (f := D.str) (.we g rfl rfl) sl22 rfl (.we g rfl rfl) En.str (iteT g hv7)) (AD.sT rfl rfl rfl rfl (fun g H' _ hH => op_moveD .r) (AD.sT rfl rfl rfl rfl (fun g H' _ hH => op_moveD .r) ?_))
   obtain ⟨v8, hv8, hm⟩ := bindE hm
   refine AD.sT rfl rfl rfl rfl (fun g H' _ hH => op_indexAddrM (f := D.str) (.we g rfl rfl) (.we g rfl rfl) (iteT g hv8) En.str sl22) (AD.sT rfl rfl rfl rfl (fun g H' _ hH => op_load_vp1 (.we g rfl) rfl sc9) ?_)
   obtain ⟨v9, hv9, hm⟩ := bindE hm
   refine AD.sT rfl rfl rfl rfl (fun g H' _ hH => op_fn Tryz.call107 .r (.cons (.we g rfl rfl) (.cons (.we g rfl rfl) .nil)) (m_ref31_in_ok (iteT g hv9))) (AD.sT rfl rfl rfl rfl (fun g H' _ hH => op_not (.we g rfl rfl)) (AD.s (ws := []) rfl rfl (fun H' _ hH => op_and (.r rfl) (fun h => (.we h rfl rfl)) rfl) (AD.nil ?_)))
   refine AW.cond (b := _) rfl (fun hc2 => ?_) (fun hc2 => ?_)
   ·replace hm := iteT hc2 hm
    refine AW.reset 0 [(0, .d (.sl (a1.map D.str))), (1, .d (.sl (a2.map D.str))), (5, .d (.int .i64 s3)), (6, .d (.int .i64 s4))] [] (WOK.g0 hw0 (by simp)) ⟨[], rfl, rfl, rfl, ⟨(.d rfl), (.d rfl), (.d rfl), (.d rfl), trivial⟩, trivial, .nil⟩ (AW.region (zm rfl (zs (op_addw (.r rfl) (.r rfl)) (za rfl (zn (bq_n ?_))))))
    obtain rfl := Option.some.inj hm
    exact nq ⟨_, rfl, ⟨[], rfl, rfl, rfl, ⟨(.d rfl), (.d rfl), (.d rfl), (.d rfl), trivial⟩, trivial, .nil⟩⟩
   ·replace hm := iteF hc2 hm
    refine AW.skip (bq_n ?_)
    obtain rfl := Option.some.inj hm
    exact nq ⟨_, rfl, ⟨[], rfl, rfl, rfl, ⟨(.d rfl), (.d rfl), (.d rfl), (.d rfl), trivial⟩, trivial, .nil⟩⟩
  ·rintro s10 rfl
   replace hm := hkj1
   try dsimp only at hm
   refine AW.region (zm rfl (zs (op_addw (.r rfl) (.r rfl)) (za rfl (zn ?_))))
   obtain rfl := Option.some.inj hm
   exact nq ⟨_, hI1, ⟨[], rfl, rfl, rfl, ⟨(.d rfl), (.d rfl), (.d rfl), (.d rfl), trivial⟩, trivial, .nil⟩⟩
 ·replace hm := iteF hc1 hm
  refine AW.exit (tq_exit (tq_exit ?_))
  obtain rfl := Option.some.inj hm
  obtain rfl := Option.some.inj hI1
  replace hm := hk1
  try dsimp only at hm
  refine bq_hit (nq (zr (zm rfl (za rfl (zn (AW.ret ?_))))))
  obtain rfl := Option.some.inj hm
  exact EndQ.d (.tmp .r .nil) rfl rfl

theorem m_ref29_SameTexts_ok {n : Nat} {a1 : (List (List UInt8))} {a2 : (List (List UInt8))} {r : Bool} (hm : m_ref29_SameTexts n a1 a2 = some r) : Fn Tryz.prog 89 [(.sl (a1.map D.str)), (.sl (a2.map D.str))] (.bool r) := by
 unfold m_ref29_SameTexts at hm
 refine Fn.of_AW (fnn := Tryz.f89) Tryz.func89 rfl (Nat.le_of_ble_eq_true rfl) (fun g0 w0 hw0 => ?_)
 refine AW.reset 0 [(0, .d (.sl (a1.map D.str))), (1, .d (.sl (a2.map D.str)))] [] (WOK.g0 hw0 (by simp)) ⟨[], rfl, rfl, rfl, ⟨(.d rfl), (.d rfl), trivial⟩, trivial, .nil⟩ (zr (za rfl (zn (AW.seq (zr (zm rfl (zs (op_lenM (f := D.str) (.r rfl) sl22) (zm rfl (zs (op_lenM (f := D.str) (.r rfl) sl22) (zs (op_neq (.r rfl) (.r rfl)) (zn ?_)))))))))))
 refine AW.cond (b := _) rfl (fun hc1 => ?_) (fun hc1 => ?_)
 ·replace hm := iteT hc1 hm
  refine zr (za rfl (zn (AW.ret (tq_ret ?_))))
  obtain rfl := Option.some.inj hm
  exact EndQ.d (.tmp .r .nil) rfl rfl
 ·replace hm := iteF hc1 hm
  refine AW.skip (nq (AW.seq (zr (za rfl (zn (AW.block ?_))))))
  obtain ⟨t_1, hI1, hk1⟩ := bindE hm
  refine AW.loopS (σ := Int) (τ := (Bool ⊕ Unit)) 0 (fun x => [(0, .d (.sl (a1.map D.str))), (1, .d (.sl (a2.map D.str))), (5, .d (.int .i64 x))]) (fun x => []) hI1 (WOK.g0 hw0 (by simp)) ⟨[], rfl, rfl, rfl, ⟨(.d rfl), (.d rfl), (.d rfl), trivial⟩, trivial, .nil⟩ ?_
  rintro n1 s3 hI1
  obtain ⟨y_1, hm, hI1⟩ := iterS hI1
  replace hm : m_ref29_SameTexts_L1 n _ _ s3 = some y_1 := hm
  unfold m_ref29_SameTexts_L1 at hm
  try dsimp only at hm
  refine AW.seq (zr (zm rfl (zm rfl (zs (op_lenM (f := D.str) (.r rfl) sl22) (zs (op_lss (.r rfl) (.r rfl)) (zn ?_))))))
  refine AW.cond (b := _) rfl (fun hc2 => ?_) (fun hc2 => ?_)
  ·replace hm := iteT hc2 hm
   refine AW.skip (nq (AW.seq (AW.block (AW.seqD [([], []), ([], []), ([], []), ([], []), ([], []), ([], []), ([], []), ([], []), ([], [])] mo (by decide +kernel) (AD.s (ws := []) rfl rfl (fun H' _ hH => op_moveD .r) (AD.s (ws := []) rfl rfl (fun H' _ hH => op_moveD .r) ?_))))))
   obtain ⟨v4, hv4, hm⟩ := bindE hm
   refine AD.s (ws := []) rfl rfl (fun H' _ hH => op_indexAddrM (f := D.str) (.r rfl) (.r rfl) hv4 En.str sl22) (AD.s (ws := []) rfl rfl (fun H' _ hH => op_load_vp1 .r rfl sc9) (AD.s (ws := []) rfl rfl (fun H' _ hH => op_moveD .r) (AD.s (ws := []) rfl rfl (fun H' _ hH => op_moveD .r) ?_)))
   obtain ⟨v5, hv5, hm⟩ := bindE hm
   refine AD.s (ws := []) rfl rfl (fun H' _ hH => op_indexAddrM (f := D.str) (.r rfl) (.r rfl) hv5 En.str sl22) (AD.s (ws := []) rfl rfl (fun H' _ hH => op_load_vp1 .r rfl sc9) (AD.s (ws := []) rfl rfl (fun H' _ hH => op_neqS (.r rfl) (.r rfl)) (AD.nil ?_)))
   refine AW.cond (b := _) rfl (fun hc3 => ?_) (fun hc3 => ?_)
   ·replace hm := iteT hc3 hm
    refine zr (za rfl (zn (AW.ret (bq_ret (tq_ret (tq_ret ?_))))))
    obtain rfl := Option.some.inj hm
    obtain rfl := Option.some.inj hI1
    replace hm := hk1
    try dsimp only at hm
    refine bq_ret (tq_ret ?_)
    obtain rfl := Option.some.inj hm
    exact EndQ.d (.tmp .r .nil) rfl rfl
   ·replace hm := iteF hc3 hm
    refine AW.skip (bq_n (nq (AW.region (zm rfl (zs (op_addw (.r rfl) (.r rfl)) (za rfl (zn ?_)))))))
    obtain rfl := Option.some.inj hm
    exact nq ⟨_, hI1, ⟨[], rfl, rfl, rfl, ⟨(.d rfl), (.d rfl), (.d rfl), trivial⟩, trivial, .nil⟩⟩
  ·replace hm := iteF hc2 hm
   refine AW.exit (tq_exit (tq_exit ?_))
   obtain rfl := Option.some.inj hm
   obtain rfl := Option.some.inj hI1
   replace hm := hk1
   try dsimp only at hm
   refine bq_hit (nq (zr (za rfl (zn (AW.ret ?_)))))
   obtain rfl := Option.some.inj hm
   exact EndQ.d (.tmp .r .nil) rfl rfl

theorem m_ref31_joined_ok {n : Nat} {a1 : (List (List UInt8))} {r : (List UInt8)} (hm : m_ref31_joined n a1 = some r) : Fn Tryz.prog 91 [(.sl (a1.map D.str))] (.str r) := by
 unfold m_ref31_joined at hm
 refine Fn.of_AW (fnn := Tryz.f91) Tryz.func91 rfl (Nat.le_of_ble_eq_true rfl) (fun g0 w0 hw0 => ?_)
 refine AW.reset 0 [(0, .d (.sl (a1.map D.str)))] [] (WOK.g0 hw0 (by simp)) ⟨[], rfl, rfl, rfl, ⟨(.d rfl), trivial⟩, trivial, .nil⟩ (zr (za rfl (zn (zr (za rfl (zn (AW.seq (zr (za rfl (zn (AW.block ?_)))))))))))
 obtain ⟨t_1, hI1, hk1⟩ := bindE hm
 refine AW.loopS (σ := ((List UInt8) × Int)) (τ := (List UInt8)) 0 (fun x => [(0, .d (.sl (a1.map D.str))), (3, .d (.str x.1)), (4, .d (.int .i64 x.2))]) (fun x => []) hI1 (WOK.g0 hw0 (by simp)) ⟨[], rfl, rfl, rfl, ⟨(.d rfl), (.d rfl), (.d rfl), trivial⟩, trivial, .nil⟩ ?_
 rintro n1 ⟨s2, s3⟩ hI1
 obtain ⟨y_1, hm, hI1⟩ := iterS hI1
 replace hm : m_ref31_joined_L1 n _ s2 s3 = some y_1 := hm
 unfold m_ref31_joined_L1 at hm
 try dsimp only at hm
 refine AW.seq (zr (zm rfl (zm rfl (zs (op_lenM (f := D.str) (.r rfl) sl22) (zs (op_lss (.r rfl) (.r rfl)) (zn ?_))))))
 refine AW.cond (b := _) rfl (fun hc1 => ?_) (fun hc1 => ?_)
 ·replace hm := iteT hc1 hm
  refine AW.skip (nq (AW.seq (AW.block ?_)))
  obtain ⟨t_j1, hm, hkj1⟩ := bindE hm
  refine AW.cutS (α := (List UInt8)) 0 (fun x => x = t_j1) (fun x => [(0, .d (.sl (a1.map D.str))), (3, .d (.str x)), (4, .d (.int .i64 s3))]) (fun x => []) (WOK.g0 hw0 (by simp)) ?_ ?_
  ·skip
   refine zr (zm rfl (zs (op_gtr (.r rfl) (.r rfl)) (zn ?_)))
   refine AW.cond (b := _) rfl (fun hc2 => ?_) (fun hc2 => ?_)
   ·replace hm := iteT hc2 hm
    refine AW.region (zm rfl ?_)
    obtain ⟨v4, hv4, hm⟩ := bindE hm
    refine zs (op_addSM (.r rfl) (.r rfl) hv4) (za rfl (zn ?_))
    obtain rfl := Option.some.inj hm
    exact nq ⟨_, rfl, ⟨[], rfl, rfl, rfl, ⟨(.d rfl), (.d rfl), (.d rfl), trivial⟩, trivial, .nil⟩⟩
   ·replace hm := iteF hc2 hm
    refine AW.skip ?_
    obtain rfl := Option.some.inj hm
    exact nq ⟨_, rfl, ⟨[], rfl, rfl, rfl, ⟨(.d rfl), (.d rfl), (.d rfl), trivial⟩, trivial, .nil⟩⟩
  ·rintro s5 rfl
   replace hm := hkj1
   try dsimp only at hm
   refine AW.region (zm rfl (zm rfl (zm rfl ?_)))
   obtain ⟨v6, hv6, hm⟩ := bindE hm
   refine zs (op_indexAddrM (f := D.str) (.r rfl) (.r rfl) hv6 En.str sl22) (zs (op_load_vp1 .r rfl sc9) ?_)
   obtain ⟨v7, hv7, hm⟩ := bindE hm
   refine zs (op_addSM (.r rfl) (.r rfl) hv7) (za rfl (zn (bq_n (nq (AW.region (zm rfl (zs (op_addw (.r rfl) (.r rfl)) (za rfl (zn ?_)))))))))
   obtain rfl := Option.some.inj hm
   exact nq ⟨_, hI1, ⟨[], rfl, rfl, rfl, ⟨(.d rfl), (.d rfl), (.d rfl), trivial⟩, trivial, .nil⟩⟩
 ·replace hm := iteF hc1 hm
  refine AW.exit (tq_exit (tq_exit ?_))
  obtain rfl := Option.some.inj hm
  obtain rfl := Option.some.inj hI1
  replace hm := hk1
  try dsimp only at hm
  refine bq_hit (nq (zr (zm rfl (za rfl (zn (AW.ret ?_))))))
  obtain rfl := Option.some.inj hm
  exact EndQ.d (.tmp .r .nil) rfl rfl

theorem m_ref11_Chars_ok {n : Nat} {a1 : (List UInt8)} {r : (List Int)} (hm : m_ref11_Chars n a1 = some r) : Fn Tryz.prog 109 [(.str a1)] (.sl (r.map D.i)) := by
 unfold m_ref11_Chars at hm
 refine Fn.of_AW (fnn := Tryz.f109) Tryz.func109 rfl (Nat.le_of_ble_eq_true rfl) (fun g0 w0 hw0 => ?_)
 refine AW.reset 0 [(0, .d (.str a1))] [] (WOK.g0 hw0 (by simp)) ⟨[], rfl, rfl, rfl, ⟨(.d rfl), trivial⟩, trivial, .nil⟩ (zr (zs (op_assignN .r) (zn (zr (zs (op_assignN .r) (zn (AW.seq (zr (zm rfl (zs (op_rangeStr (n := 0) Tryz.underlying9 (.r rfl) rfl) (zn (AW.block (AW.tokenize (n := 1) 3 3 1 rfl rfl (by simp) ?_)))))))))))))
 obtain ⟨t_1, hI1, hk1⟩ := bindE hm
 refine AW.loopS (σ := ((List Int) × Nat)) (τ := ((List Int) × Nat)) 0 (fun x => [(3, .tk 1 (x.1.map D.i)), (7, .ptr 0 0)]) (fun x => [.ob (siO a1 x.2), .tok x.1.length 3 1]) hI1 (WOK.g0 hw0 (by simp)) ⟨[0, 1], rfl, rfl, rfl, ⟨(.tk rfl), (.ptr rfl), trivial⟩, trivial, (.ob rfl obR_si (.tok rfl .nil))⟩ ?_
 rintro n1 ⟨s2, s3⟩ hI1
 obtain ⟨y_1, hm, hI1⟩ := iterS hI1
 replace hm : m_ref11_Chars_L1 n _ s2 s3 = some y_1 := hm
 unfold m_ref11_Chars_L1 at hm
 try dsimp only at hm
 refine zr ?_
 obtain ⟨v4, hv4, hm⟩ := bindE hm
 refine zs (op_nextStr .r rfl hv4) (zs (op_exS0 (r := v4) .r) (zn (AW.seq ?_)))
 refine AW.cond (b := _) rfl (fun hc1 => ?_) (fun hc1 => ?_)
 ·replace hm := iteT hc1 hm
  refine AW.skip (nq (AW.block (zr (zs (op_exS2 (r := v4) (by assumption) .r) (za rfl (zn (AW.region (zs (op_moveT .r) (zm rfl (zs (op_conv_int (.r rfl) ⟨_, Tryz.underlying21⟩ Tryz.underlying3) (zs (op_buildSlice (ds := ([(IntKind.i64.wrap v4.2.2.1)] : List Int).map D.i) sl23 (.cons (.r rfl) rfl (En.i.one _) .nil) rfl (by decide)) ?_)))))))))))
  obtain ⟨v5, hv5, hm⟩ := bindE hm
  refine zs (op_appendM (f := D.i) (l' := ([(IntKind.i64.wrap v4.2.2.1)] : List Int)) sl23 .r (.r rfl) rfl rfl En.i hv5) (zs (op_assignT .r) (zn (bq_n ?_)))
  obtain rfl := Option.some.inj hm
  exact nq ⟨_, hI1, ⟨[0, 1], rfl, rfl, rfl, ⟨(.tk rfl), (.ptr rfl), trivial⟩, trivial, (.ob rfl obR_si (.tok rfl .nil))⟩⟩
 ·replace hm := iteF hc1 hm
  refine AW.exit (tq_exit (tq_exit ?_))
  obtain rfl := Option.some.inj hm
  obtain rfl := Option.some.inj hI1
  replace hm := hk1
  try dsimp only at hm
  refine bq_hit (nq (zr (zs (op_moveT .r) (zs (op_assignT .r) (zn (AW.ret ?_))))))
  obtain rfl := Option.some.inj hm
  exact EndQ.d (.tmp .r .nil) rfl rfl

theorem m_ref11_table_ok {n : Nat} {a1 : (List Int)} {a2 : (List Int)} {r : (List (List Int))} (hm : m_ref11_table n a1 a2 = some r) : Fn Tryz.prog 124 [(.sl (a1.map D.i)), (.sl (a2.map D.i))] (.sl (r.map (esl D.i))) := by
 unfold m_ref11_table at hm
 refine Fn.of_AW (fnn := Tryz.f124) Tryz.func124 rfl (Nat.le_of_ble_eq_true rfl) (fun g0 w0 hw0 => ?_)
 refine AW.reset 0 [(0, .d (.sl (a1.map D.i))), (1, .d (.sl (a2.map D.i)))] [] (WOK.g0 hw0 (by simp)) ⟨[], rfl, rfl, rfl, ⟨(.d rfl), (.d rfl), trivial⟩, trivial, .nil⟩ (zr (zs (op_assignN .r) (zn (zr (zm rfl (zs (op_lenM (f := D.i) (.r rfl) sl23) (zs (op_addw (.r rfl) (.r rfl)) ?_)))))))
 obtain ⟨v3, hv3, hm⟩ := bindE hm
 refine zs (op_makeM (n := 0) (f := (esl D.i)) (.r rfl) sl167 zr23 rfl rfl hv3) ?_
 obtain ⟨v4, hv4, hm⟩ := bindE hm
 refine AL.toNl (f := D.i) (e := 3) (eo := 23) (l := v3) 0 rfl hv4 (zs (op_assignH .r) (zn (AW.seq (zr (zm rfl (zs (op_lenM (f := D.i) (.r rfl) sl23) (za rfl (zn (AW.block ?_)))))))))
 obtain ⟨t_1, hI1, hk1⟩ := bindE hm
 refine AW.loopS (σ := (Int × (List (Bool × (List Int))))) (τ := (List (Bool × (List Int)))) 0 (fun x => [(0, .d (.sl (a1.map D.i))), (1, .d (.sl (a2.map D.i))), (5, .hs 0 0 v3.length 1), (6, .d (.int .i64 x.1))]) (fun x => [.ob (nlO 3 23 v3.length (nlD D.i x.2))]) hI1 (WOK.g0 hw0 (by simp)) ⟨[0], rfl, rfl, rfl, ⟨(.d rfl), (.d rfl), (.hs rfl rfl), (.d rfl), trivial⟩, trivial, (.ob rfl obR_nl .nil)⟩ ?_
 rintro n1 ⟨s5, s6⟩ hI1
 obtain ⟨y_1, hm, hI1⟩ := iterS hI1
 replace hm : m_ref11_table_L1 n _ _ s5 s6 = some y_1 := hm
 unfold m_ref11_table_L1 at hm
 try dsimp only at hm
 refine AW.seq (zr (zm rfl (zs (op_geq (.r rfl) (.r rfl)) (zn ?_))))
 refine AW.cond (b := _) rfl (fun hc1 => ?_) (fun hc1 => ?_)
 ·replace hm := iteT hc1 hm
  refine AW.skip (nq (AW.seq (AW.block (zr (zs (op_moveH .r) (zm rfl (zm rfl (zs (op_lenM (f := D.i) (.r rfl) sl23) (zs (op_addw (.r rfl) (.r rfl)) ?_)))))))))
  obtain ⟨v7, hv7, hm⟩ := bindE hm
  refine zs (op_makeM (n := 1) (f := D.i) (.r rfl) sl23 zr3 rfl rfl hv7) ?_
  refine AL.openNl 0 rfl (fun Vs_265 => ?_)
  obtain ⟨v8, hv8, hm⟩ := bindE hm
  refine zs (op_indexAddr_nl (f := D.i) (M := s6) .r rfl (.r rfl) hv8 sl167) (AL.closeNl 0 rfl ?_)
  obtain ⟨v9, hv9, hm⟩ := bindE hm
  refine zs (op_store_nlp (f := D.i) (M := s6) (a := s5) (l := v7) .r (fun _ => rfl) .r rfl rfl rfl hv9 ⟨_, rfl, rfl⟩) (zn (zr (zm rfl (zs (op_lenM (f := D.i) (.r rfl) sl23) (za rfl (zn (AW.block ?_)))))))
  obtain ⟨t_2, hI2, hk2⟩ := bindE hm
  refine AW.loopS (σ := (Int × (List (Bool × (List Int))))) (τ := (List (Bool × (List Int)))) 0 (fun x => [(0, .d (.sl (a1.map D.i))), (1, .d (.sl (a2.map D.i))), (5, .hs 0 0 v3.length 1), (6, .d (.int .i64 s5)), (7, .d (.int .i64 x.1))]) (fun x => [.ob (nlO 3 23 v3.length (nlD D.i x.2)), .dead]) hI2 (WOK.g0 hw0 (by simp)) ⟨[0, 1], rfl, rfl, rfl, ⟨(.d rfl), (.d rfl), (.hs rfl rfl), (.d rfl), (.d rfl), trivial⟩, trivial, (.ob rfl obR_nl (.dead .nil))⟩ ?_
  rintro n2 ⟨s10, s11⟩ hI2
  obtain ⟨y_2, hm, hI2⟩ := iterS hI2
  replace hm : m_ref11_table_L2 n _ _ _ s10 s11 = some y_2 := hm
  unfold m_ref11_table_L2 at hm
  try dsimp only at hm
  refine AW.seq (zr (zm rfl (zs (op_geq (.r rfl) (.r rfl)) (zn ?_))))
  refine AW.cond (b := _) rfl (fun hc2 => ?_) (fun hc2 => ?_)
  ·replace hm := iteT hc2 hm
   refine AW.skip (nq ?_)
   obtain ⟨t_j1, hm, hkj1⟩ := bindE hm
   refine AW.cutS (α := (List (Bool × (List Int)))) 0 (fun x => x = t_j1) (fun x => [(0, .d (.sl (a1.map D.i))), (1, .d (.sl (a2.map D.i))), (5, .hs 0 0 v3.length 1), (6, .d (.int .i64 s5)), (7, .d (.int .i64 s10))]) (fun x => [.ob (nlO 3 23 v3.length (nlD D.i x)), .dead]) (WOK.g0 hw0 (by simp)) ?_ ?_
   ·skip
    refine AW.block (AW.block (AW.reset 0 [(0, .d (.sl (a1.map D.i))), (1, .d (.sl (a2.map D.i))), (5, .hs 0 0 v3.length 1), (6, .d (.int .i64 s5)), (7, .d (.int .i64 s10))] [.ob (nlO 3 23 v3.length (nlD D.i s11)), .dead] (WOK.g0 hw0 (by simp)) ⟨[0, 1], rfl, rfl, rfl, ⟨(.d rfl), (.d rfl), (.hs rfl rfl), (.d rfl), (.d rfl), trivial⟩, trivial, (.ob rfl obR_nl (.dead .nil))⟩ (zr (zm rfl (zm rfl (zs (op_lenM (f := D.i) (.r rfl) sl23) (zs (op_eql (.r rfl) (.r rfl)) (za rfl (zn ?_)))))))))
    refine AW.cond (b := _) rfl (fun hc3 => ?_) (fun hc3 => ?_)
    ·replace hm := iteT hc3 hm
     refine AW.region (zs (op_moveH .r) (zm rfl ?_))
     refine AL.openNl 0 rfl (fun Vs_302 => ?_)
     obtain ⟨v12, hv12, hm⟩ := bindE hm
     refine zs (op_indexAddr_nl (f := D.i) (M := s11) .r rfl (.r rfl) hv12 sl167) ?_
     obtain ⟨v13, hv13, hm⟩ := bindE hm
     refine zs (op_loadRow_nl (f := D.i) (M := s11) .r rfl hv13 sc23) (zm rfl (zm rfl (zs (op_lenM (f := D.i) (.r rfl) sl23) (zm rfl (zs (op_subw (.r rfl) (.r rfl)) ?_)))))
     obtain ⟨v14, hv14, hm⟩ := bindE hm
     refine zs (op_indexAddr_nlr (id := 0) (f := D.i) (M := s11) (a := s5) (.r rfl) (fun _ => rfl) rfl (.r rfl) hv14 sl23) ?_
     obtain ⟨v15, hv15, hm⟩ := bindE hm
     refine zs (op_store_nle (id := 0) (f := D.i) (M := s11) (a := s5) (c := s10) (.r rfl) (fun _ => rfl) En.i (.r rfl) rfl hv15 ⟨_, rfl, rfl⟩) (AL.closeNl 0 rfl (zn (bq_n (bq_n ?_))))
     obtain rfl := Option.some.inj hm
     exact nq ⟨_, rfl, ⟨[0, 1], rfl, rfl, rfl, ⟨(.d rfl), (.d rfl), (.hs rfl rfl), (.d rfl), (.d rfl), trivial⟩, trivial, (.ob rfl obR_nl (.dead .nil))⟩⟩
    ·replace hm := iteF hc3 hm
     refine zr (zm rfl (zm rfl (zs (op_lenM (f := D.i) (.r rfl) sl23) (zs (op_eql (.r rfl) (.r rfl)) (za rfl (zn ?_))))))
     refine AW.cond (b := _) rfl (fun hc4 => ?_) (fun hc4 => ?_)
     ·replace hm := iteT hc4 hm
      refine AW.region (zs (op_moveH .r) (zm rfl ?_))
      refine AL.openNl 0 rfl (fun Vs_303 => ?_)
      obtain ⟨v16, hv16, hm⟩ := bindE hm
      refine zs (op_indexAddr_nl (f := D.i) (M := s11) .r rfl (.r rfl) hv16 sl167) ?_
      obtain ⟨v17, hv17, hm⟩ := bindE hm
      refine zs (op_loadRow_nl (f := D.i) (M := s11) .r rfl hv17 sc23) (zm rfl (zm rfl (zs (op_lenM (f := D.i) (.r rfl) sl23) (zm rfl (zs (op_subw (.r rfl) (.r rfl)) ?_)))))
      obtain ⟨v18, hv18, hm⟩ := bindE hm
      refine zs (op_indexAddr_nlr (id := 0) (f := D.i) (M := s11) (a := s5) (.r rfl) (fun _ => rfl) rfl (.r rfl) hv18 sl23) ?_
      obtain ⟨v19, hv19, hm⟩ := bindE hm
      refine zs (op_store_nle (id := 0) (f := D.i) (M := s11) (a := s5) (c := s10) (.r rfl) (fun _ => rfl) En.i (.r rfl) rfl hv19 ⟨_, rfl, rfl⟩) (AL.closeNl 0 rfl (zn (bq_n (bq_n ?_))))
      obtain rfl := Option.some.inj hm
      exact nq ⟨_, rfl, ⟨[0, 1], rfl, rfl, rfl, ⟨(.d rfl), (.d rfl), (.hs rfl rfl), (.d rfl), (.d rfl), trivial⟩, trivial, (.ob rfl obR_nl (.dead .nil))⟩⟩
     ·replace hm := iteF hc4 hm
      refine AW.seqD [([], []), ([], []), ([], []), ([], []), ([], []), ([], []), ([], []), ([], []), ([], []), ([], [])] mo (by decide +kernel) (AD.s (ws := []) rfl rfl (fun H' _ hH => op_moveD .r) (AD.s (ws := []) rfl rfl (fun H' _ hH => op_moveD .r) ?_))
      obtain ⟨v20, hv20, hm⟩ := bindE hm
      refine AD.s (ws := []) rfl rfl (fun H' _ hH => op_indexAddrM (f := D.i) (.r rfl) (.r rfl) hv20 En.i sl23) (AD.s (ws := []) rfl rfl (fun H' _ hH => op_load_vp1 .r rfl sc3) (AD.s (ws := []) rfl rfl (fun H' _ hH => op_moveD .r) (AD.s (ws := []) rfl rfl (fun H' _ hH => op_moveD .r) ?_)))
      obtain ⟨v21, hv21, hm⟩ := bindE hm
      refine AD.s (ws := []) rfl rfl (fun H' _ hH => op_indexAddrM (f := D.i) (.r rfl) (.r rfl) hv21 En.i sl23) (AD.s (ws := []) rfl rfl (fun H' _ hH => op_load_vp1 .r rfl sc3) (AD.s (ws := []) rfl rfl (fun H' _ hH => op_eql (.r rfl) (.r rfl)) (AD.s (ws := []) rfl rfl (fun H' _ hH => op_assignD .r) (AD.nil ?_))))
      refine AW.cond (b := _) rfl (fun hc5 => ?_) (fun hc5 => ?_)
      ·replace hm := iteT hc5 hm
       refine AW.openNl 0 rfl (fun Vs_304 => ?_)
       refine AW.drawnC 0 [([], []), ([], []), ([0], []), ([0], []), ([], []), ([], []), ([], []), ([], []), ([0], []), ([0], []), ([], []), ([], []), ([0], []), ([0], []), ([0], []), ([0], [0])] mo (by decide +kernel) (AD.s (ws := []) rfl rfl (fun H' _ hH => op_moveH .r) (AD.s (ws := []) rfl rfl (fun H' _ hH => op_moveD .r) ?_))
       obtain ⟨v22, hv22, hm⟩ := bindE hm
       refine AD.s (ws := []) rfl rfl (fun H' _ hH => op_indexAddr_nl (f := D.i) (M := s11) .r ((hH _ (by simp)).trans rfl) (.r rfl) hv22 sl167) ?_
       obtain ⟨v23, hv23, hm⟩ := bindE hm
       refine AD.s (ws := []) rfl rfl (fun H' _ hH => op_loadRow_nl (f := D.i) (M := s11) .r ((hH _ (by simp)).trans rfl) hv23 sc23) (AD.s (ws := []) rfl rfl (fun H' _ hH => op_moveD .r) (AD.s (ws := []) rfl rfl (fun H' _ hH => op_moveH .r) (AD.s (ws := []) rfl rfl (fun H' _ hH => op_moveD .r) (AD.s (ws := []) rfl rfl (fun H' _ hH => op_addw (.r rfl) (.r rfl)) ?_))))
       obtain ⟨v24, hv24, hm⟩ := bindE hm
       refine AD.s (ws := []) rfl rfl (fun H' _ hH => op_indexAddr_nl (f := D.i) (M := s11) .r ((hH _ (by simp)).trans rfl) (.r rfl) hv24 sl167) ?_
       obtain ⟨v25, hv25, hm⟩ := bindE hm
       refine AD.s (ws := []) rfl rfl (fun H' _ hH => op_loadRow_nl (f := D.i) (M := s11) .r ((hH _ (by simp)).trans rfl) hv25 sc23) (AD.s (ws := []) rfl rfl (fun H' _ hH => op_moveD .r) (AD.s (ws := []) rfl rfl (fun H' _ hH => op_addw (.r rfl) (.r rfl)) ?_))
       obtain ⟨v26, hv26, hm⟩ := bindE hm
       refine AD.s (ws := []) rfl rfl (fun H' _ hH => op_indexAddr_nlr (id := 0) (f := D.i) (M := s11) (a := (IntKind.i64.wrap (s5 + (1 : Int)))) (.r rfl) (fun _ => rfl) ((hH _ (by simp)).trans rfl) (.r rfl) hv26 sl23) ?_
       obtain ⟨v27, hv27, hm⟩ := bindE hm
       refine AD.s (ws := []) rfl rfl (fun H' _ hH => op_load_nle (id := 0) (f := D.i) (M := s11) (a := (IntKind.i64.wrap (s5 + (1 : Int)))) (c := (IntKind.i64.wrap (s10 + (1 : Int)))) (.r rfl) (fun _ => rfl) ((hH _ (by simp)).trans rfl) hv27 sc3) ?_
       obtain ⟨v28, hv28, hm⟩ := bindE hm
       refine AD.s (ws := []) rfl rfl (fun H' _ hH => op_indexAddr_nlr (id := 0) (f := D.i) (M := s11) (a := s5) (.r rfl) (fun _ => rfl) ((hH _ (by simp)).trans rfl) (.r rfl) hv28 sl23) ?_
       obtain ⟨v29, hv29, hm⟩ := bindE hm
       refine AD.s (ws := [(0, _)]) rfl rfl (fun H' _ hH => op_store_nle (id := 0) (f := D.i) (M := s11) (a := s5) (c := s10) (.r rfl) (fun _ => rfl) En.i (.r rfl) ((hH _ (by simp)).trans rfl) hv29 ⟨_, rfl, rfl⟩) (AD.nil ?_)
       refine ⟨_, _, _, _, _, rfl, ?_⟩
       refine bq_n (bq_n ?_)
       obtain rfl := Option.some.inj hm
       exact nq ⟨_, rfl, ⟨[0, 1], rfl, rfl, rfl, ⟨(.d rfl), (.d rfl), (.hs rfl rfl), (.d rfl), (.d rfl), trivial⟩, trivial, (.ob rfl obR_nl (.dead .nil))⟩⟩
      ·replace hm := iteF hc5 hm
       refine AW.reset 0 [(0, .d (.sl (a1.map D.i))), (1, .d (.sl (a2.map D.i))), (5, .hs 0 0 v3.length 1), (6, .d (.int .i64 s5)), (7, .d (.int .i64 s10))] [.ob (nlO 3 23 v3.length (nlD D.i s11)), .dead] (WOK.g0 hw0 (by simp)) ⟨[0, 1], rfl, rfl, rfl, ⟨(.d rfl), (.d rfl), (.hs rfl rfl), (.d rfl), (.d rfl), trivial⟩, trivial, (.ob rfl obR_nl (.dead .nil))⟩ ?_
       refine AW.openNl 0 rfl (fun Vs_305 => ?_)
       refine AW.drawnC 0 [([], []), ([], []), ([0], []), ([0], []), ([], []), ([], []), ([], []), ([], []), ([0], []), ([0], []), ([], []), ([], []), ([0], []), ([0], []), ([], []), ([], []), ([], []), ([0], []), ([0], []), ([], []), ([0], []), ([0], []), ([], []), ([], []), ([0], []), ([0], []), ([], []), ([], []), ([0], []), ([0], []), ([], []), ([], []), ([0], []), ([0], [0])] mo (by decide +kernel) (AD.s (ws := []) rfl rfl (fun H' _ hH => op_moveH .r) (AD.s (ws := []) rfl rfl (fun H' _ hH => op_moveD .r) ?_))
       obtain ⟨v30, hv30, hm⟩ := bindE hm
       refine AD.s (ws := []) rfl rfl (fun H' _ hH => op_indexAddr_nl (f := D.i) (M := s11) .r ((hH _ (by simp)).trans rfl) (.r rfl) hv30 sl167) ?_
       obtain ⟨v31, hv31, hm⟩ := bindE hm
       refine AD.s (ws := []) rfl rfl (fun H' _ hH => op_loadRow_nl (f := D.i) (M := s11) .r ((hH _ (by simp)).trans rfl) hv31 sc23) (AD.s (ws := []) rfl rfl (fun H' _ hH => op_moveD .r) (AD.s (ws := []) rfl rfl (fun H' _ hH => op_moveH .r) (AD.s (ws := []) rfl rfl (fun H' _ hH => op_moveD .r) (AD.s (ws := []) rfl rfl (fun H' _ hH => op_addw (.r rfl) (.r rfl)) ?_))))
       obtain ⟨v32, hv32, hm⟩ := bindE hm
       refine AD.s (ws := []) rfl rfl (fun H' _ hH => op_indexAddr_nl (f := D.i) (M := s11) .r ((hH _ (by simp)).trans rfl) (.r rfl) hv32 sl167) ?_
       obtain ⟨v33, hv33, hm⟩ := bindE hm
       refine AD.s (ws := []) rfl rfl (fun H' _ hH => op_loadRow_nl (f := D.i) (M := s11) .r ((hH _ (by simp)).trans rfl) hv33 sc23) (AD.s (ws := []) rfl rfl (fun H' _ hH => op_moveD .r) (AD.s (ws := []) rfl rfl (fun H' _ hH => op_addw (.r rfl) (.r rfl)) ?_))
       obtain ⟨v34, hv34, hm⟩ := bindE hm
       refine AD.s (ws := []) rfl rfl (fun H' _ hH => op_indexAddr_nlr (id := 0) (f := D.i) (M := s11) (a := (IntKind.i64.wrap (s5 + (1 : Int)))) (.r rfl) (fun _ => rfl) ((hH _ (by simp)).trans rfl) (.r rfl) hv34 sl23) ?_
       obtain ⟨v35, hv35, hm⟩ := bindE hm
       refine AD.s (ws := []) rfl rfl (fun H' _ hH => op_load_nle (id := 0) (f := D.i) (M := s11) (a := (IntKind.i64.wrap (s5 + (1 : Int)))) (c := (IntKind.i64.wrap (s10 + (1 : Int)))) (.r rfl) (fun _ => rfl) ((hH _ (by simp)).trans rfl) hv35 sc3) (AD.s (ws := []) rfl rfl (fun H' _ hH => op_moveH .r) (AD.s (ws := []) rfl rfl (fun H' _ hH => op_moveD .r) (AD.s (ws := []) rfl rfl (fun H' _ hH => op_addw (.r rfl) (.r rfl)) ?_)))
       obtain ⟨v36, hv36, hm⟩ := bindE hm
       refine AD.s (ws := []) rfl rfl (fun H' _ hH => op_indexAddr_nl (f := D.i) (M := s11) .r ((hH _ (by simp)).trans rfl) (.r rfl) hv36 sl167) ?_
       obtain ⟨v37, hv37, hm⟩ := bindE hm
       refine AD.s (ws := []) rfl rfl (fun H' _ hH => op_loadRow_nl (f := D.i) (M := s11) .r ((hH _ (by simp)).trans rfl) hv37 sc23) (AD.s (ws := []) rfl rfl (fun H' _ hH => op_moveD .r) ?_)
       obtain ⟨v38, hv38, hm⟩ := bindE hm
       refine AD.s (ws := []) rfl rfl (fun H' _ hH => op_indexAddr_nlr (id := 0) (f := D.i) (M := s11) (a := (IntKind.i64.wrap (s5 + (1 : Int)))) (.r rfl) (fun _ => rfl) ((hH _ (by simp)).trans rfl) (.r rfl) hv38 sl23) ?_
       obtain ⟨v39, hv39, hm⟩ := bindE hm
       refine AD.s (ws := []) rfl rfl (fun H' _ hH => op_load_nle (id := 0) (f := D.i) (M := s11) (a := (IntKind.i64.wrap (s5 + (1 : Int)))) (c := s10) (.r rfl) (fun _ => rfl) ((hH _ (by simp)).trans rfl) hv39 sc3) (AD.s (ws := []) rfl rfl (fun H' _ hH => op_moveH .r) (AD.s (ws := []) rfl rfl (fun H' _ hH => op_moveD .r) ?_))
       obtain ⟨v40, hv40, hm⟩ := bindE hm
       refine AD.s (ws := []) rfl rfl (fun H' _ hH => op_indexAddr_nl (f := D.i) (M := s11) .r ((hH _ (by simp)).trans rfl) (.r rfl) hv40 sl167) ?_
       obtain ⟨v41, hv41, hm⟩ := bindE hm
       refine AD.s (ws := []) rfl rfl (fun H' _ hH => op_loadRow_nl (f := D.i) (M := s11) .r ((hH _ (by simp)).trans rfl) hv41 sc23) (AD.s (ws := []) rfl rfl (fun H' _ hH => op_moveD .r) (AD.s (ws := []) rfl rfl (fun H' _ hH => op_addw (.r rfl) (.r rfl)) ?_))
       obtain ⟨v42, hv42, hm⟩ := bindE hm
       refine AD.s (ws := []) rfl rfl (fun H' _ hH => op_indexAddr_nlr (id := 0) (f := D.i) (M := s11) (a := s5) (.r rfl) (fun _ => rfl) ((hH _ (by simp)).trans rfl) (.r rfl) hv42 sl23) ?_
       obtain ⟨v43, hv43, hm⟩ := bindE hm
       refine AD.s (ws := []) rfl rfl (fun H' _ hH => op_load_nle (id := 0) (f := D.i) (M := s11) (a := s5) (c := (IntKind.i64.wrap (s10 + (1 : Int)))) (.r rfl) (fun _ => rfl) ((hH _ (by simp)).trans rfl) hv43 sc3) (AD.s (ws := []) rfl rfl (fun H' _ hH => op_min3 (.r rfl) (.r rfl) (.r rfl)) (AD.s (ws := []) rfl rfl (fun H' _ hH => op_addw (.r rfl) (.r rfl)) ?_))
       obtain ⟨v44, hv44, hm⟩ := bindE hm
       refine AD.s (ws := []) rfl rfl (fun H' _ hH => op_indexAddr_nlr (id := 0) (f := D.i) (M := s11) (a := s5) (.r rfl) (fun _ => rfl) ((hH _ (by simp)).trans rfl) (.r rfl) hv44 sl23) ?_
       obtain ⟨v45, hv45, hm⟩ := bindE hm
       refine AD.s (ws := [(0, _)]) rfl rfl (fun H' _ hH => op_store_nle (id := 0) (f := D.i) (M := s11) (a := s5) (c := s10) (.r rfl) (fun _ => rfl) En.i (.r rfl) ((hH _ (by simp)).trans rfl) hv45 ⟨_, rfl, rfl⟩) (AD.nil ?_)
       refine ⟨_, _, _, _, _, rfl, ?_⟩
       refine bq_n (bq_n ?_)
       obtain rfl := Option.some.inj hm
       exact nq ⟨_, rfl, ⟨[0, 1], rfl, rfl, rfl, ⟨(.d rfl), (.d rfl), (.hs rfl rfl), (.d rfl), (.d rfl), trivial⟩, trivial, (.ob rfl obR_nl (.dead .nil))⟩⟩
   ·rintro s46 rfl
    replace hm := hkj1
    try dsimp only at hm
    refine AW.region (zm rfl (zs (op_subw (.r rfl) (.r rfl)) (za rfl (zn ?_))))
    obtain rfl := Option.some.inj hm
    exact nq ⟨_, hI2, ⟨[0, 1], rfl, rfl, rfl, ⟨(.d rfl), (.d rfl), (.hs rfl rfl), (.d rfl), (.d rfl), trivial⟩, trivial, (.ob rfl obR_nl (.dead .nil))⟩⟩
  ·replace hm := iteF hc2 hm
   refine AW.exit (tq_exit (tq_exit ?_))
   obtain rfl := Option.some.inj hm
   obtain rfl := Option.some.inj hI2
   replace hm := hk2
   try dsimp only at hm
   refine bq_hit (bq_n (nq (AW.region (zm rfl (zs (op_subw (.r rfl) (.r rfl)) (za rfl (zn ?_)))))))
   obtain rfl := Option.some.inj hm
   exact nq ⟨_, hI1, ⟨[0], rfl, rfl, rfl, ⟨(.d rfl), (.d rfl), (.hs rfl rfl), (.d rfl), trivial⟩, trivial, (.ob rfl obR_nl .nil)⟩⟩
 ·replace hm := iteF hc1 hm
  refine AW.exit (tq_exit (tq_exit ?_))
  obtain rfl := Option.some.inj hm
  obtain rfl := Option.some.inj hI1
  replace hm := hk1
  try dsimp only at hm
  refine bq_hit (nq (zr (zs (op_moveH .r) (zs (op_assignH .r) (zn (AW.freezeNl (f := D.i) (M := s6) 0 [4, 5, 119] rfl (fun _ => rfl) ⟨rfl, rfl, rfl, trivial⟩ (AW.ret ?_)))))))
  obtain rfl := Option.some.inj hm
  exact EndQ.d (.tmp .r .nil) rfl rfl

theorem m_ref11_Distance_ok {n : Nat} {a1 : (List Int)} {a2 : (List Int)} {r : Int} (hm : m_ref11_Distance n a1 a2 = some r) : Fn Tryz.prog 108 [(.sl (a1.map D.i)), (.sl (a2.map D.i))] (.int .i64 r) := by
 unfold m_ref11_Distance at hm
 refine Fn.of_AW (fnn := Tryz.f108) Tryz.func108 rfl (Nat.le_of_ble_eq_true rfl) (fun g0 w0 hw0 => ?_)
 refine zr (za rfl (zn (zr (zm rfl (zm rfl ?_)))))
 obtain ⟨v3, hv3, hm⟩ := bindE hm
 refine zs (op_fn Tryz.call124 .r (.cons (.r rfl) (.cons (.r rfl) .nil)) (m_ref11_table_ok hv3)) ?_
 obtain ⟨v4, hv4, hm⟩ := bindE hm
 refine zs (op_indexAddrM (f := (esl D.i)) (.r rfl) (.r rfl) hv4 En.sl sl167) (zs (op_load_vp1 .r rfl sc23) ?_)
 obtain ⟨v5, hv5, hm⟩ := bindE hm
 refine zs (op_indexAddrM (f := D.i) (.r rfl) (.r rfl) hv5 En.i sl23) (zs (op_load_vp1 .r rfl sc3) (za rfl (zn (AW.ret ?_))))
 obtain rfl := Option.some.inj hm
 exact EndQ.d (.tmp .r .nil) rfl rfl

theorem m_ref11_Text_ok {n : Nat} {a1 : (List UInt8)} {a2 : (List UInt8)} {r : Int} (hm : m_ref11_Text n a1 a2 = some r) : Fn Tryz.prog 90 [(.str a1), (.str a2)] (.int .i64 r) := by
 unfold m_ref11_Text at hm
 refine Fn.of_AW (fnn := Tryz.f90) Tryz.func90 rfl (Nat.le_of_ble_eq_true rfl) (fun g0 w0 hw0 => ?_)
 refine zr (za rfl (zn (zr (zm rfl ?_))))
 obtain ⟨v3, hv3, hm⟩ := bindE hm
 refine zs (op_fn Tryz.call109 .r (.cons (.r rfl) .nil) (m_ref11_Chars_ok hv3)) (zm rfl ?_)
 obtain ⟨v4, hv4, hm⟩ := bindE hm
 refine zs (op_fn Tryz.call109 .r (.cons (.r rfl) .nil) (m_ref11_Chars_ok hv4)) ?_
 obtain ⟨v5, hv5, hm⟩ := bindE hm
 refine zs (op_fn Tryz.call108 .r (.cons (.r rfl) (.cons (.r rfl) .nil)) (m_ref11_Distance_ok hv5)) (za rfl (zn (AW.ret ?_)))
 obtain rfl := Option.some.inj hm
 exact EndQ.d (.tmp .r .nil) rfl rfl

theorem m_ref31_title_ok {n : Nat} {a1 : (List (List UInt8))} {a2 : (List (List UInt8))} {r : Int} (hm : m_ref31_title n a1 a2 = some r) : Fn Tryz.prog 62 [(.sl (a1.map D.str)), (.sl (a2.map D.str))] (.int .i64 r) := by
 unfold m_ref31_title at hm
 refine Fn.of_AW (fnn := Tryz.f62) Tryz.func62 rfl (Nat.le_of_ble_eq_true rfl) (fun g0 w0 hw0 => ?_)
 refine AW.reset 0 [(0, .d (.sl (a1.map D.str))), (1, .d (.sl (a2.map D.str)))] [] (WOK.g0 hw0 (by simp)) ⟨[], rfl, rfl, rfl, ⟨(.d rfl), (.d rfl), trivial⟩, trivial, .nil⟩ (zr (za rfl (zn (zr (zm rfl (zm rfl ?_))))))
 obtain ⟨v3, hv3, hm⟩ := bindE hm
 refine zs (op_fn Tryz.call88 .r (.cons (.r rfl) (.cons (.r rfl) .nil)) (m_ref31_common_ok hv3)) (za rfl (zn (zr (zm rfl (zm rfl ?_)))))
 obtain ⟨v4, hv4, hm⟩ := bindE hm
 refine zs (op_fn Tryz.call88 .r (.cons (.r rfl) (.cons (.r rfl) .nil)) (m_ref31_common_ok hv4)) (zm rfl (zm rfl ?_))
 obtain ⟨v5, hv5, hm⟩ := bindE hm
 refine zs (op_fn Tryz.call88 .r (.cons (.r rfl) (.cons (.r rfl) .nil)) (m_ref31_common_ok hv5)) (zs (op_addw (.r rfl) (.r rfl)) (zm rfl (zs (op_subw (.r rfl) (.r rfl)) (za rfl (zn (AW.seq (AW.block (zr (zm rfl (zs (op_lenM (f := D.str) (.r rfl) sl22) (zs (op_eql (.r rfl) (.r rfl)) (zm rfl (AL.sF rfl rfl rfl rfl (fun g => op_moveD .r) (AL.sF rfl rfl rfl rfl (fun g => op_lenM (f := D.str) (.we (nt g) rfl rfl) sl22) (AL.sF rfl rfl rfl rfl (fun g => op_eql (.we (nt g) rfl rfl) (.r rfl)) (zs (op_or (.r rfl) rfl (fun h => (.we (nt h) rfl rfl))) (za rfl (zn ?_))))))))))))))))))
 refine AW.cond (b := _) rfl (fun hc1 => ?_) (fun hc1 => ?_)
 ·replace hm := iteT hc1 hm
  refine zr (za rfl (zn (AW.ret (bq_ret (tq_ret ?_)))))
  obtain rfl := Option.some.inj hm
  exact EndQ.d (.tmp .r .nil) rfl rfl
 ·replace hm := iteF hc1 hm
  refine zr (zm rfl (zm rfl ?_))
  obtain ⟨v6, hv6, hm⟩ := bindE hm
  refine zs (op_fn Tryz.call89 .r (.cons (.r rfl) (.cons (.r rfl) .nil)) (m_ref29_SameTexts_ok hv6)) (za rfl (zn ?_))
  refine AW.cond (b := _) rfl (fun hc2 => ?_) (fun hc2 => ?_)
  ·replace hm := iteT hc2 hm
   refine zr (za rfl (zn (AW.ret (bq_ret (tq_ret ?_)))))
   obtain rfl := Option.some.inj hm
   exact EndQ.d (.tmp .r .nil) rfl rfl
  ·replace hm := iteF hc2 hm
   refine zr (zm rfl (zs (op_mulw (.r rfl) (.r rfl)) (zm rfl (zs (op_mulw (.r rfl) (.r rfl)) (zs (op_geq (.r rfl) (.r rfl)) (zm rfl (AL.sF rfl rfl rfl rfl (fun g => op_moveD .r) ?_)))))))
   obtain ⟨v7, hv7, hm⟩ := bindE hm
   refine AL.sF rfl rfl rfl rfl (fun g => op_fn Tryz.call91 .r (.cons (.we (nt g) rfl rfl) .nil) (m_ref31_joined_ok (iteT (nt g) hv7))) (AL.sF rfl rfl rfl rfl (fun g => op_moveD .r) ?_)
   obtain ⟨v8, hv8, hm⟩ := bindE hm
   refine AL.sF rfl rfl rfl rfl (fun g => op_fn Tryz.call91 .r (.cons (.we (nt g) rfl rfl) .nil) (m_ref31_joined_ok (iteT (nt g) hv8))) ?_
   obtain ⟨v9, hv9, hm⟩ := bindE hm
   refine AL.sF rfl rfl rfl rfl (fun g => op_fn Tryz.call90 .r (.cons (.we (nt g) rfl rfl) (.cons (.we (nt g) rfl rfl) .nil)) (m_ref11_Text_ok (iteT (nt g) hv9))) (AL.sF rfl rfl rfl rfl (fun g => op_leq (.we (nt g) rfl rfl) (.r rfl)) (zs (op_or (.r rfl) rfl (fun h => (.we (nt h) rfl rfl))) (za rfl (zn ?_))))
   refine AW.cond (b := _) rfl (fun hc3 => ?_) (fun hc3 => ?_)
   ·replace hm := iteT hc3 hm
    refine AW.reset 0 [] [] (WOK.g0 hw0 (by simp)) ⟨[], rfl, rfl, rfl, trivial, trivial, .nil⟩ (zr (za rfl (zn (AW.ret (bq_ret (tq_ret ?_))))))
    obtain rfl := Option.some.inj hm
    exact EndQ.d (.tmp .r .nil) rfl rfl
   ·replace hm := iteF hc3 hm
    refine AW.skip (bq_n (nq (zr (za rfl (zn (AW.ret ?_))))))
    obtain rfl := Option.some.inj hm
    exact EndQ.d (.tmp .r .nil) rfl rfl

theorem m_ref31_author_ok {n : Nat} {a1 : (List UInt8)} {a2 : (List UInt8)} {r : Int} (hm : m_ref31_author n a1 a2 = some r) : Fn Tryz.prog 63 [(.str a1), (.str a2)] (.int .i64 r) := by
 unfold m_ref31_author at hm
 refine Fn.of_AW (fnn := Tryz.f63) Tryz.func63 rfl (Nat.le_of_ble_eq_true rfl) (fun g0 w0 hw0 => ?_)
 refine zr (za rfl (zn (AW.seq (AW.block (zr (zm rfl (zs (op_eqlS (.r rfl) (.r rfl)) (zm rfl (AL.sF rfl rfl rfl rfl (fun g => op_moveD .r) (AL.sF rfl rfl rfl rfl (fun g => op_eqlS (.we (nt g) rfl rfl) (.r rfl)) (zs (op_or (.r rfl) rfl (fun h => (.we (nt h) rfl rfl))) (za rfl (zn ?_)))))))))))))
 refine AW.cond (b := _) rfl (fun hc1 => ?_) (fun hc1 => ?_)
 ·replace hm := iteT hc1 hm
  refine zr (za rfl (zn (AW.ret (bq_ret (tq_ret ?_)))))
  obtain rfl := Option.some.inj hm
  exact EndQ.d (.tmp .r .nil) rfl rfl
 ·replace hm := iteF hc1 hm
  refine zr (zm rfl (zm rfl (zs (op_eqlS (.r rfl) (.r rfl)) (za rfl (zn ?_)))))
  refine AW.cond (b := _) rfl (fun hc2 => ?_) (fun hc2 => ?_)
  ·replace hm := iteT hc2 hm
   refine zr (za rfl (zn (AW.ret (bq_ret (tq_ret ?_)))))
   obtain rfl := Option.some.inj hm
   exact EndQ.d (.tmp .r .nil) rfl rfl
  ·replace hm := iteF hc2 hm
   refine zr (zm rfl (zm rfl ?_))
   obtain ⟨v3, hv3, hm⟩ := bindE hm
   refine zs (op_fn Tryz.call90 .r (.cons (.r rfl) (.cons (.r rfl) .nil)) (m_ref11_Text_ok hv3)) (zs (op_leq (.r rfl) (.r rfl)) (za rfl (zn ?_)))
   refine AW.cond (b := _) rfl (fun hc3 => ?_) (fun hc3 => ?_)
   ·replace hm := iteT hc3 hm
    refine zr (za rfl (zn (AW.ret (bq_ret (tq_ret ?_)))))
    obtain rfl := Option.some.inj hm
    exact EndQ.d (.tmp .r .nil) rfl rfl
   ·replace hm := iteF hc3 hm
    refine AW.skip (bq_n (nq (AW.reset 0 [] [] (WOK.g0 hw0 (by simp)) ⟨[], rfl, rfl, rfl, trivial, trivial, .nil⟩ (zr (za rfl (zn (AW.ret ?_)))))))
    obtain rfl := Option.some.inj hm
    exact EndQ.d (.tmp .r .nil) rfl rfl

theorem m_ref31_years_ok {n : Nat} {a1 : (List Int)} {a2 : (List Int)} {r : Int} (hm : m_ref31_years n a1 a2 = some r) : Fn Tryz.prog 64 [(.sl (a1.map D.i)), (.sl (a2.map D.i))] (.int .i64 r) := by
 unfold m_ref31_years at hm
 refine Fn.of_AW (fnn := Tryz.f64) Tryz.func64 rfl (Nat.le_of_ble_eq_true rfl) (fun g0 w0 hw0 => ?_)
 refine AW.reset 0 [(0, .d (.sl (a1.map D.i))), (1, .d (.sl (a2.map D.i)))] [] (WOK.g0 hw0 (by simp)) ⟨[], rfl, rfl, rfl, ⟨(.d rfl), (.d rfl), trivial⟩, trivial, .nil⟩ (zr (za rfl (zn (AW.seq (zr (zm rfl (zs (op_lenM (f := D.i) (.r rfl) sl23) (zs (op_eql (.r rfl) (.r rfl)) (zm rfl (AL.sF rfl rfl rfl rfl (fun g => op_moveD .r) (AL.sF rfl rfl rfl rfl (fun g => op_lenM (f := D.i) (.we (nt g) rfl rfl) sl23) (AL.sF rfl rfl rfl rfl (fun g => op_eql (.we (nt g) rfl rfl) (.r rfl)) (zs (op_or (.r rfl) rfl (fun h => (.we (nt h) rfl rfl))) (zn ?_))))))))))))))
 refine AW.cond (b := _) rfl (fun hc1 => ?_) (fun hc1 => ?_)
 ·replace hm := iteT hc1 hm
  refine zr (za rfl (zn (AW.ret (tq_ret ?_))))
  obtain rfl := Option.some.inj hm
  exact EndQ.d (.tmp .r .nil) rfl rfl
 ·replace hm := iteF hc1 hm
  refine AW.skip (nq (zr (za rfl (zn (AW.seq (zr (za rfl (zn (AW.block ?_)))))))))
  obtain ⟨t_1, hI1, hk1⟩ := bindE hm
  refine AW.loopS (σ := (Int × Int)) (τ := (Int ⊕ Int)) 0 (fun x => [(0, .d (.sl (a1.map D.i))), (1, .d (.sl (a2.map D.i))), (5, .d (.int .i64 x.1)), (6, .d (.int .i64 x.2))]) (fun x => []) hI1 (WOK.g0 hw0 (by simp)) ⟨[], rfl, rfl, rfl, ⟨(.d rfl), (.d rfl), (.d rfl), (.d rfl), trivial⟩, trivial, .nil⟩ ?_
  rintro n1 ⟨s3, s4⟩ hI1
  obtain ⟨y_1, hm, hI1⟩ := iterS hI1
  replace hm : m_ref31_years_L1 n _ _ s3 s4 = some y_1 := hm
  unfold m_ref31_years_L1 at hm
  try dsimp only at hm
  refine AW.seq (zr (zm rfl (zm rfl (zs (op_lenM (f := D.i) (.r rfl) sl23) (zs (op_lss (.r rfl) (.r rfl)) (zn ?_))))))
  refine AW.cond (b := _) rfl (fun hc2 => ?_) (fun hc2 => ?_)
  ·replace hm := iteT hc2 hm
   refine AW.skip (nq (AW.seq (AW.block (zr (za rfl (zn (AW.block ?_)))))))
   obtain ⟨t_2, hI2, hk2⟩ := bindE hm
   refine AW.loopS (σ := (Int × Int)) (τ := (Int ⊕ Int)) 0 (fun x => [(0, .d (.sl (a1.map D.i))), (1, .d (.sl (a2.map D.i))), (5, .d (.int .i64 x.1)), (6, .d (.int .i64 s4)), (7, .d (.int .i64 x.2))]) (fun x => []) hI2 (WOK.g0 hw0 (by simp)) ⟨[], rfl, rfl, rfl, ⟨(.d rfl), (.d rfl), (.d rfl), (.d rfl), (.d rfl), trivial⟩, trivial, .nil⟩ ?_
   rintro n2 ⟨s5, s6⟩ hI2
   obtain ⟨y_2, hm, hI2⟩ := iterS hI2
   replace hm : m_ref31_years_L2 n _ _ _ s5 s6 = some y_2 := hm
   unfold m_ref31_years_L2 at hm
   try dsimp only at hm
   refine AW.seq (zr (zm rfl (zm rfl (zs (op_lenM (f := D.i) (.r rfl) sl23) (zs (op_lss (.r rfl) (.r rfl)) (zn ?_))))))
   refine AW.cond (b := _) rfl (fun hc3 => ?_) (fun hc3 => ?_)
   ·replace hm := iteT hc3 hm
    refine AW.skip (nq ?_)
    obtain ⟨t_j1, hm, hkj1⟩ := bindE hm
    refine AW.cutS (α := Int) 0 (fun x => (.inr x) = t_j1) (fun x => [(0, .d (.sl (a1.map D.i))), (1, .d (.sl (a2.map D.i))), (5, .d (.int .i64 x)), (6, .d (.int .i64 s4)), (7, .d (.int .i64 s6))]) (fun x => []) (WOK.g0 hw0 (by simp)) ?_ ?_
    ·skip
     refine AW.block (AW.seqD [([], []), ([], []), ([], []), ([], []), ([], []), ([], []), ([], []), ([], []), ([], []), ([], [])] mo (by decide +kernel) (AD.s (ws := []) rfl rfl (fun H' _ hH => op_moveD .r) (AD.s (ws := []) rfl rfl (fun H' _ hH => op_moveD .r) ?_)))
     obtain ⟨v7, hv7, hm⟩ := bindE hm
     refine AD.s (ws := []) rfl rfl (fun H' _ hH => op_indexAddrM (f := D.i) (.r rfl) (.r rfl) hv7 En.i sl23) (AD.s (ws := []) rfl rfl (fun H' _ hH => op_load_vp1 .r rfl sc3) (AD.s (ws := []) rfl rfl (fun H' _ hH => op_moveD .r) (AD.s (ws := []) rfl rfl (fun H' _ hH => op_moveD .r) ?_)))
     obtain ⟨v8, hv8, hm⟩ := bindE hm
     refine AD.s (ws := []) rfl rfl (fun H' _ hH => op_indexAddrM (f := D.i) (.r rfl) (.r rfl) hv8 En.i sl23) (AD.s (ws := []) rfl rfl (fun H' _ hH => op_load_vp1 .r rfl sc3) (AD.s (ws := []) rfl rfl (fun H' _ hH => op_subw (.r rfl) (.r rfl)) (AD.s (ws := []) rfl rfl (fun H' _ hH => op_assignD .r) (AD.nil (AW.block (zr (zm rfl (zs (op_eql (.r rfl) (.r rfl)) (za rfl (zn ?_))))))))))
     refine AW.cond (b := _) rfl (fun hc4 => ?_) (fun hc4 => ?_)
     ·replace hm := iteT hc4 hm
      refine zr (za rfl (zn (AW.ret (bq_ret (bq_ret (tq_ret ?_))))))
      obtain rfl := Option.some.inj hm
      replace hm := hkj1
      try dsimp only at hm
      refine tq_ret ?_
      obtain rfl := Option.some.inj hm
      obtain rfl := Option.some.inj hI2
      replace hm := hk2
      try dsimp only at hm
      refine bq_ret (bq_ret (tq_ret (tq_ret ?_)))
      obtain rfl := Option.some.inj hm
      obtain rfl := Option.some.inj hI1
      replace hm := hk1
      try dsimp only at hm
      refine bq_ret (tq_ret ?_)
      obtain rfl := Option.some.inj hm
      exact EndQ.d (.tmp .r .nil) rfl rfl
     ·replace hm := iteF hc4 hm
      refine zr (zm rfl (zs (op_eql (.r rfl) (.r rfl)) (zm rfl (AL.sF rfl rfl rfl rfl (fun g => op_moveD .r) (AL.sF rfl rfl rfl rfl (fun g => op_eql (.we (nt g) rfl rfl) (.r rfl)) (zs (op_or (.r rfl) rfl (fun h => (.we (nt h) rfl rfl))) (za rfl (zn ?_))))))))
      refine AW.cond (b := _) rfl (fun hc5 => ?_) (fun hc5 => ?_)
      ·replace hm := iteT hc5 hm
       refine AW.reset 0 [(0, .d (.sl (a1.map D.i))), (1, .d (.sl (a2.map D.i))), (6, .d (.int .i64 s4)), (7, .d (.int .i64 s6))] [] (WOK.g0 hw0 (by simp)) ⟨[], rfl, rfl, rfl, ⟨(.d rfl), (.d rfl), (.d rfl), (.d rfl), trivial⟩, trivial, .nil⟩ (AW.region (za rfl (zn (bq_n (bq_n ?_)))))
       obtain rfl := Option.some.inj hm
       exact nq ⟨_, rfl, ⟨[], rfl, rfl, rfl, ⟨(.d rfl), (.d rfl), (.d rfl), (.d rfl), (.d rfl), trivial⟩, trivial, .nil⟩⟩
      ·replace hm := iteF hc5 hm
       refine AW.skip (bq_n (bq_n ?_))
       obtain rfl := Option.some.inj hm
       exact nq ⟨_, rfl, ⟨[], rfl, rfl, rfl, ⟨(.d rfl), (.d rfl), (.d rfl), (.d rfl), (.d rfl), trivial⟩, trivial, .nil⟩⟩
    ·rintro s9 rfl
     replace hm := hkj1
     try dsimp only at hm
     refine AW.region (zm rfl (zs (op_addw (.r rfl) (.r rfl)) (za rfl (zn ?_))))
     obtain rfl := Option.some.inj hm
     exact nq ⟨_, hI2, ⟨[], rfl, rfl, rfl, ⟨(.d rfl), (.d rfl), (.d rfl), (.d rfl), (.d rfl), trivial⟩, trivial, .nil⟩⟩
   ·replace hm := iteF hc3 hm
    refine AW.exit (tq_exit (tq_exit ?_))
    obtain rfl := Option.some.inj hm
    obtain rfl := Option.some.inj hI2
    replace hm := hk2
    try dsimp only at hm
    refine bq_hit (bq_n (nq (AW.region (zm rfl (zs (op_addw (.r rfl) (.r rfl)) (za rfl (zn ?_)))))))
    obtain rfl := Option.some.inj hm
    exact nq ⟨_, hI1, ⟨[], rfl, rfl, rfl, ⟨(.d rfl), (.d rfl), (.d rfl), (.d rfl), trivial⟩, trivial, .nil⟩⟩
  ·replace hm := iteF hc2 hm
   refine AW.exit (tq_exit (tq_exit ?_))
   obtain rfl := Option.some.inj hm
   obtain rfl := Option.some.inj hI1
   replace hm := hk1
   try dsimp only at hm
   refine bq_hit (nq (zr (zm rfl (za rfl (zn (AW.ret ?_))))))
   obtain rfl := Option.some.inj hm
   exact EndQ.d (.tmp .r .nil) rfl rfl

theorem m_ref31_sets_ok {n : Nat} {a1 : (List (List UInt8))} {a2 : (List (List UInt8))} {a3 : Bool} {a4 : Int} {r : Int} (hm : m_ref31_sets n a1 a2 a3 a4 = some r) : Fn Tryz.prog 65 [(.sl (a1.map D.str)), (.sl (a2.map D.str)), (.bool a3), (.int .i64 a4)] (.int .i64 r) := by
 unfold m_ref31_sets at hm
 refine Fn.of_AW (fnn := Tryz.f65) Tryz.func65 rfl (Nat.le_of_ble_eq_true rfl) (fun g0 w0 hw0 => ?_)
 refine zr (za rfl (zn (AW.seq (AW.block (zr (zm rfl (zs (op_lenM (f := D.str) (.r rfl) sl22) (zs (op_eql (.r rfl) (.r rfl)) (zm rfl (AL.sF rfl rfl rfl rfl (fun g => op_moveD .r) (AL.sF rfl rfl rfl rfl (fun g => op_lenM (f := D.str) (.we (nt g) rfl rfl) sl22) (AL.sF rfl rfl rfl rfl (fun g => op_eql (.we (nt g) rfl rfl) (.r rfl)) (zs (op_or (.r rfl) rfl (fun h => (.we (nt h) rfl rfl))) (za rfl (zn ?_)))))))))))))))
 refine AW.cond (b := _) rfl (fun hc1 => ?_) (fun hc1 => ?_)
 ·replace hm := iteT hc1 hm
  refine AW.reset 0 [] [] (WOK.g0 hw0 (by simp)) ⟨[], rfl, rfl, rfl, trivial, trivial, .nil⟩ (zr (za rfl (zn (AW.ret (bq_ret (tq_ret ?_))))))
  obtain rfl := Option.some.inj hm
  exact EndQ.d (.tmp .r .nil) rfl rfl
 ·replace hm := iteF hc1 hm
  refine zr (zm rfl (zm rfl (AL.sT rfl rfl rfl rfl (fun g => op_moveD .r) (AL.sT rfl rfl rfl rfl (fun g => op_moveD .r) ?_))))
  obtain ⟨v5, hv5, hm⟩ := bindE hm
  refine AL.sT rfl rfl rfl rfl (fun g => op_fn Tryz.call89 .r (.cons (.we g rfl rfl) (.cons (.we g rfl rfl) .nil)) (m_ref29_SameTexts_ok (iteT g hv5))) (zs (op_and (.r rfl) (fun h => (.we h rfl rfl)) rfl) (zm rfl (AL.sF rfl rfl rfl rfl (fun g => op_moveD .r) (AL.sF rfl rfl rfl rfl (fun g => op_not (.we (nt g) rfl rfl)) (AL.sF rfl rfl rfl rfl (fun g => op_moveD (.we (nt g) rfl)) (AL.sTT rfl rfl rfl rfl (fun gp g => op_moveD .r) (AL.sTT rfl rfl rfl rfl (fun gp g => op_moveD .r) ?_)))))))
  obtain ⟨v6, hv6, hm⟩ := bindE hm
  refine AL.sTT rfl rfl rfl rfl (fun gp g => op_fn Tryz.call88 .r (.cons (.we (an gp g) rfl rfl) (.cons (.we (an gp g) rfl rfl) .nil)) (m_ref31_common_ok (iteT (an gp g) hv6))) (AL.sTT rfl rfl rfl rfl (fun gp g => op_gtr (.we (an gp g) rfl rfl) (.r rfl)) (AL.sF rfl rfl rfl rfl (fun g => op_and (.we (nt g) rfl rfl) (fun h => (.we (an (nt g) h) rfl rfl)) rfl) (zs (op_or (.r rfl) rfl (fun h => (.we (nt h) rfl rfl))) (za rfl (zn ?_)))))
  refine AW.cond (b := _) rfl (fun hc2 => ?_) (fun hc2 => ?_)
  ·replace hm := iteT hc2 hm
   refine zr (za rfl (zn (AW.ret (bq_ret (tq_ret ?_)))))
   obtain rfl := Option.some.inj hm
   exact EndQ.d (.tmp .r .nil) rfl rfl
  ·replace hm := iteF hc2 hm
   refine zr (zm rfl (zm rfl ?_))
   obtain ⟨v7, hv7, hm⟩ := bindE hm
   refine zs (op_fn Tryz.call88 .r (.cons (.r rfl) (.cons (.r rfl) .nil)) (m_ref31_common_ok hv7)) (zs (op_gtr (.r rfl) (.r rfl)) (za rfl (zn ?_)))
   refine AW.cond (b := _) rfl (fun hc3 => ?_) (fun hc3 => ?_)
   ·replace hm := iteT hc3 hm
    refine zr (zm rfl (za rfl (zn (AW.ret (bq_ret (tq_ret ?_))))))
    obtain rfl := Option.some.inj hm
    exact EndQ.d (.tmp .r .nil) rfl rfl
   ·replace hm := iteF hc3 hm
    refine AW.skip (bq_n (nq (zr (za rfl (zn (AW.ret ?_))))))
    obtain rfl := Option.some.inj hm
    exact EndQ.d (.tmp .r .nil) rfl rfl

theorem m_ref31_compare_ok {n : Nat} {a1 : SFeatures} {a2 : SFeatures} {r : A7} (hm : m_ref31_compare n a1 a2 = some r) : Fn Tryz.prog 28 [(SFeatures.e a1), (SFeatures.e a2)] (A7.e r) := by
 unfold m_ref31_compare at hm
 refine Fn.of_AW (fnn := Tryz.f28) Tryz.func28 rfl (Nat.le_of_ble_eq_true rfl) (fun g0 w0 hw0 => ?_)
 refine zr (zs (op_box (n := 0) .r rfl rfl rfl) (zs (op_box (n := 1) .r rfl rfl rfl) (zs (op_alloc (n := 2) zr35 rfl) (zn (AW.reset 0 [(2, .ptr 0 0), (3, .ptr 1 0), (4, .ptr 2 0)] [.row ((SFeatures.e a1).cells.map .d), .row ((SFeatures.e a2).cells.map .d), .row [.d (.int .i64 (0 : Int)), .d (.int .i64 (0 : Int)), .d (.int .i64 (0 : Int)), .d (.int .i64 (0 : Int)), .d (.int .i64 (0 : Int)), .d (.int .i64 (0 : Int)), .d (.int .i64 (0 : Int))]] (WOK.g0 hw0 (by simp)) ⟨[0, 1, 2], rfl, rfl, rfl, ⟨(.ptr rfl), (.ptr rfl), (.ptr rfl), trivial⟩, trivial, (.row rfl (cd (SFeatures.e a1).cells) (.row rfl (cd (SFeatures.e a2).cells) (.row rfl (.cons (.d rfl) (.cons (.d rfl) (.cons (.d rfl) (.cons (.d rfl) (.cons (.d rfl) (.cons (.d rfl) (.cons (.d rfl) .nil))))))) .nil)))⟩ (AW.seqD [([], []), ([0], []), ([], []), ([1], []), ([], []), ([], []), ([0], []), ([], []), ([1], []), ([], []), ([], []), ([0], []), ([], []), ([1], []), ([], []), ([], []), ([0], []), ([], []), ([1], []), ([], []), ([], []), ([0], []), ([], []), ([1], []), ([], []), ([], []), ([0], []), ([], []), ([1], []), ([], []), ([], []), ([0], []), ([], []), ([1], []), ([], []), ([], []), ([2], [2])] mo (by decide +kernel) (AD.s (ws := []) rfl rfl (fun H' _ hH => op_field_ptr .r fd25_1) (AD.s (ws := []) rfl rfl (fun H' _ hH => op_load_ptr1 .r ((hH _ (by simp)).trans rfl) rfl sc22) (AD.s (ws := []) rfl rfl (fun H' _ hH => op_field_ptr .r fd25_1) (AD.s (ws := []) rfl rfl (fun H' _ hH => op_load_ptr1 .r ((hH _ (by simp)).trans rfl) rfl sc22) ?_))))))))))
 obtain ⟨v3, hv3, hm⟩ := bindE hm
 refine AD.s (ws := []) rfl rfl (fun H' _ hH => op_fn Tryz.call62 .r (.cons (.r rfl) (.cons (.r rfl) .nil)) (m_ref31_title_ok hv3)) (AD.s (ws := []) rfl rfl (fun H' _ hH => op_field_ptr .r fd25_2) (AD.s (ws := []) rfl rfl (fun H' _ hH => op_load_ptr1 .r ((hH _ (by simp)).trans rfl) rfl sc9) (AD.s (ws := []) rfl rfl (fun H' _ hH => op_field_ptr .r fd25_2) (AD.s (ws := []) rfl rfl (fun H' _ hH => op_load_ptr1 .r ((hH _ (by simp)).trans rfl) rfl sc9) ?_))))
 obtain ⟨v4, hv4, hm⟩ := bindE hm
 refine AD.s (ws := []) rfl rfl (fun H' _ hH => op_fn Tryz.call63 .r (.cons (.r rfl) (.cons (.r rfl) .nil)) (m_ref31_author_ok hv4)) (AD.s (ws := []) rfl rfl (fun H' _ hH => op_field_ptr .r fd25_3) (AD.s (ws := []) rfl rfl (fun H' _ hH => op_load_ptr1 .r ((hH _ (by simp)).trans rfl) rfl sc23) (AD.s (ws := []) rfl rfl (fun H' _ hH => op_field_ptr .r fd25_3) (AD.s (ws := []) rfl rfl (fun H' _ hH => op_load_ptr1 .r ((hH _ (by simp)).trans rfl) rfl sc23) ?_))))
 obtain ⟨v5, hv5, hm⟩ := bindE hm
 refine AD.s (ws := []) rfl rfl (fun H' _ hH => op_fn Tryz.call64 .r (.cons (.r rfl) (.cons (.r rfl) .nil)) (m_ref31_years_ok hv5)) (AD.s (ws := []) rfl rfl (fun H' _ hH => op_field_ptr .r fd25_4) (AD.s (ws := []) rfl rfl (fun H' _ hH => op_load_ptr1 .r ((hH _ (by simp)).trans rfl) rfl sc22) (AD.s (ws := []) rfl rfl (fun H' _ hH => op_field_ptr .r fd25_4) (AD.s (ws := []) rfl rfl (fun H' _ hH => op_load_ptr1 .r ((hH _ (by simp)).trans rfl) rfl sc22) ?_))))
 obtain ⟨v6, hv6, hm⟩ := bindE hm
 refine AD.s (ws := []) rfl rfl (fun H' _ hH => op_fn Tryz.call65 .r (.cons (.r rfl) (.cons (.r rfl) (.cons (.r rfl) (.cons (.r rfl) .nil)))) (m_ref31_sets_ok hv6)) (AD.s (ws := []) rfl rfl (fun H' _ hH => op_field_ptr .r fd25_5) (AD.s (ws := []) rfl rfl (fun H' _ hH => op_load_ptr1 .r ((hH _ (by simp)).trans rfl) rfl sc22) (AD.s (ws := []) rfl rfl (fun H' _ hH => op_field_ptr .r fd25_5) (AD.s (ws := []) rfl rfl (fun H' _ hH => op_load_ptr1 .r ((hH _ (by simp)).trans rfl) rfl sc22) ?_))))
 obtain ⟨v7, hv7, hm⟩ := bindE hm
 refine AD.s (ws := []) rfl rfl (fun H' _ hH => op_fn Tryz.call65 .r (.cons (.r rfl) (.cons (.r rfl) (.cons (.r rfl) (.cons (.r rfl) .nil)))) (m_ref31_sets_ok hv7)) (AD.s (ws := []) rfl rfl (fun H' _ hH => op_field_ptr .r fd25_6) (AD.s (ws := []) rfl rfl (fun H' _ hH => op_load_ptr1 .r ((hH _ (by simp)).trans rfl) rfl sc22) (AD.s (ws := []) rfl rfl (fun H' _ hH => op_field_ptr .r fd25_6) (AD.s (ws := []) rfl rfl (fun H' _ hH => op_load_ptr1 .r ((hH _ (by simp)).trans rfl) rfl sc22) ?_))))
 obtain ⟨v8, hv8, hm⟩ := bindE hm
 refine AD.s (ws := []) rfl rfl (fun H' _ hH => op_fn Tryz.call65 .r (.cons (.r rfl) (.cons (.r rfl) (.cons (.r rfl) (.cons (.r rfl) .nil)))) (m_ref31_sets_ok hv8)) (AD.s (ws := []) rfl rfl (fun H' _ hH => op_field_ptr .r fd25_7) (AD.s (ws := []) rfl rfl (fun H' _ hH => op_load_ptr1 .r ((hH _ (by simp)).trans rfl) rfl sc22) (AD.s (ws := []) rfl rfl (fun H' _ hH => op_field_ptr .r fd25_7) (AD.s (ws := []) rfl rfl (fun H' _ hH => op_load_ptr1 .r ((hH _ (by simp)).trans rfl) rfl sc22) ?_))))
 obtain ⟨v9, hv9, hm⟩ := bindE hm
 refine AD.s (ws := []) rfl rfl (fun H' _ hH => op_fn Tryz.call65 .r (.cons (.r rfl) (.cons (.r rfl) (.cons (.r rfl) (.cons (.r rfl) .nil)))) (m_ref31_sets_ok hv9)) (AD.s (ws := []) rfl rfl (fun H' _ hH => op_buildArrF ba35 (.cons .r rfl rfl rfl rfl (Nat.le_of_ble_eq_true rfl) (.cons .r rfl rfl rfl rfl (Nat.le_of_ble_eq_true rfl) (.cons .r rfl rfl rfl rfl (Nat.le_of_ble_eq_true rfl) (.cons .r rfl rfl rfl rfl (Nat.le_of_ble_eq_true rfl) (.cons .r rfl rfl rfl rfl (Nat.le_of_ble_eq_true rfl) (.cons .r rfl rfl rfl rfl (Nat.le_of_ble_eq_true rfl) (.cons .r rfl rfl rfl rfl (Nat.le_of_ble_eq_true rfl) .nil))))))) rfl rfl) (AD.s (ws := [(2, _)]) rfl rfl (fun H' _ hH => op_storeA .r .r ((hH _ (by simp)).trans rfl) rfl ⟨_, rfl, rfl⟩ rfl (Nat.le_of_ble_eq_true rfl)) (AD.nil (AW.ret ?_))))
 obtain rfl := Option.some.inj hm
 exact EndQ.d (.cellA .r rfl rfl rfl ag35 .nil) rfl rfl

theorem m_law31_Own_ok {n : Nat} {a1 : A72} {r : A72} (hm : m_law31_Own n a1 = some r) : Fn Tryz.prog 11 [(A72.e a1)] (A72.e r) := by
 unfold m_law31_Own at hm
 refine Fn.of_AW (fnn := Tryz.f11) Tryz.func11 rfl (Nat.le_of_ble_eq_true rfl) (fun g0 w0 hw0 => ?_)
 refine AW.reset 0 [(0, .d (A72.e a1))] [] (WOK.g0 hw0 (by simp)) ⟨[], rfl, rfl, rfl, ⟨(.d rfl), trivial⟩, trivial, .nil⟩ (zr (zs (op_box (n := 0) .r rfl rfl rfl) (zs (op_alloc (n := 1) zr52 rfl) (zn (zr (zs (op_alloc (n := 2) zr52 rfl) (zn (AW.seq (zr (zm rfl (zn (AW.block ?_))))))))))))
 obtain ⟨t_1, hI1, hk1⟩ := bindE hm
 refine AW.loopS (σ := (Int × A72)) (τ := A72) 0 (fun x => [(1, .ptr 0 0), (2, .ptr 1 0), (3, .ptr 2 0), (6, .d (.int .i64 x.1))]) (fun x => [.row ((A72.e a1).cells.map .d), .row [.d (.int .i64 (0 : Int)), .d (.int .i64 (0 : Int)), .d (.int .i64 (0 : Int)), .d (.int .i64 (0 : Int)), .d (.int .i64 (0 : Int)), .d (.int .i64 (0 : Int)), .d (.int .i64 (0 : Int)), .d (.int .i64 (0 : Int)), .d (.int .i64 (0 : Int)), .d (.int .i64 (0 : Int)), .d (.int .i64 (0 : Int)), .d (.int .i64 (0 : Int)), .d (.int .i64 (0 : Int)), .d (.int .i64 (0 : Int)), .d (.int .i64 (0 : Int)), .d (.int .i64 (0 : Int)), .d (.int .i64 (0 : Int)), .d (.int .i64 (0 : Int)), .d (.int .i64 (0 : Int)), .d (.int .i64 (0 : Int)), .d (.int .i64 (0 : Int)), .d (.int .i64 (0 : Int)), .d (.int .i64 (0 : Int)), .d (.int .i64 (0 : Int)), .d (.int .i64 (0 : Int)), .d (.int .i64 (0 : Int)), .d (.int .i64 (0 : Int)), .d (.int .i64 (0 : Int)), .d (.int .i64 (0 : Int)), .d (.int .i64 (0 : Int)), .d (.int .i64 (0 : Int)), .d (.int .i64 (0 : Int)), .d (.int .i64 (0 : Int)), .d (.int .i64 (0 : Int)), .d (.int .i64 (0 : Int)), .d (.int .i64 (0 : Int)), .d (.int .i64 (0 : Int)), .d (.int .i64 (0 : Int)), .d (.int .i64 (0 : Int)), .d (.int .i64 (0 : Int)), .d (.int .i64 (0 : Int)), .d (.int .i64 (0 : Int))], .row ((A72.e x.2).cells.map .d)]) hI1 (WOK.g0 hw0 (by simp)) ⟨[0, 1, 2], rfl, rfl, rfl, ⟨(.ptr rfl), (.ptr rfl), (.ptr rfl), (.d rfl), trivial⟩, trivial, (.row rfl (cd (A72.e a1).cells) (.row rfl (.cons (.d rfl) (.cons (.d rfl) (.cons (.d rfl) (.cons (.d rfl) (.cons (.d rfl) (.cons (.d rfl) (.cons (.d rfl) (.cons (.d rfl) (.cons (.d rfl) (.cons (.d rfl) (.cons (.d rfl) (.cons (.d rfl) (.cons (.d rfl) (.cons (.d rfl) (.cons (.d rfl) (.cons (.d rfl) (.cons (.d rfl) (.cons (.d rfl) (.cons (.d rfl) (.cons (.d rfl) (.cons (.d rfl) (.cons (.d rfl) (.cons (.d rfl) (.cons (.d rfl) (.cons (.d rfl) (.cons (.d rfl) (.cons (.d rfl) (.cons (.d rfl) (.cons (.d rfl) (.cons (.d rfl) (.cons (.d rfl) (.cons (.d rfl) (.cons (.d rfl) (.cons (.d rfl) (.cons (.d rfl) (.cons (.d rfl) (.cons (.d rfl) (.cons (.d rfl) (.cons (.d rfl) (.cons (.d rfl) (.cons (.d rfl) (.cons (.d rfl) .nil)))))))))))))))))))))))))))))))))))))))))) (.row rfl (.cons (.d rfl) (.cons (.d rfl) (.cons (.d rfl) (.cons (.d rfl) (.cons (.d rfl) (.cons (.d rfl) (.cons (.d rfl) (.cons (.d rfl) (.cons (.d rfl) (.cons (.d rfl) (.cons (.d rfl) (.cons (.d rfl) (.cons (.d rfl) (.cons (.d rfl) (.cons (.d rfl) (.cons (.d rfl) (.cons (.d rfl) (.cons (.d rfl) (.cons (.d rfl) (.cons (.d rfl) (.cons (.d rfl) (.cons (.d rfl) (.cons (.d rfl) (.cons (.d rfl) (.cons (.d rfl) (.cons (.d rfl) (.cons (.d rfl) (.cons (.d rfl) (.cons (.d rfl) (.cons (.d rfl) (.cons (.d rfl) (.cons (.d rfl) (.cons (.d rfl) (.cons (.d rfl) (.cons (.d rfl) (.cons (.d rfl) (.cons (.d rfl) (.cons (.d rfl) (.cons (.d rfl) (.cons (.d rfl) (.cons (.d rfl) (.cons (.d rfl) .nil)))))))))))))))))))))))))))))))))))))))))) .nil)))⟩ ?_
 rintro n1 ⟨s2, s3⟩ hI1
 obtain ⟨y_1, hm, hI1⟩ := iterS hI1
 replace hm : m_law31_Own_L1 n _ s2 s3 = some y_1 := hm
 unfold m_law31_Own_L1 at hm
 try dsimp only at hm
 refine zr (zs (op_lss (.r rfl) (.r rfl)) (zn (AW.seq ?_)))
 refine AW.cond (b := _) rfl (fun hc1 => ?_) (fun hc1 => ?_)
 ·replace hm := iteT hc1 hm
  refine AW.skip (nq (AW.seq (AW.block (zr (zm rfl (za rfl (zn (zr (zm rfl (zn (AW.block ?_)))))))))))
  obtain ⟨t_2, hI2, hk2⟩ := bindE hm
  refine AW.loopS (σ := (Int × A72)) (τ := A72) 0 (fun x => [(1, .ptr 0 0), (2, .ptr 1 0), (3, .ptr 2 0), (4, .d (.int .i64 s2)), (6, .d (.int .i64 s2)), (9, .d (.int .i64 x.1))]) (fun x => [.row ((A72.e a1).cells.map .d), .row [.d (.int .i64 (0 : Int)), .d (.int .i64 (0 : Int)), .d (.int .i64 (0 : Int)), .d (.int .i64 (0 : Int)), .d (.int .i64 (0 : Int)), .d (.int .i64 (0 : Int)), .d (.int .i64 (0 : Int)), .d (.int .i64 (0 : Int)), .d (.int .i64 (0 : Int)), .d (.int .i64 (0 : Int)), .d (.int .i64 (0 : Int)), .d (.int .i64 (0 : Int)), .d (.int .i64 (0 : Int)), .d (.int .i64 (0 : Int)), .d (.int .i64 (0 : Int)), .d (.int .i64 (0 : Int)), .d (.int .i64 (0 : Int)), .d (.int .i64 (0 : Int)), .d (.int .i64 (0 : Int)), .d (.int .i64 (0 : Int)), .d (.int .i64 (0 : Int)), .d (.int .i64 (0 : Int)), .d (.int .i64 (0 : Int)), .d (.int .i64 (0 : Int)), .d (.int .i64 (0 : Int)), .d (.int .i64 (0 : Int)), .d (.int .i64 (0 : Int)), .d (.int .i64 (0 : Int)), .d (.int .i64 (0 : Int)), .d (.int .i64 (0 : Int)), .d (.int .i64 (0 : Int)), .d (.int .i64 (0 : Int)), .d (.int .i64 (0 : Int)), .d (.int .i64 (0 : Int)), .d (.int .i64 (0 : Int)), .d (.int .i64 (0 : Int)), .d (.int .i64 (0 : Int)), .d (.int .i64 (0 : Int)), .d (.int .i64 (0 : Int)), .d (.int .i64 (0 : Int)), .d (.int .i64 (0 : Int)), .d (.int .i64 (0 : Int))], .row ((A72.e x.2).cells.map .d)]) hI2 (WOK.g0 hw0 (by simp)) ⟨[0, 1, 2], rfl, rfl, rfl, ⟨(.ptr rfl), (.ptr rfl), (.ptr rfl), (.d rfl), (.d rfl), (.d rfl), trivial⟩, trivial, (.row rfl (cd (A72.e a1).cells) (.row rfl (.cons (.d rfl) (.cons (.d rfl) (.cons (.d rfl) (.cons (.d rfl) (.cons (.d rfl) (.cons (.d rfl) (.cons (.d rfl) (.cons (.d rfl) (.cons (.d rfl) (.cons (.d rfl) (.cons (.d rfl) (.cons (.d rfl) (.cons (.d rfl) (.cons (.d rfl) (.cons (.d rfl) (.cons (.d rfl) (.cons (.d rfl) (.cons (.d rfl) (.cons (.d rfl) (.cons (.d rfl) (.cons (.d rfl) (.cons (.d rfl) (.cons (.d rfl) (.cons (.d rfl) (.cons (.d rfl) (.cons (.d rfl) (.cons (.d rfl) (.cons (.d rfl) (.cons (.d rfl) (.cons (.d rfl) (.cons (.d rfl) (.cons (.d rfl) (.cons (.d rfl) (.cons (.d rfl) (.cons (.d rfl) (.cons (.d rfl) (.cons (.d rfl) (.cons (.d rfl) (.cons (.d rfl) (.cons (.d rfl) (.cons (.d rfl) (.cons (.d rfl) .nil)))))))))))))))))))))))))))))))))))))))))) (.row rfl (.cons (.d rfl) (.cons (.d rfl) (.cons (.d rfl) (.cons (.d rfl) (.cons (.d rfl) (.cons (.d rfl) (.cons (.d rfl) (.cons (.d rfl) (.cons (.d rfl) (.cons (.d rfl) (.cons (.d rfl) (.cons (.d rfl) (.cons (.d rfl) (.cons (.d rfl) (.cons (.d rfl) (.cons (.d rfl) (.cons (.d rfl) (.cons (.d rfl) (.cons (.d rfl) (.cons (.d rfl) (.cons (.d rfl) (.cons (.d rfl) (.cons (.d rfl) (.cons (.d rfl) (.cons (.d rfl) (.cons (.d rfl) (.cons (.d rfl) (.cons (.d rfl) (.cons (.d rfl) (.cons (.d rfl) (.cons (.d rfl) (.cons (.d rfl) (.cons (.d rfl) (.cons (.d rfl) (.cons (.d rfl) (.cons (.d rfl) (.cons (.d rfl) (.cons (.d rfl) (.cons (.d rfl) (.cons (.d rfl) (.cons (.d rfl) (.cons (.d rfl) .nil)))))))))))))))))))))))))))))))))))))))))) .nil)))⟩ ?_
  rintro n2 ⟨s4, s5⟩ hI2
  obtain ⟨y_2, hm, hI2⟩ := iterS hI2
  replace hm : m_law31_Own_L2 n _ _ s4 s5 = some y_2 := hm
  unfold m_law31_Own_L2 at hm
  try dsimp only at hm
  refine zr (zs (op_lss (.r rfl) (.r rfl)) (zn (AW.seq ?_)))
  refine AW.cond (b := _) rfl (fun hc2 => ?_) (fun hc2 => ?_)
  ·replace hm := iteT hc2 hm
   refine AW.skip (nq (AW.seq (AW.block (zr (zm rfl (za rfl (zn (AW.drawn [([], []), ([], []), ([], []), ([], []), ([], []), ([], []), ([0], []), ([], []), ([], []), ([2], [2])] mo (by decide +kernel) (AD.s (ws := []) rfl rfl (fun H' _ hH => op_moveD .r) (AD.s (ws := []) rfl rfl (fun H' _ hH => op_moveD .r) (AD.s (ws := []) rfl rfl (fun H' _ hH => op_moveD .r) (AD.s (ws := []) rfl rfl (fun H' _ hH => op_moveD .r) ?_))))))))))))
   obtain ⟨v6, hv6, hm⟩ := bindE hm
   refine AD.s (ws := []) rfl rfl (fun H' _ hH => op_indexA (l := a1.l) (s := 6) .r (.r rfl) hv6 rfl Tryz.underlying43 ⟨_, rfl, rfl⟩) ?_
   obtain ⟨v7, hv7, hm⟩ := bindE hm
   refine AD.s (ws := []) rfl rfl (fun H' _ hH => op_indexA (l := v6.l) (s := 2) .r (.r rfl) hv7 rfl Tryz.underlying41 ⟨_, rfl, rfl⟩) (AD.s (ws := []) rfl rfl (fun H' _ hH => op_loadAtA (X := (A72.e a1).cells) .r ((hH _ (by simp)).trans rfl) (AtD.ix (f := SRatio.e) (l := v6.l) enSRatio (AtD.ix (f := A3.e) (l := a1.l) enA3 (AtD.root : AtD (A72.e a1).cells 0 _ _) hv6) hv7) ag40) ?_)
   obtain ⟨v8, hv8, hm⟩ := bindE hm
   refine AD.s (ws := []) rfl rfl (fun H' _ hH => op_indexA (l := s5.l) (s := 6) .r (.r rfl) hv8 rfl Tryz.underlying52 ⟨_, rfl, rfl⟩) ?_
   obtain ⟨v9, hv9, hm⟩ := bindE hm
   refine AD.s (ws := []) rfl rfl (fun H' _ hH => op_indexA (l := v8.l) (s := 2) .r (.r rfl) hv9 rfl Tryz.underlying50 ⟨_, rfl, rfl⟩) ?_
   obtain ⟨v10, hv10, hm⟩ := bindE hm
   obtain ⟨v11, hv11, hm⟩ := bindE hm
   refine AD.s (ws := [(2, _)]) rfl rfl (fun H' _ hH => op_storeAt (X := (A72.e s5).cells) (X' := (A72.e v11).cells) .r .r ((hH _ (by simp)).trans rfl) (AtD.ix (f := SRatio.e) (l := v8.l) enSRatio (AtD.ix (f := A3.e) (l := s5.l) enA3 (AtD.root : AtD (A72.e s5).cells 0 _ _) hv8) hv9) (PutD.ix (f := SRatio.e) (l := v8.l) (l' := v10.l) enSRatio (AtD.ix (f := A3.e) (l := s5.l) enA3 (AtD.root : AtD (A72.e s5).cells 0 _ _) hv8) (PutD.ix (f := A3.e) (l := s5.l) (l' := v11.l) enA3 (AtD.root : AtD (A72.e s5).cells 0 _ _) (PutD.root rfl : PutD (A72.e s5).cells 0 _ _ (A72.e v11).cells) (A72.put_l hv11)) (A3.put_l hv10)) rfl rfl ⟨_, rfl, rfl⟩) (AD.nil (bq_n (nq (AW.region (zs (op_addw (.r rfl) (.r rfl)) (zm rfl (zn ?_)))))))
   obtain rfl := Option.some.inj hm
   exact nq ⟨_, hI2, ⟨[0, 1, 2], rfl, rfl, rfl, ⟨(.ptr rfl), (.ptr rfl), (.ptr rfl), (.d rfl), (.d rfl), (.d rfl), trivial⟩, trivial, (.row rfl (cd (A72.e a1).cells) (.row rfl (.cons (.d rfl) (.cons (.d rfl) (.cons (.d rfl) (.cons (.d rfl) (.cons (.d rfl) (.cons (.d rfl) (.cons (.d rfl) (.cons (.d rfl) (.cons (.d rfl) (.cons (.d rfl) (.cons (.d rfl) (.cons (.d rfl) (.cons (.d rfl) (.cons (.d rfl) (.cons (.d rfl) (.cons (.d rfl) (.cons (.d rfl) (.cons (.d rfl) (.cons (.d rfl) (.cons (.d rfl) (.cons (.d rfl) (.cons (.d rfl) (.cons (.d rfl) (.cons (.d rfl) (.cons (.d rfl) (.cons (.d rfl) (.cons (.d rfl) (.cons (.d rfl) (.cons (.d rfl) (.cons (.d rfl) (.cons (.d rfl) (.cons (.d rfl) (.cons (.d rfl) (.cons (.d rfl) (.cons (.d rfl) (.cons (.d rfl) (.cons (.d rfl) (.cons (.d rfl) (.cons (.d rfl) (.cons (.d rfl) (.cons (.d rfl) (.cons (.d rfl) .nil)))))))))))))))))))))))))))))))))))))))))) (.row rfl (.cons (.d rfl) (.cons (.d rfl) (.cons (.d rfl) (.cons (.d rfl) (.cons (.d rfl) (.cons (.d rfl) (.cons (.d rfl) (.cons (.d rfl) (.cons (.d rfl) (.cons (.d rfl) (.cons (.d rfl) (.cons (.d rfl) (.cons (.d rfl) (.cons (.d rfl) (.cons (.d rfl) (.cons (.d rfl) (.cons (.d rfl) (.cons (.d rfl) (.cons (.d rfl) (.cons (.d rfl) (.cons (.d rfl) (.cons (.d rfl) (.cons (.d rfl) (.cons (.d rfl) (.cons (.d rfl) (.cons (.d rfl) (.cons (.d rfl) (.cons (.d rfl) (.cons (.d rfl) (.cons (.d rfl) (.cons (.d rfl) (.cons (.d rfl) (.cons (.d rfl) (.cons (.d rfl) (.cons (.d rfl) (.cons (.d rfl) (.cons (.d rfl) (.cons (.d rfl) (.cons (.d rfl) (.cons (.d rfl) (.cons (.d rfl) (.cons (.d rfl) .nil)))))))))))))))))))))))))))))))))))))))))) .nil)))⟩⟩
  ·replace hm := iteF hc2 hm
   refine AW.exit (tq_exit (tq_exit ?_))
   obtain rfl := Option.some.inj hm
   obtain rfl := Option.some.inj hI2
   replace hm := hk2
   try dsimp only at hm
   refine bq_hit (bq_n (nq (AW.region (zs (op_addw (.r rfl) (.r rfl)) (zm rfl (zn ?_))))))
   obtain rfl := Option.some.inj hm
   exact nq ⟨_, hI1, ⟨[0, 1, 2], rfl, rfl, rfl, ⟨(.ptr rfl), (.ptr rfl), (.ptr rfl), (.d rfl), trivial⟩, trivial, (.row rfl (cd (A72.e a1).cells) (.row rfl (.cons (.d rfl) (.cons (.d rfl) (.cons (.d rfl) (.cons (.d rfl) (.cons (.d rfl) (.cons (.d rfl) (.cons (.d rfl) (.cons (.d rfl) (.cons (.d rfl) (.cons (.d rfl) (.cons (.d rfl) (.cons (.d rfl) (.cons (.d rfl) (.cons (.d rfl) (.cons (.d rfl) (.cons (.d rfl) (.cons (.d rfl) (.cons (.d rfl) (.cons (.d rfl) (.cons (.d rfl) (.cons (.d rfl) (.cons (.d rfl) (.cons (.d rfl) (.cons (.d rfl) (.cons (.d rfl) (.cons (.d rfl) (.cons (.d rfl) (.cons (.d rfl) (.cons (.d rfl) (.cons (.d rfl) (.cons (.d rfl) (.cons (.d rfl) (.cons (.d rfl) (.cons (.d rfl) (.cons (.d rfl) (.cons (.d rfl) (.cons (.d rfl) (.cons (.d rfl) (.cons (.d rfl) (.cons (.d rfl) (.cons (.d rfl) (.cons (.d rfl) .nil)))))))))))))))))))))))))))))))))))))))))) (.row rfl (.cons (.d rfl) (.cons (.d rfl) (.cons (.d rfl) (.cons (.d rfl) (.cons (.d rfl) (.cons (.d rfl) (.cons (.d rfl) (.cons (.d rfl) (.cons (.d rfl) (.cons (.d rfl) (.cons (.d rfl) (.cons (.d rfl) (.cons (.d rfl) (.cons (.d rfl) (.cons (.d rfl) (.cons (.d rfl) (.cons (.d rfl) (.cons (.d rfl) (.cons (.d rfl) (.cons (.d rfl) (.cons (.d rfl) (.cons (.d rfl) (.cons (.d rfl) (.cons (.d rfl) (.cons (.d rfl) (.cons (.d rfl) (.cons (.d rfl) (.cons (.d rfl) (.cons (.d rfl) (.cons (.d rfl) (.cons (.d rfl) (.cons (.d rfl) (.cons (.d rfl) (.cons (.d rfl) (.cons (.d rfl) (.cons (.d rfl) (.cons (.d rfl) (.cons (.d rfl) (.cons (.d rfl) (.cons (.d rfl) (.cons (.d rfl) (.cons (.d rfl) .nil)))))))))))))))))))))))))))))))))))))))))) .nil)))⟩⟩
 ·replace hm := iteF hc1 hm
  refine AW.exit (tq_exit (tq_exit ?_))
  obtain rfl := Option.some.inj hm
  obtain rfl := Option.some.inj hI1
  replace hm := hk1
  try dsimp only at hm
  refine bq_hit (nq (zr (zs (op_load_ptrA .r rfl rfl rfl ag52) (zs (op_storeA .r .r rfl rfl ⟨_, rfl, rfl⟩ rfl (Nat.le_of_ble_eq_true rfl)) (zn (AW.ret ?_))))))
  obtain rfl := Option.some.inj hm
  exact EndQ.d (.cellA .r rfl rfl rfl ag52 .nil) rfl rfl

theorem m_law29_Owns_ok {n : Nat} {a1 : (List SFeatures)} {r : (List SFeatures)} (hm : m_law29_Owns n a1 = some r) : Fn Tryz.prog 12 [(.sl (a1.map SFeatures.e))] (.sl (r.map SFeatures.e)) := by
 unfold m_law29_Owns at hm
 refine Fn.of_AW (fnn := Tryz.f12) Tryz.func12 rfl (Nat.le_of_ble_eq_true rfl) (fun g0 w0 hw0 => ?_)
 refine AW.reset 0 [(0, .d (.sl (a1.map SFeatures.e)))] [] (WOK.g0 hw0 (by simp)) ⟨[], rfl, rfl, rfl, ⟨(.d rfl), trivial⟩, trivial, .nil⟩ (zr (zs (op_assignN .r) (zn (zr (zs (op_assignN .r) (zn (AW.seq (zr (zm rfl (zs (op_lenM (f := SFeatures.e) (.r rfl) sl44) (zm rfl (zn (AW.block (AW.tokenize (n := 0) 3 33 8 rfl rfl (by simp) ?_))))))))))))))
 obtain ⟨t_1, hI1, hk1⟩ := bindE hm
 refine AW.loopS (σ := ((List SFeatures) × Int)) (τ := (List SFeatures)) 0 (fun x => [(3, .tk 0 (x.1.map SFeatures.e)), (6, .d (.sl (a1.map SFeatures.e))), (7, .d (.int .i64 (a1.length : Int))), (8, .d (.int .i64 x.2))]) (fun x => [.tok x.1.length 33 8]) hI1 (WOK.g0 hw0 (by simp)) ⟨[0], rfl, rfl, rfl, ⟨(.tk rfl), (.d rfl), (.d rfl), (.d rfl), trivial⟩, trivial, (.tok rfl .nil)⟩ ?_
 rintro n1 ⟨s2, s3⟩ hI1
 obtain ⟨y_1, hm, hI1⟩ := iterS hI1
 replace hm : m_law29_Owns_L1 n _ s2 s3 = some y_1 := hm
 unfold m_law29_Owns_L1 at hm
 try dsimp only at hm
 refine zr (zs (op_lss (.r rfl) (.r rfl)) (zn (AW.seq ?_)))
 refine AW.cond (b := _) rfl (fun hc1 => ?_) (fun hc1 => ?_)
 ·replace hm := iteT hc1 hm
  refine AW.skip (nq (AW.seq (AW.block (zr ?_))))
  obtain ⟨v4, hv4, hm⟩ := bindE hm
  refine zs (op_indexAddrM (f := SFeatures.e) (.r rfl) (.r rfl) hv4 enSFeatures sl44) (zs (op_loadA .r rfl ag25) (zs (op_alloc (n := 1) zr25 rfl) (zs (op_store .r .r rfl rfl rfl ⟨_, rfl, rfl⟩ rfl (Nat.le_of_ble_eq_true rfl)) (zn (AW.region (zs (op_moveT .r) (zs (op_load_ptrA .r rfl rfl rfl ag25) ?_)))))))
  obtain ⟨v5, hv5, hm⟩ := bindE hm
  refine zs (op_fn Tryz.call8 .r (.cons (.r rfl) .nil) (m_law29_Own_ok hv5)) (zs (op_buildSlice (ds := ([v5] : List SFeatures).map SFeatures.e) sl54 (.cons (.r rfl) rfl (enSFeatures.one _) .nil) rfl (by decide)) ?_)
  obtain ⟨v6, hv6, hm⟩ := bindE hm
  refine zs (op_appendM (f := SFeatures.e) (l' := ([v5] : List SFeatures)) sl54 .r (.r rfl) rfl rfl enSFeatures hv6) (zs (op_assignT .r) (zn (bq_n (nq (AW.region (zs (op_addw (.r rfl) (.r rfl)) (zm rfl (zn ?_))))))))
  obtain rfl := Option.some.inj hm
  exact nq ⟨_, hI1, ⟨[0], rfl, rfl, rfl, ⟨(.tk rfl), (.d rfl), (.d rfl), (.d rfl), trivial⟩, trivial, (.tok rfl .nil)⟩⟩
 ·replace hm := iteF hc1 hm
  refine AW.exit (tq_exit (tq_exit ?_))
  obtain rfl := Option.some.inj hm
  obtain rfl := Option.some.inj hI1
  replace hm := hk1
  try dsimp only at hm
  refine bq_hit (nq (zr (zs (op_moveT .r) (zs (op_assignT .r) (zn (AW.ret ?_))))))
  obtain rfl := Option.some.inj hm
  exact EndQ.d (.tmp .r .nil) rfl rfl

theorem m_slices_IndexFunc_feature_Features_feature_Features_ok {n : Nat} {H : List HE} {a1 : (List SFeatures)} {p2 : SFeatures → Option Bool} {r : Int} {ff_p2 : FuncId} {caps_p2 : List V} (hff_p2 : ∀ (a : Array Value) (w : World), (callFunc ff_p2 a).run Tryz.prog w = .ok (.enter ff_p2 a) w) (hF_p2 : ∀ (y1 : SFeatures) (b : Bool), p2 y1 = some b → ACall Tryz.prog ff_p2 (.d (SFeatures.e y1) :: caps_p2) H fun r' H' => r' = .d (.bool b) ∧ H' = H) (hm : m_slices_IndexFunc_feature_Features_feature_Features n a1 p2 = some r) : ACall Tryz.prog 66 [.d (.sl (a1.map SFeatures.e)), .fn (.func ff_p2) caps_p2] H fun r' H' => r' = .d (.int .i64 r) ∧ H' = H := by
 unfold m_slices_IndexFunc_feature_Features_feature_Features at hm
 refine ACall.of_AW (fnn := Tryz.f66) Tryz.func66 rfl (Nat.le_of_ble_eq_true rfl) (fun g0 w0 hw0 => ?_)
 refine zr (za rfl (zn (AW.seq (zr (zm rfl (zs (op_lenM (f := SFeatures.e) (.r rfl) sl54) (zm rfl (zn (AW.block ?_)))))))))
 obtain ⟨t_1, hI1, hk1⟩ := bindE hm
 refine AW.loopN (σ := Int) (τ := (Int ⊕ Unit)) [0, 1, 7] (fun x => [(8, .d (.int .i64 x))]) hI1 ⟨by first | exact .of rfl | exact .d rfl, trivial⟩ ?_
 rintro n1 s3 hI1
 obtain ⟨y_1, hm, hI1⟩ := iterS hI1
 replace hm : m_slices_IndexFunc_feature_Features_feature_Features_L1 n _ _ s3 = some y_1 := hm
 unfold m_slices_IndexFunc_feature_Features_feature_Features_L1 at hm
 try dsimp only at hm
 refine zr (zs (op_lss (.r rfl) (.r rfl)) (zn (AW.seq ?_)))
 refine AW.cond (b := _) rfl (fun hc1 => ?_) (fun hc1 => ?_)
 ·replace hm := iteT hc1 hm
  refine AW.skip (nq (AW.seq (AW.block (zr (zm rfl (za rfl (zn (zr (zs (op_moveF .r) (zm rfl (zm rfl ?_)))))))))))
  obtain ⟨v4, hv4, hm⟩ := bindE hm
  refine zs (op_indexAddrM (f := SFeatures.e) (.r rfl) (.r rfl) hv4 enSFeatures sl54) (zs (op_loadA .r rfl ag33) ?_)
  obtain ⟨v5, hv5, hm⟩ := bindE hm
  refine zs (op_call hff_p2 .r (.cons .r .nil) (hF_p2 _ _ hv5)) (zn ?_)
  refine AW.cond (b := _) rfl (fun hc2 => ?_) (fun hc2 => ?_)
  ·replace hm := iteT hc2 hm
   refine zr (zm rfl (za rfl (zn (AW.ret (bq_ret (tq_ret (tq_ret ?_)))))))
   obtain rfl := Option.some.inj hm
   obtain rfl := Option.some.inj hI1
   replace hm := hk1
   try dsimp only at hm
   refine bq_ret (tq_ret ?_)
   obtain rfl := Option.some.inj hm
   exact ⟨_, _, (.tmp .r .nil), .d rfl, rfl, rfl⟩
  ·replace hm := iteF hc2 hm
   refine AW.skip (bq_n (nq (AW.region (zs (op_addw (.r rfl) (.r rfl)) (zm rfl (zn ?_))))))
   obtain rfl := Option.some.inj hm
   exact nq ⟨_, hI1, ⟨by first | exact .of rfl | exact .d rfl, trivial⟩, ⟨rfl, rfl, rfl, trivial⟩, rfl⟩
 ·replace hm := iteF hc1 hm
  refine AW.exit (tq_exit (tq_exit ?_))
  obtain rfl := Option.some.inj hm
  obtain rfl := Option.some.inj hI1
  replace hm := hk1
  try dsimp only at hm
  refine bq_hit (nq (zr (za rfl (zn (AW.ret ?_)))))
  obtain rfl := Option.some.inj hm
  exact ⟨_, _, (.tmp .r .nil), .d rfl, rfl, rfl⟩

theorem m_slices_ContainsFunc_feature_Features_feature_Features_ok {n : Nat} {H : List HE} {a1 : (List SFeatures)} {p2 : SFeatures → Option Bool} {r : Bool} {ff_p2 : FuncId} {caps_p2 : List V} (hff_p2 : ∀ (a : Array Value) (w : World), (callFunc ff_p2 a).run Tryz.prog w = .ok (.enter ff_p2 a) w) (hF_p2 : ∀ (y1 : SFeatures) (b : Bool), p2 y1 = some b → ACall Tryz.prog ff_p2 (.d (SFeatures.e y1) :: caps_p2) H fun r' H' => r' = .d (.bool b) ∧ H' = H) (hm : m_slices_ContainsFunc_feature_Features_feature_Features n a1 p2 = some r) : ACall Tryz.prog 29 [.d (.sl (a1.map SFeatures.e)), .fn (.func ff_p2) caps_p2] H fun r' H' => r' = .d (.bool r) ∧ H' = H := by
 unfold m_slices_ContainsFunc_feature_Features_feature_Features at hm
 refine ACall.of_AW (fnn := Tryz.f29) Tryz.func29 rfl (Nat.le_of_ble_eq_true rfl) (fun g0 w0 hw0 => ?_)
 refine zr (za rfl (zn (zr (zm rfl (zs (op_moveF .r) ?_)))))
 obtain ⟨v3, hv3, hm⟩ := bindE hm
 refine zs (op_call Tryz.call66 .r (.cons .r (.cons .r .nil)) (m_slices_IndexFunc_feature_Features_feature_Features_ok hff_p2 hF_p2 hv3)) (zs (op_geq (.r rfl) (.r rfl)) (za rfl (zn (AW.ret ?_))))
 obtain rfl := Option.some.inj hm
 exact ⟨_, _, (.tmp .r .nil), .d rfl, rfl, rfl⟩

end Go.Proofs.YtgcmhhcopeiomaaGreat.Ab
