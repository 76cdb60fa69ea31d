/- The functions do what they are in plain Lean. Conditions: none. -/
import Derived.Test.YtkdefjliknpliaaGreatDoorTy
import Derived.Test.YtkdefjliknpliaaGreatDoorMi
import Derived.Test.YtkdefjliknpliaaGreatDoorFe
set_option maxRecDepth 100000
set_option maxHeartbeats 20000000
namespace Go.Proofs.YtkdefjliknpliaaGreatDoor.Ab
open Go
attribute [local irreducible] AL AD AW nlO nlV nlD

theorem m_law30_BlockKeys_ok {n : Nat} {a1 : (List SFeatures)} {r : Bool} (hm : m_law30_BlockKeys n a1 = some r) : Fn Tryz.prog 3 [(.sl (a1.map SFeatures.e))] (.bool r) := by
 unfold m_law30_BlockKeys at hm
 refine Fn.of_AW (fnn := Tryz.f3) Tryz.func3 rfl (Nat.le_of_ble_eq_true rfl) (fun g0 w0 hw0 => ?_)
 refine AW.reset 0 [(0, .d (.sl (a1.map SFeatures.e)))] [] (WOK.g0 hw0 (by simp)) ⟨[], rfl, rfl, rfl, ⟨(.d rfl), trivial⟩, trivial, .nil⟩ (zr (za rfl (zn (AW.seq (zr ?_)))))
 obtain ⟨v2, hv2, hm⟩ := bindE hm
 refine zs (op_fn Tryz.call9 .r .nil (m_law30_awake_ok hv2)) (zs (op_not (.r rfl)) (zm rfl (AL.sF rfl rfl rfl rfl (fun g => op_moveD .r) ?_)))
 obtain ⟨v3, hv3, hm⟩ := bindE hm
 refine AL.sF rfl rfl rfl rfl (fun g => op_fn Tryz.call10 .r (.cons (.we (nt g) rfl rfl) .nil) (m_law30_few_ok (iteT (nt g) hv3))) (AL.sF rfl rfl rfl rfl (fun g => op_not (.we (nt g) rfl rfl)) (zs (op_or (.r rfl) rfl (fun h => (.we (nt h) rfl rfl))) (zn ?_)))
 refine AW.cond (b := _) rfl (fun hc1 => ?_) (fun hc1 => ?_)
 ·replace hm := iteT hc1 hm
  refine zr ?_
  obtain ⟨v4, hv4, hm⟩ := bindE hm
  refine zs (op_fn Tryz.call9 .r .nil (m_law30_awake_ok hv4)) (za rfl (zn (AW.ret (tq_ret ?_))))
  obtain rfl := Option.some.inj hm
  exact EndQ.d (.tmp .r .nil) rfl rfl
 ·replace hm := iteF hc1 hm
  refine AW.skip (nq (zr (zm rfl ?_)))
  obtain ⟨v5, hv5, hm⟩ := bindE hm
  refine zs (op_fn Tryz.call12 .r (.cons (.r rfl) .nil) (m_law29_Owns_ok hv5)) ?_
  obtain ⟨v6, hv6, hm⟩ := bindE hm
  refine zs (op_fn Tryz.call11 .r (.cons (.r rfl) .nil) (m_block_Of_ok hv6)) (zm rfl (zs (op_extractD .r rfl) (zs (op_extractD .r rfl) (za rfl (za rfl (zn (zr (zm rfl ?_))))))))
  obtain ⟨v7, hv7, hm⟩ := bindE hm
  refine zs (op_fn Tryz.call13 .r (.cons (.r rfl) .nil) (m_ref30_Of_ok hv7)) (zm rfl (zs (op_extractD .r rfl) (zs (op_extractD .r rfl) (za rfl (za rfl (zn (AW.seq (zr (zm rfl ?_)))))))))
  obtain ⟨v8, hv8, hm⟩ := bindE hm
  refine zs (op_fn Tryz.call15 .r (.cons (.r rfl) .nil) (m_law30_Theirs_ok hv8)) (zm rfl ?_)
  obtain ⟨v9, hv9, hm⟩ := bindE hm
  refine zs (op_fn Tryz.call14 .r (.cons (.r rfl) (.cons (.r rfl) .nil)) (m_ref30_Same_ok hv9)) (zs (op_not (.r rfl)) (zm rfl (AL.sF rfl rfl rfl rfl (fun g => op_moveD .r) (AL.sF rfl rfl rfl rfl (fun g => op_moveD .r) (AL.sF rfl rfl rfl rfl (fun g => op_neq (.we (nt g) rfl rfl) (.we (nt g) rfl rfl)) (zs (op_or (.r rfl) rfl (fun h => (.we (nt h) rfl rfl))) (zn ?_)))))))
  refine AW.cond (b := _) rfl (fun hc2 => ?_) (fun hc2 => ?_)
  ·replace hm := iteT hc2 hm
   refine zr (za rfl (zn (AW.ret (tq_ret ?_))))
   obtain rfl := Option.some.inj hm
   exact EndQ.d (.tmp .r .nil) rfl rfl
  ·replace hm := iteF hc2 hm
   refine AW.skip (nq (AW.seq (zr (zm rfl (zs (op_lenM (f := SFeatures.e) (.r rfl) sl22) (zm rfl (zn (AW.block ?_))))))))
   obtain ⟨t_1, hI1, hk1⟩ := bindE hm
   refine AW.loopS (σ := Int) (τ := (Bool ⊕ Unit)) 0 (fun x => [(38, .d (.sl (a1.map SFeatures.e))), (39, .d (.int .i64 (a1.length : Int))), (40, .d (.int .i64 x))]) (fun x => []) hI1 (WOK.g0 hw0 (by simp)) ⟨[], rfl, rfl, rfl, ⟨(.d rfl), (.d rfl), (.d rfl), trivial⟩, trivial, .nil⟩ ?_
   rintro n1 s10 hI1
   obtain ⟨y_1, hm, hI1⟩ := iterS hI1
   replace hm : m_law30_BlockKeys_L1 n _ s10 = some y_1 := hm
   unfold m_law30_BlockKeys_L1 at hm
   try dsimp only at hm
   refine zr (zs (op_lss (.r rfl) (.r rfl)) (zn (AW.seq ?_)))
   refine AW.cond (b := _) rfl (fun hc3 => ?_) (fun hc3 => ?_)
   ·replace hm := iteT hc3 hm
    refine AW.skip (nq (AW.seq (AW.block (zr ?_))))
    obtain ⟨v11, hv11, hm⟩ := bindE hm
    refine zs (op_indexAddrM (f := SFeatures.e) (.r rfl) (.r rfl) hv11 enSFeatures sl22) (zs (op_loadA .r rfl ag40) (zs (op_alloc (n := 0) zr40 rfl) (zs (op_store .r .r rfl rfl rfl ⟨_, rfl, rfl⟩ rfl (Nat.le_of_ble_eq_true rfl)) (zn (AW.seqD [([0], []), ([], []), ([], []), ([0], []), ([], []), ([], []), ([], [])] mo (by decide +kernel) (AD.s (ws := []) rfl rfl (fun H' _ hH => op_load_ptrA .r ((hH _ (by simp)).trans rfl) rfl rfl ag40) ?_))))))
    obtain ⟨v12, hv12, hm⟩ := bindE hm
    refine AD.s (ws := []) rfl rfl (fun H' _ hH => op_fn Tryz.call18 .r (.cons (.r rfl) .nil) (m_law29_Own_ok hv12)) ?_
    obtain ⟨v13, hv13, hm⟩ := bindE hm
    refine AD.s (ws := []) rfl rfl (fun H' _ hH => op_fn Tryz.call17 .r (.cons (.r rfl) .nil) (m_block_Keys_ok hv13)) (AD.s (ws := []) rfl rfl (fun H' _ hH => op_load_ptrA .r ((hH _ (by simp)).trans rfl) rfl rfl ag40) ?_)
    obtain ⟨v14, hv14, hm⟩ := bindE hm
    refine AD.s (ws := []) rfl rfl (fun H' _ hH => op_fn Tryz.call19 .r (.cons (.r rfl) .nil) (m_ref30_Keys_ok hv14)) ?_
    obtain ⟨v15, hv15, hm⟩ := bindE hm
    refine AD.s (ws := []) rfl rfl (fun H' _ hH => op_fn Tryz.call16 .r (.cons (.r rfl) (.cons (.r rfl) .nil)) (m_ref29_SameTexts_ok hv15)) (AD.s (ws := []) rfl rfl (fun H' _ hH => op_not (.r rfl)) (AD.nil ?_))
    refine AW.cond (b := _) rfl (fun hc4 => ?_) (fun hc4 => ?_)
    ·replace hm := iteT hc4 hm
     refine zr (za rfl (zn (AW.ret (bq_ret (tq_ret (tq_ret ?_))))))
     obtain rfl := Option.some.inj hm
     obtain rfl := Option.some.inj hI1
     replace hm := hk1
     try dsimp only at hm
     refine bq_ret (tq_ret ?_)
     obtain rfl := Option.some.inj hm
     exact EndQ.d (.tmp .r .nil) rfl rfl
    ·replace hm := iteF hc4 hm
     refine AW.skip (bq_n (nq (AW.region (zs (op_addw (.r rfl) (.r rfl)) (zm rfl (zn ?_))))))
     obtain rfl := Option.some.inj hm
     exact nq ⟨_, hI1, ⟨[], rfl, rfl, rfl, ⟨(.d rfl), (.d rfl), (.d rfl), trivial⟩, trivial, .nil⟩⟩
   ·replace hm := iteF hc3 hm
    refine AW.exit (tq_exit (tq_exit ?_))
    obtain rfl := Option.some.inj hm
    obtain rfl := Option.some.inj hI1
    replace hm := hk1
    try dsimp only at hm
    refine bq_hit (nq (zr (za rfl (zn (AW.ret ?_)))))
    obtain rfl := Option.some.inj hm
    exact EndQ.d (.tmp .r .nil) rfl rfl

end Go.Proofs.YtkdefjliknpliaaGreatDoor.Ab
