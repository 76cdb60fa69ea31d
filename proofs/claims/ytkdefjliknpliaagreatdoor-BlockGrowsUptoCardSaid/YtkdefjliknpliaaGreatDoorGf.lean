/- The functions do what they are in plain Lean. Conditions: none. -/
import Derived.Test.YtkdefjliknpliaaGreatDoorTy
import Derived.Test.YtkdefjliknpliaaGreatDoorMi
import Derived.Test.YtkdefjliknpliaaGreatDoorFe
set_option maxRecDepth 100000
set_option maxHeartbeats 20000000
namespace Go.Proofs.YtkdefjliknpliaaGreatDoor.Ab
open Go
attribute [local irreducible] AL AD AW nlO nlV nlD
theorem m_law30_BlockGrows_ok {n : Nat} {a1 : (List SFeatures)} {a2 : A2} {r : Bool} (hm : m_law30_BlockGrows n a1 a2 = some r) : Fn Tryz.prog 8 [(.sl (a1.map SFeatures.e)), (A2.e a2)] (.bool r) := by
 unfold m_law30_BlockGrows at hm
 refine Fn.of_AW (fnn := Tryz.f8) Tryz.func8 rfl (Nat.le_of_ble_eq_true rfl) (fun g0 w0 hw0 => ?_)
 refine AW.reset 0 [(0, .d (.sl (a1.map SFeatures.e))), (1, .d (A2.e a2))] [] (WOK.g0 hw0 (by simp)) ⟨[], rfl, rfl, rfl, ⟨(.d rfl), (.d rfl), trivial⟩, trivial, .nil⟩ (zr (zs (op_box (n := 0) .r rfl rfl rfl) (za rfl (zn (AW.seq (zr ?_))))))
 obtain ⟨v3, hv3, hm⟩ := bindE hm
 refine zs (op_fn Tryz.call9 .r .nil (m_law30_awake_ok hv3)) (zs (op_not (.r rfl)) (zm rfl (AL.sF rfl rfl rfl rfl (fun g => op_moveD .r) ?_)))
 obtain ⟨v4, hv4, hm⟩ := bindE hm
 refine AL.sF rfl rfl rfl rfl (fun g => op_fn Tryz.call29 .r (.cons (.we (nt g) rfl rfl) .nil) (m_law30_good_ok (iteT (nt g) hv4))) (AL.sF rfl rfl rfl rfl (fun g => op_not (.we (nt g) rfl rfl)) (zs (op_or (.r rfl) rfl (fun h => (.we (nt h) rfl rfl))) (zm rfl (AL.sF rfl rfl rfl rfl (fun g => op_moveD .r) (AL.sF rfl rfl rfl rfl (fun g => op_lenM (f := SFeatures.e) (.we (nt g) rfl rfl) sl22) (AL.sF rfl rfl rfl rfl (fun g => op_eql (.we (nt g) rfl rfl) (.r rfl)) (zs (op_or (.r rfl) rfl (fun h => (.we (nt h) rfl rfl))) (zn ?_))))))))
 refine AW.cond (b := _) rfl (fun hc1 => ?_) (fun hc1 => ?_)
 ·replace hm := iteT hc1 hm
  refine zr ?_
  obtain ⟨v5, hv5, hm⟩ := bindE hm
  refine zs (op_fn Tryz.call9 .r .nil (m_law30_awake_ok hv5)) (za rfl (zn (AW.ret (tq_ret ?_))))
  obtain rfl := Option.some.inj hm
  exact EndQ.d (.tmp .r .nil) rfl rfl
 ·replace hm := iteF hc1 hm
  refine AW.skip (nq (zr (zm rfl ?_)))
  obtain ⟨v6, hv6, hm⟩ := bindE hm
  refine zs (op_fn Tryz.call30 .r (.cons (.r rfl) .nil) (m_law30_table_ok hv6)) (zm rfl (zs (op_extractD .r rfl) (zs (op_extractD .r rfl) (za rfl (za rfl (zn (zr (zs (op_indexAddr_arr (i := 0) .r (.r rfl) rfl (by decide) Tryz.underlying71 ⟨_, rfl, rfl⟩) (zs (op_load_ptr1 .r rfl rfl sc5) (zs (op_conv_int (.r rfl) ⟨_, Tryz.underlying5⟩ Tryz.underlying3) ?_))))))))))
  obtain ⟨v7, hv7, hm⟩ := bindE hm
  refine zs (op_remM (.r rfl) (.r rfl) hv7) (zs (op_addw (.r rfl) (.r rfl)) (za rfl (zn (zr (zm rfl (zs (op_indexAddr_arr (i := 1) .r (.r rfl) rfl (by decide) Tryz.underlying71 ⟨_, rfl, rfl⟩) (zs (op_load_ptr1 .r rfl rfl sc5) (zs (op_conv_int (.r rfl) ⟨_, Tryz.underlying5⟩ Tryz.underlying3) ?_))))))))
  obtain ⟨v8, hv8, hm⟩ := bindE hm
  refine zs (op_remM (.r rfl) (.r rfl) hv8) (zs (op_addw (.r rfl) (.r rfl)) (za rfl (zn (zr (zm rfl (zm rfl ?_))))))
  obtain ⟨v9, hv9, hm⟩ := bindE hm
  refine zs (op_fn Tryz.call32 .r (.cons (.r rfl) (.cons (.r rfl) .nil)) (m_block_Pairs_ok hv9)) (zm rfl (zs (op_extractD .r rfl) (zs (op_extractD .r rfl) (za rfl (za rfl (zn (AW.reset 0 [(0, .d (.sl (a1.map SFeatures.e))), (5, .d (.sl (v6.1.map SBlock.e))), (6, .d (.bool v6.2)), (7, .d (.int .i64 (IntKind.i64.wrap ((2 : Int) + v7)))), (8, .d (.int .i64 (IntKind.i64.wrap ((IntKind.i64.wrap ((2 : Int) + v7)) + v8)))), (9, .d (.sl (v9.1.map SPair.e))), (10, .d (.int .i64 v9.2))] [.row [.d (.int .u8 a2.e0), .d (.int .u8 a2.e1)]] (WOK.g0 hw0 (by simp)) ⟨[0], rfl, rfl, rfl, ⟨(.d rfl), (.d rfl), (.d rfl), (.d rfl), (.d rfl), (.d rfl), (.d rfl), trivial⟩, trivial, (.row rfl (.cons (.d rfl) (.cons (.d rfl) .nil)) .nil)⟩ (zr (zm rfl (zm rfl ?_))))))))))
  obtain ⟨v10, hv10, hm⟩ := bindE hm
  refine zs (op_fn Tryz.call32 .r (.cons (.r rfl) (.cons (.r rfl) .nil)) (m_block_Pairs_ok hv10)) (zm rfl (zs (op_extractD .r rfl) (zs (op_extractD .r rfl) (za rfl (za rfl (zn (AW.seq (zr (zm rfl (zs (op_not (.r rfl)) (zm rfl (AL.sF rfl rfl rfl rfl (fun g => op_moveD .r) (AL.sF rfl rfl rfl rfl (fun g => op_neq (.we (nt g) rfl rfl) (.r rfl)) (zs (op_or (.r rfl) rfl (fun h => (.we (nt h) rfl rfl))) (zm rfl (AL.sF rfl rfl rfl rfl (fun g => op_moveD .r) (AL.sF rfl rfl rfl rfl (fun g => op_neq (.we (nt g) rfl rfl) (.r rfl)) (zs (op_or (.r rfl) rfl (fun h => (.we (nt h) rfl rfl))) (zn ?_)))))))))))))))))))
  refine AW.cond (b := _) rfl (fun hc2 => ?_) (fun hc2 => ?_)
  ·replace hm := iteT hc2 hm
   refine zr (za rfl (zn (AW.ret (tq_ret ?_))))
   obtain rfl := Option.some.inj hm
   exact EndQ.d (.tmp .r .nil) rfl rfl
  ·replace hm := iteF hc2 hm
   refine AW.skip (nq (zr (zs (op_assignF .r) (zn (AW.seq (zr (zm rfl (zs (op_lenM (f := SPair.e) (.r rfl) sl59) (zm rfl (zn (AW.block ?_)))))))))))
   obtain ⟨t_1, hI1, hk1⟩ := bindE hm
   refine AW.loopS (σ := Int) (τ := (Bool ⊕ Unit)) 0 (fun x => [(0, .d (.sl (a1.map SFeatures.e))), (7, .d (.int .i64 (IntKind.i64.wrap ((2 : Int) + v7)))), (9, .d (.sl (v9.1.map SPair.e))), (11, .d (.sl (v10.1.map SPair.e))), (13, .fn (.func 39) []), (78, .d (.sl (v9.1.map SPair.e))), (79, .d (.int .i64 (v9.1.length : Int))), (80, .d (.int .i64 x))]) (fun x => [.row [.d (.int .u8 a2.e0), .d (.int .u8 a2.e1)]]) hI1 (WOK.g0 hw0 (by simp)) ⟨[0], rfl, rfl, rfl, ⟨(.d rfl), (.d rfl), (.d rfl), (.d rfl), .fn0, (.d rfl), (.d rfl), (.d rfl), trivial⟩, trivial, (.row rfl (.cons (.d rfl) (.cons (.d rfl) .nil)) .nil)⟩ ?_
   rintro n1 s11 hI1
   obtain ⟨y_1, hm, hI1⟩ := iterS hI1
   replace hm : m_law30_BlockGrows_L1 n _ _ s11 = some y_1 := hm
   unfold m_law30_BlockGrows_L1 at hm
   try dsimp only at hm
   refine zr (zs (op_lss (.r rfl) (.r rfl)) (zn (AW.seq ?_)))
   refine AW.cond (b := _) rfl (fun hc3 => ?_) (fun hc3 => ?_)
   ·replace hm := iteT hc3 hm
    refine AW.skip (nq (AW.seq (AW.block (zr ?_))))
    obtain ⟨v12, hv12, hm⟩ := bindE hm
    refine zs (op_indexAddrM (f := SPair.e) (.r rfl) (.r rfl) hv12 enSPair sl59) (zs (op_loadA .r rfl ag64) (zs (op_alloc (n := 1) zr64 rfl) (zs (op_store .r .r rfl rfl rfl ⟨_, rfl, rfl⟩ rfl (Nat.le_of_ble_eq_true rfl)) (zn (zr (zs (op_moveF .r) (zm rfl (zs (op_load_ptrA .r rfl rfl rfl ag64) ?_))))))))
    obtain ⟨v13, hv13, hm⟩ := bindE hm
    refine zs (op_fn Tryz.call39 .r (.cons (.r rfl) (.cons (.r rfl) .nil)) (m_law30_BlockGrows_1_ok hv13)) (zs (op_not (.r rfl)) (zn ?_))
    refine AW.cond (b := _) rfl (fun hc4 => ?_) (fun hc4 => ?_)
    ·replace hm := iteT hc4 hm
     refine zr (za rfl (zn (AW.ret (bq_ret (tq_ret (tq_ret ?_))))))
     obtain rfl := Option.some.inj hm
     obtain rfl := Option.some.inj hI1
     replace hm := hk1
     try dsimp only at hm
     refine bq_ret (tq_ret ?_)
     obtain rfl := Option.some.inj hm
     exact EndQ.d (.tmp .r .nil) rfl rfl
    ·replace hm := iteF hc4 hm
     refine AW.skip (bq_n (nq (AW.region (zs (op_addw (.r rfl) (.r rfl)) (zm rfl (zn ?_))))))
     obtain rfl := Option.some.inj hm
     exact nq ⟨_, hI1, ⟨[0], rfl, rfl, rfl, ⟨(.d rfl), (.d rfl), (.d rfl), (.d rfl), .fn0, (.d rfl), (.d rfl), (.d rfl), trivial⟩, trivial, (.row rfl (.cons (.d rfl) (.cons (.d rfl) .nil)) .nil)⟩⟩
   ·replace hm := iteF hc3 hm
    refine AW.exit (tq_exit (tq_exit ?_))
    obtain rfl := Option.some.inj hm
    obtain rfl := Option.some.inj hI1
    replace hm := hk1
    try dsimp only at hm
    refine bq_hit (nq (zr (zm rfl (zm rfl (zs (op_lenM (f := SFeatures.e) (.r rfl) sl22) (zs (op_subw (.r rfl) (.r rfl)) ?_))))))
    obtain ⟨v14, hv14, hm⟩ := bindE hm
    refine zs (op_indexAddrM (f := SFeatures.e) (.r rfl) (.r rfl) hv14 enSFeatures sl22) (zs (op_loadA .r rfl ag40) (zs (op_alloc (n := 1) zr40 rfl) (zs (op_store .r .r rfl rfl rfl ⟨_, rfl, rfl⟩ rfl (Nat.le_of_ble_eq_true rfl)) (zn (zr (zm rfl (zm rfl (zs (op_lenM (f := SFeatures.e) (.r rfl) sl22) (zs (op_subw (.r rfl) (.r rfl)) ?_)))))))))
    obtain ⟨v15, hv15, hm⟩ := bindE hm
    refine zs (op_sliceM (f := SFeatures.e) (.r rfl) sl22 rfl (.r rfl) enSFeatures hv15) ?_
    obtain ⟨v16, hv16, hm⟩ := bindE hm
    refine zs (op_fn Tryz.call30 .r (.cons (.r rfl) .nil) (m_law30_table_ok hv16)) (zm rfl (zs (op_extractD .r rfl) (zs (op_extractD .r rfl) (za rfl (za rfl (zn (zr (zm rfl (zm rfl ?_)))))))))
    obtain ⟨v17, hv17, hm⟩ := bindE hm
    refine zs (op_fn Tryz.call32 .r (.cons (.r rfl) (.cons (.r rfl) .nil)) (m_block_Pairs_ok hv17)) (zm rfl (zs (op_extractD .r rfl) (zs (op_extractD .r rfl) (za rfl (za rfl (zn (zr (zm rfl (zs (op_load_ptrA .r rfl rfl rfl ag40) ?_)))))))))
    obtain ⟨v18, hv18, hm⟩ := bindE hm
    refine zs (op_fn Tryz.call18 .r (.cons (.r rfl) .nil) (m_law29_Own_ok hv18)) (zm rfl ?_)
    obtain ⟨v19, hv19, hm⟩ := bindE hm
    refine zs (op_fn Tryz.call35 .r (.cons (.r rfl) (.cons (.r rfl) (.cons (.r rfl) .nil))) (m_block_Near_ok hv19)) (zm rfl (zs (op_extractD .r rfl) (zs (op_extractD .r rfl) (za rfl (za rfl (zn (AW.seq (AW.reset 0 [(9, .d (.sl (v9.1.map SPair.e))), (13, .fn (.func 39) []), (16, .ptr 1 0), (18, .d (.bool v16.2)), (19, .d (.sl (v17.1.map SPair.e))), (20, .d (.int .i64 v17.2)), (21, .d (.sl (v19.1.map D.i))), (22, .d (.int .i64 v19.2))] [.row [.d (.int .u8 a2.e0), .d (.int .u8 a2.e1)], .row [.d (.int .i64 v14.fID), .d (.sl (v14.fTitle.map D.str)), .d (.str v14.fAuthor), .d (.sl (v14.fYears.map D.i)), .d (.sl (v14.fIsbns.map D.str)), .d (.sl (v14.fLangs.map D.str)), .d (.sl (v14.fPublisher.map D.str)), .d (.sl (v14.fEdition.map D.str))]] (WOK.g0 hw0 (by simp)) ⟨[0, 1], rfl, rfl, rfl, ⟨(.d rfl), .fn0, (.ptr rfl), (.d rfl), (.d rfl), (.d rfl), (.d rfl), (.d rfl), trivial⟩, trivial, (.row rfl (.cons (.d rfl) (.cons (.d rfl) .nil)) (.row rfl (.cons (.d rfl) (.cons (.d rfl) (.cons (.d rfl) (.cons (.d rfl) (.cons (.d rfl) (.cons (.d rfl) (.cons (.d rfl) (.cons (.d rfl) .nil)))))))) .nil))⟩ (zr (zm rfl (zs (op_not (.r rfl)) (zm rfl (AL.sF rfl rfl rfl rfl (fun g => op_moveD .r) (AL.sF rfl rfl rfl rfl (fun g => op_neq (.we (nt g) rfl rfl) (.r rfl)) (zs (op_or (.r rfl) rfl (fun h => (.we (nt h) rfl rfl))) (zm rfl (AL.sF rfl rfl rfl rfl (fun g => op_moveD .r) (AL.sF rfl rfl rfl rfl (fun g => op_neq (.we (nt g) rfl rfl) (.r rfl)) (zs (op_or (.r rfl) rfl (fun h => (.we (nt h) rfl rfl))) (zn ?_))))))))))))))))))))
    refine AW.cond (b := _) rfl (fun hc5 => ?_) (fun hc5 => ?_)
    ·replace hm := iteT hc5 hm
     refine zr (za rfl (zn (AW.ret (tq_ret ?_))))
     obtain rfl := Option.some.inj hm
     exact EndQ.d (.tmp .r .nil) rfl rfl
    ·replace hm := iteF hc5 hm
     refine AW.skip (nq (zr (za rfl (zn (AW.seq (zr (zm rfl (zs (op_lenM (f := SPair.e) (.r rfl) sl59) (zm rfl (zn (AW.block ?_)))))))))))
     obtain ⟨t_2, hI2, hk2⟩ := bindE hm
     refine AW.loopS (σ := (Int × Int)) (τ := (Bool ⊕ Int)) 0 (fun x => [(13, .fn (.func 39) []), (16, .ptr 1 0), (19, .d (.sl (v17.1.map SPair.e))), (21, .d (.sl (v19.1.map D.i))), (23, .d (.int .i64 x.1)), (129, .d (.sl (v9.1.map SPair.e))), (130, .d (.int .i64 (v9.1.length : Int))), (131, .d (.int .i64 x.2))]) (fun x => [.row [.d (.int .u8 a2.e0), .d (.int .u8 a2.e1)], .row [.d (.int .i64 v14.fID), .d (.sl (v14.fTitle.map D.str)), .d (.str v14.fAuthor), .d (.sl (v14.fYears.map D.i)), .d (.sl (v14.fIsbns.map D.str)), .d (.sl (v14.fLangs.map D.str)), .d (.sl (v14.fPublisher.map D.str)), .d (.sl (v14.fEdition.map D.str))]]) hI2 (WOK.g0 hw0 (by simp)) ⟨[0, 1], rfl, rfl, rfl, ⟨.fn0, (.ptr rfl), (.d rfl), (.d rfl), (.d rfl), (.d rfl), (.d rfl), (.d rfl), trivial⟩, trivial, (.row rfl (.cons (.d rfl) (.cons (.d rfl) .nil)) (.row rfl (.cons (.d rfl) (.cons (.d rfl) (.cons (.d rfl) (.cons (.d rfl) (.cons (.d rfl) (.cons (.d rfl) (.cons (.d rfl) (.cons (.d rfl) .nil)))))))) .nil))⟩ ?_
     rintro n2 ⟨s20, s21⟩ hI2
     obtain ⟨y_2, hm, hI2⟩ := iterS hI2
     replace hm : m_law30_BlockGrows_L2 n _ _ _ _ s20 s21 = some y_2 := hm
     unfold m_law30_BlockGrows_L2 at hm
     try dsimp only at hm
     refine zr (zs (op_lss (.r rfl) (.r rfl)) (zn (AW.seq ?_)))
     refine AW.cond (b := _) rfl (fun hc6 => ?_) (fun hc6 => ?_)
     ·replace hm := iteT hc6 hm
      refine AW.skip (nq ?_)
      obtain ⟨t_j1, hm, hkj1⟩ := bindE hm
      refine AW.cutS (α := Int) 0 (fun x => (.inr x) = t_j1) (fun x => [(13, .fn (.func 39) []), (16, .ptr 1 0), (19, .d (.sl (v17.1.map SPair.e))), (21, .d (.sl (v19.1.map D.i))), (23, .d (.int .i64 x)), (129, .d (.sl (v9.1.map SPair.e))), (130, .d (.int .i64 (v9.1.length : Int))), (131, .d (.int .i64 s21))]) (fun x => [.row [.d (.int .u8 a2.e0), .d (.int .u8 a2.e1)], .row [.d (.int .i64 v14.fID), .d (.sl (v14.fTitle.map D.str)), .d (.str v14.fAuthor), .d (.sl (v14.fYears.map D.i)), .d (.sl (v14.fIsbns.map D.str)), .d (.sl (v14.fLangs.map D.str)), .d (.sl (v14.fPublisher.map D.str)), .d (.sl (v14.fEdition.map D.str))]]) (WOK.g0 hw0 (by simp)) ?_ ?_
      ·skip
       refine AW.block (AW.reset 0 [(13, .fn (.func 39) []), (16, .ptr 1 0), (19, .d (.sl (v17.1.map SPair.e))), (21, .d (.sl (v19.1.map D.i))), (23, .d (.int .i64 s20)), (129, .d (.sl (v9.1.map SPair.e))), (130, .d (.int .i64 (v9.1.length : Int))), (131, .d (.int .i64 s21))] [.row [.d (.int .u8 a2.e0), .d (.int .u8 a2.e1)], .row [.d (.int .i64 v14.fID), .d (.sl (v14.fTitle.map D.str)), .d (.str v14.fAuthor), .d (.sl (v14.fYears.map D.i)), .d (.sl (v14.fIsbns.map D.str)), .d (.sl (v14.fLangs.map D.str)), .d (.sl (v14.fPublisher.map D.str)), .d (.sl (v14.fEdition.map D.str))]] (WOK.g0 hw0 (by simp)) ⟨[0, 1], rfl, rfl, rfl, ⟨.fn0, (.ptr rfl), (.d rfl), (.d rfl), (.d rfl), (.d rfl), (.d rfl), (.d rfl), trivial⟩, trivial, (.row rfl (.cons (.d rfl) (.cons (.d rfl) .nil)) (.row rfl (.cons (.d rfl) (.cons (.d rfl) (.cons (.d rfl) (.cons (.d rfl) (.cons (.d rfl) (.cons (.d rfl) (.cons (.d rfl) (.cons (.d rfl) .nil)))))))) .nil))⟩ (zr ?_))
       obtain ⟨v22, hv22, hm⟩ := bindE hm
       refine zs (op_indexAddrM (f := SPair.e) (.r rfl) (.r rfl) hv22 enSPair sl59) (zs (op_loadA .r rfl ag64) (zs (op_alloc (n := 2) zr64 rfl) (zs (op_store .r .r rfl rfl rfl ⟨_, rfl, rfl⟩ rfl (Nat.le_of_ble_eq_true rfl)) (zn (zr (zs (op_field_ptr .r fd64_0) (zs (op_load_ptr1 .r rfl rfl sc3) (zs (op_field_ptr .r fd40_0) (zs (op_load_ptr1 .r rfl rfl sc3) (zs (op_eql (.r rfl) (.r rfl)) (zm rfl (AL.sF rfl rfl rfl rfl (fun g => op_field_ptr .r fd64_1) (AL.sF rfl rfl rfl rfl (fun g => op_load_ptr1 (.we (nt g) rfl) rfl rfl sc3) (AL.sF rfl rfl rfl rfl (fun g => op_field_ptr .r fd40_0) (AL.sF rfl rfl rfl rfl (fun g => op_load_ptr1 (.we (nt g) rfl) rfl rfl sc3) (AL.sF rfl rfl rfl rfl (fun g => op_eql (.we (nt g) rfl rfl) (.we (nt g) rfl rfl)) (zs (op_or (.r rfl) rfl (fun h => (.we (nt h) rfl rfl))) (zn ?_))))))))))))))))))
       refine AW.cond (b := _) rfl (fun hc7 => ?_) (fun hc7 => ?_)
       ·replace hm := iteT hc7 hm
        refine zr (zs (op_field_ptr .r fd64_0) (zs (op_load_ptr1 .r rfl rfl sc3) (zs (op_field_ptr .r fd64_1) (zs (op_load_ptr1 .r rfl rfl sc3) (zs (op_addw (.r rfl) (.r rfl)) (zs (op_field_ptr .r fd40_0) (zs (op_load_ptr1 .r rfl rfl sc3) (zs (op_subw (.r rfl) (.r rfl)) (za rfl (zn (AW.seq (zr (zm rfl (zm rfl (zs (op_lenM (f := D.i) (.r rfl) sl38) (zs (op_geq (.r rfl) (.r rfl)) (zm rfl (AL.sF rfl rfl rfl rfl (fun g => op_moveD .r) (AL.sF rfl rfl rfl rfl (fun g => op_moveD .r) (AL.sF rfl rfl rfl rfl (fun g => op_moveD .r) (AL.sF rfl rfl rfl rfl (fun g => op_addw (.we (nt g) rfl rfl) (.r rfl)) ?_)))))))))))))))))))))
        obtain ⟨v23, hv23, hm⟩ := bindE hm
        refine AL.sF rfl rfl rfl rfl (fun g => op_sliceM (f := D.i) (.we (nt g) rfl rfl) sl38 (.we (nt g) rfl rfl) (.we (nt g) rfl rfl) En.i (iteT (nt g) hv23)) (AL.sF rfl rfl rfl rfl (fun g => op_moveD .r) (AL.sF rfl rfl rfl rfl (fun g => op_buildSlice (ds := ([(IntKind.i64.wrap ((IntKind.i64.wrap (v22.fA + v22.fB)) - v14.fID))] : List Int).map D.i) sl38 (.cons (.we (nt g) rfl rfl) rfl (En.i.one _) .nil) rfl (by decide)) ?_))
        obtain ⟨v24, hv24, hm⟩ := bindE hm
        refine AL.sF rfl rfl rfl rfl (fun g => op_fn Tryz.call38 .r (.cons (.we (nt g) rfl rfl) (.cons (.we (nt g) rfl rfl) .nil)) (m_ref30_SameInts_ok (iteT (nt g) hv24))) (AL.sF rfl rfl rfl rfl (fun g => op_not (.we (nt g) rfl rfl)) (zs (op_or (.r rfl) rfl (fun h => (.we (nt h) rfl rfl))) (zn ?_)))
        refine AW.cond (b := _) rfl (fun hc8 => ?_) (fun hc8 => ?_)
        ·replace hm := iteT hc8 hm
         refine zr (za rfl (zn (AW.ret (tq_ret (bq_ret (tq_ret ?_))))))
         obtain rfl := Option.some.inj hm
         replace hm := hkj1
         try dsimp only at hm
         refine tq_ret ?_
         obtain rfl := Option.some.inj hm
         obtain rfl := Option.some.inj hI2
         replace hm := hk2
         try dsimp only at hm
         refine bq_ret (tq_ret ?_)
         obtain rfl := Option.some.inj hm
         exact EndQ.d (.tmp .r .nil) rfl rfl
        ·replace hm := iteF hc8 hm
         refine AW.skip (nq (AW.region (zm rfl (zs (op_addw (.r rfl) (.r rfl)) (za rfl (zn (bq_n ?_)))))))
         obtain rfl := Option.some.inj hm
         exact nq ⟨_, rfl, ⟨[0, 1], rfl, rfl, rfl, ⟨.fn0, (.ptr rfl), (.d rfl), (.d rfl), (.d rfl), (.d rfl), (.d rfl), (.d rfl), trivial⟩, trivial, (.row rfl (.cons (.d rfl) (.cons (.d rfl) .nil)) (.row rfl (.cons (.d rfl) (.cons (.d rfl) (.cons (.d rfl) (.cons (.d rfl) (.cons (.d rfl) (.cons (.d rfl) (.cons (.d rfl) (.cons (.d rfl) .nil)))))))) .nil))⟩⟩
       ·replace hm := iteF hc7 hm
        refine zr (zs (op_moveF .r) (zm rfl (zs (op_load_ptrA .r rfl rfl rfl ag64) ?_)))
        obtain ⟨v25, hv25, hm⟩ := bindE hm
        refine zs (op_fn Tryz.call39 .r (.cons (.r rfl) (.cons (.r rfl) .nil)) (m_law30_BlockGrows_1_ok hv25)) (zs (op_not (.r rfl)) (zn ?_))
        refine AW.cond (b := _) rfl (fun hc9 => ?_) (fun hc9 => ?_)
        ·replace hm := iteT hc9 hm
         refine AW.reset 0 [] [.row [.d (.int .u8 a2.e0), .d (.int .u8 a2.e1)], .row [.d (.int .i64 v14.fID), .d (.sl (v14.fTitle.map D.str)), .d (.str v14.fAuthor), .d (.sl (v14.fYears.map D.i)), .d (.sl (v14.fIsbns.map D.str)), .d (.sl (v14.fLangs.map D.str)), .d (.sl (v14.fPublisher.map D.str)), .d (.sl (v14.fEdition.map D.str))], .row [.d (.int .i64 v22.fA), .d (.int .i64 v22.fB)]] (WOK.g0 hw0 (by simp)) ⟨[0, 1, 2], rfl, rfl, rfl, trivial, trivial, (.row rfl (.cons (.d rfl) (.cons (.d rfl) .nil)) (.row rfl (.cons (.d rfl) (.cons (.d rfl) (.cons (.d rfl) (.cons (.d rfl) (.cons (.d rfl) (.cons (.d rfl) (.cons (.d rfl) (.cons (.d rfl) .nil)))))))) (.row rfl (.cons (.d rfl) (.cons (.d rfl) .nil)) .nil)))⟩ (zr (za rfl (zn (AW.ret (bq_ret (tq_ret ?_))))))
         obtain rfl := Option.some.inj hm
         replace hm := hkj1
         try dsimp only at hm
         refine tq_ret ?_
         obtain rfl := Option.some.inj hm
         obtain rfl := Option.some.inj hI2
         replace hm := hk2
         try dsimp only at hm
         refine bq_ret (tq_ret ?_)
         obtain rfl := Option.some.inj hm
         exact EndQ.d (.tmp .r .nil) rfl rfl
        ·replace hm := iteF hc9 hm
         refine AW.skip (bq_n ?_)
         obtain rfl := Option.some.inj hm
         exact nq ⟨_, rfl, ⟨[0, 1], rfl, rfl, rfl, ⟨.fn0, (.ptr rfl), (.d rfl), (.d rfl), (.d rfl), (.d rfl), (.d rfl), (.d rfl), trivial⟩, trivial, (.row rfl (.cons (.d rfl) (.cons (.d rfl) .nil)) (.row rfl (.cons (.d rfl) (.cons (.d rfl) (.cons (.d rfl) (.cons (.d rfl) (.cons (.d rfl) (.cons (.d rfl) (.cons (.d rfl) (.cons (.d rfl) .nil)))))))) .nil))⟩⟩
      ·rintro s26 rfl
       replace hm := hkj1
       try dsimp only at hm
       refine AW.region (zs (op_addw (.r rfl) (.r rfl)) (zm rfl (zn ?_)))
       obtain rfl := Option.some.inj hm
       exact nq ⟨_, hI2, ⟨[0, 1], rfl, rfl, rfl, ⟨.fn0, (.ptr rfl), (.d rfl), (.d rfl), (.d rfl), (.d rfl), (.d rfl), (.d rfl), trivial⟩, trivial, (.row rfl (.cons (.d rfl) (.cons (.d rfl) .nil)) (.row rfl (.cons (.d rfl) (.cons (.d rfl) (.cons (.d rfl) (.cons (.d rfl) (.cons (.d rfl) (.cons (.d rfl) (.cons (.d rfl) (.cons (.d rfl) .nil)))))))) .nil))⟩⟩
     ·replace hm := iteF hc6 hm
      refine AW.exit (tq_exit (tq_exit ?_))
      obtain rfl := Option.some.inj hm
      obtain rfl := Option.some.inj hI2
      replace hm := hk2
      try dsimp only at hm
      refine bq_hit (nq (zr (zm rfl (zm rfl (zs (op_lenM (f := D.i) (.r rfl) sl38) (zs (op_eql (.r rfl) (.r rfl)) (za rfl (zn (AW.ret ?_)))))))))
      obtain rfl := Option.some.inj hm
      exact EndQ.d (.tmp .r .nil) rfl rfl
end Go.Proofs.YtkdefjliknpliaaGreatDoor.Ab
