/- The functions do what they are in plain Lean. Conditions: none. -/
import Derived.Test.YtkdefjliknpliaaGreatDoorTy
import Derived.Test.YtkdefjliknpliaaGreatDoorMi
import Derived.Test.YtkdefjliknpliaaGreatDoorFe
set_option maxRecDepth 100000
set_option maxHeartbeats 20000000
namespace Go.Proofs.YtkdefjliknpliaaGreatDoor.Ab
open Go
attribute [local irreducible] AL AD AW nlO nlV nlD

theorem m_law30_BlockMeaning_ok {n : Nat} {a1 : (List SFeatures)} {a2 : Int} {r : Bool} (hm : m_law30_BlockMeaning n a1 a2 = some r) : Fn Tryz.prog 6 [(.sl (a1.map SFeatures.e)), (.int .u8 a2)] (.bool r) := by
 unfold m_law30_BlockMeaning at hm
 refine Fn.of_AW (fnn := Tryz.f6) Tryz.func6 rfl (Nat.le_of_ble_eq_true rfl) (fun g0 w0 hw0 => ?_)
 refine AW.reset 0 [(0, .d (.sl (a1.map SFeatures.e))), (1, .d (.int .u8 a2))] [] (WOK.g0 hw0 (by simp)) ⟨[], rfl, rfl, rfl, ⟨(.d rfl), (.d rfl), trivial⟩, trivial, .nil⟩ (zr (zs (op_box (n := 0) .r rfl rfl rfl) (za rfl (zn (AW.seq (zr ?_))))))
 obtain ⟨v3, hv3, hm⟩ := bindE hm
 refine zs (op_fn Tryz.call9 .r .nil (m_law30_awake_ok hv3)) (zs (op_not (.r rfl)) (zm rfl (AL.sF rfl rfl rfl rfl (fun g => op_load_ptr1 .r rfl rfl sc22) ?_)))
 obtain ⟨v4, hv4, hm⟩ := bindE hm
 refine AL.sF rfl rfl rfl rfl (fun g => op_fn Tryz.call29 .r (.cons (.we (nt g) rfl rfl) .nil) (m_law30_good_ok (iteT (nt g) hv4))) (AL.sF rfl rfl rfl rfl (fun g => op_not (.we (nt g) rfl rfl)) (zs (op_or (.r rfl) rfl (fun h => (.we (nt h) rfl rfl))) (zn ?_)))
 refine AW.cond (b := _) rfl (fun hc1 => ?_) (fun hc1 => ?_)
 ·replace hm := iteT hc1 hm
  refine zr ?_
  obtain ⟨v5, hv5, hm⟩ := bindE hm
  refine zs (op_fn Tryz.call9 .r .nil (m_law30_awake_ok hv5)) (za rfl (zn (AW.ret (tq_ret ?_))))
  obtain rfl := Option.some.inj hm
  exact EndQ.d (.tmp .r .nil) rfl rfl
 ·replace hm := iteF hc1 hm
  refine AW.skip (nq (zr (zs (op_load_ptr1 .r rfl rfl sc22) ?_)))
  obtain ⟨v6, hv6, hm⟩ := bindE hm
  refine zs (op_fn Tryz.call30 .r (.cons (.r rfl) .nil) (m_law30_table_ok hv6)) (zm rfl (zs (op_extractD .r rfl) (zs (op_extractD .r rfl) (za rfl (za rfl (zn (zr (zm rfl (zs (op_conv_int (.r rfl) ⟨_, Tryz.underlying5⟩ Tryz.underlying3) ?_)))))))))
  obtain ⟨v7, hv7, hm⟩ := bindE hm
  refine zs (op_remM (.r rfl) (.r rfl) hv7) (zs (op_addw (.r rfl) (.r rfl)) (za rfl (zn (zr (zm rfl (zm rfl ?_))))))
  obtain ⟨v8, hv8, hm⟩ := bindE hm
  refine zs (op_fn Tryz.call32 .r (.cons (.r rfl) (.cons (.r rfl) .nil)) (m_block_Pairs_ok hv8)) (zm rfl (zs (op_extractD .r rfl) (zs (op_extractD .r rfl) (za rfl (za rfl (zn (AW.seq (zr (zm rfl (zs (op_not (.r rfl)) (zm rfl (AL.sF rfl rfl rfl rfl (fun g => op_moveD .r) (AL.sF rfl rfl rfl rfl (fun g => op_neq (.we (nt g) rfl rfl) (.r rfl)) (zs (op_or (.r rfl) rfl (fun h => (.we (nt h) rfl rfl))) (zn ?_)))))))))))))))
  refine AW.cond (b := _) rfl (fun hc2 => ?_) (fun hc2 => ?_)
  ·replace hm := iteT hc2 hm
   refine zr (za rfl (zn (AW.ret (tq_ret ?_))))
   obtain rfl := Option.some.inj hm
   exact EndQ.d (.tmp .r .nil) rfl rfl
  ·replace hm := iteF hc2 hm
   refine AW.skip (nq (zr (zs (op_makeFunc (.cons .r .nil)) (zs (op_assignF .r) (zn (zr (za rfl (zn (AW.seq (zr (zs (op_load_ptr1 .r rfl rfl sc22) (zs (op_lenM (f := SFeatures.e) (.r rfl) sl22) (zm rfl (zn (AW.block ?_)))))))))))))))
   obtain ⟨t_1, hI1, hk1⟩ := bindE hm
   refine AW.loopS (σ := (Int × Int)) (τ := (Bool ⊕ Int)) 0 (fun x => [(2, .ptr 0 0), (7, .d (.int .i64 (IntKind.i64.wrap ((2 : Int) + v7)))), (8, .d (.sl (v8.1.map SPair.e))), (10, .fn (.func 33) [.ptr 0 0]), (11, .d (.int .i64 x.1)), (54, .d (.sl (a1.map SFeatures.e))), (55, .d (.int .i64 (a1.length : Int))), (56, .d (.int .i64 x.2))]) (fun x => [.row [.d (.sl (a1.map SFeatures.e))]]) hI1 (WOK.g0 hw0 (by simp)) ⟨[0], rfl, rfl, rfl, ⟨(.ptr rfl), (.d rfl), (.d rfl), (.fn1 (.ptr rfl)), (.d rfl), (.d rfl), (.d rfl), (.d rfl), trivial⟩, trivial, (.row rfl (.cons (.d rfl) .nil) .nil)⟩ ?_
   rintro n1 ⟨s9, s10⟩ hI1
   obtain ⟨y_1, hm, hI1⟩ := iterS hI1
   replace hm : m_law30_BlockMeaning_L1 n _ _ _ s9 s10 = some y_1 := hm
   unfold m_law30_BlockMeaning_L1 at hm
   try dsimp only at hm
   refine zr (zs (op_lss (.r rfl) (.r rfl)) (zn (AW.seq ?_)))
   refine AW.cond (b := _) rfl (fun hc3 => ?_) (fun hc3 => ?_)
   ·replace hm := iteT hc3 hm
    refine AW.skip (nq (AW.seq (AW.block (zr ?_))))
    obtain ⟨v11, hv11, hm⟩ := bindE hm
    refine zs (op_indexAddrM (f := SFeatures.e) (.r rfl) (.r rfl) hv11 enSFeatures sl22) (zs (op_loadA .r rfl ag40) (zs (op_alloc (n := 1) zr40 rfl) (zs (op_store .r .r rfl rfl rfl ⟨_, rfl, rfl⟩ rfl (Nat.le_of_ble_eq_true rfl)) (zn (zr (zs (op_load_ptr1 .r rfl rfl sc22) (zs (op_lenM (f := SFeatures.e) (.r rfl) sl22) (zm rfl (zn (AW.block ?_))))))))))
    obtain ⟨t_2, hI2, hk2⟩ := bindE hm
    refine AW.loopS (σ := (Int × Int)) (τ := (Bool ⊕ Int)) 0 (fun x => [(2, .ptr 0 0), (7, .d (.int .i64 (IntKind.i64.wrap ((2 : Int) + v7)))), (8, .d (.sl (v8.1.map SPair.e))), (10, .fn (.func 33) [.ptr 0 0]), (11, .d (.int .i64 x.1)), (13, .ptr 1 0), (54, .d (.sl (a1.map SFeatures.e))), (55, .d (.int .i64 (a1.length : Int))), (56, .d (.int .i64 s10)), (60, .d (.sl (a1.map SFeatures.e))), (61, .d (.int .i64 (a1.length : Int))), (62, .d (.int .i64 x.2))]) (fun x => [.row [.d (.sl (a1.map SFeatures.e))], .row [.d (.int .i64 v11.fID), .d (.sl (v11.fTitle.map D.str)), .d (.str v11.fAuthor), .d (.sl (v11.fYears.map D.i)), .d (.sl (v11.fIsbns.map D.str)), .d (.sl (v11.fLangs.map D.str)), .d (.sl (v11.fPublisher.map D.str)), .d (.sl (v11.fEdition.map D.str))]]) hI2 (WOK.g0 hw0 (by simp)) ⟨[0, 1], rfl, rfl, rfl, ⟨(.ptr rfl), (.d rfl), (.d rfl), (.fn1 (.ptr rfl)), (.d rfl), (.ptr rfl), (.d rfl), (.d rfl), (.d rfl), (.d rfl), (.d rfl), (.d rfl), trivial⟩, trivial, (.row rfl (.cons (.d rfl) .nil) (.row rfl (.cons (.d rfl) (.cons (.d rfl) (.cons (.d rfl) (.cons (.d rfl) (.cons (.d rfl) (.cons (.d rfl) (.cons (.d rfl) (.cons (.d rfl) .nil)))))))) .nil))⟩ ?_
    rintro n2 ⟨s12, s13⟩ hI2
    obtain ⟨y_2, hm, hI2⟩ := iterS hI2
    replace hm : m_law30_BlockMeaning_L2 n _ _ _ _ s12 s13 = some y_2 := hm
    unfold m_law30_BlockMeaning_L2 at hm
    try dsimp only at hm
    refine zr (zs (op_lss (.r rfl) (.r rfl)) (zn (AW.seq ?_)))
    refine AW.cond (b := _) rfl (fun hc4 => ?_) (fun hc4 => ?_)
    ·replace hm := iteT hc4 hm
     refine AW.skip (nq ?_)
     obtain ⟨t_j1, hm, hkj1⟩ := bindE hm
     refine AW.cutS (α := Int) 0 (fun x => (.inl x) = t_j1) (fun x => [(2, .ptr 0 0), (7, .d (.int .i64 (IntKind.i64.wrap ((2 : Int) + v7)))), (8, .d (.sl (v8.1.map SPair.e))), (10, .fn (.func 33) [.ptr 0 0]), (11, .d (.int .i64 x)), (13, .ptr 1 0), (54, .d (.sl (a1.map SFeatures.e))), (55, .d (.int .i64 (a1.length : Int))), (56, .d (.int .i64 s10)), (60, .d (.sl (a1.map SFeatures.e))), (61, .d (.int .i64 (a1.length : Int))), (62, .d (.int .i64 s13))]) (fun x => [.row [.d (.sl (a1.map SFeatures.e))], .row [.d (.int .i64 v11.fID), .d (.sl (v11.fTitle.map D.str)), .d (.str v11.fAuthor), .d (.sl (v11.fYears.map D.i)), .d (.sl (v11.fIsbns.map D.str)), .d (.sl (v11.fLangs.map D.str)), .d (.sl (v11.fPublisher.map D.str)), .d (.sl (v11.fEdition.map D.str))]]) (WOK.g0 hw0 (by simp)) ?_ ?_
     ·skip
      refine AW.block (AW.reset 0 [(2, .ptr 0 0), (7, .d (.int .i64 (IntKind.i64.wrap ((2 : Int) + v7)))), (8, .d (.sl (v8.1.map SPair.e))), (10, .fn (.func 33) [.ptr 0 0]), (11, .d (.int .i64 s12)), (13, .ptr 1 0), (54, .d (.sl (a1.map SFeatures.e))), (55, .d (.int .i64 (a1.length : Int))), (56, .d (.int .i64 s10)), (60, .d (.sl (a1.map SFeatures.e))), (61, .d (.int .i64 (a1.length : Int))), (62, .d (.int .i64 s13))] [.row [.d (.sl (a1.map SFeatures.e))], .row [.d (.int .i64 v11.fID), .d (.sl (v11.fTitle.map D.str)), .d (.str v11.fAuthor), .d (.sl (v11.fYears.map D.i)), .d (.sl (v11.fIsbns.map D.str)), .d (.sl (v11.fLangs.map D.str)), .d (.sl (v11.fPublisher.map D.str)), .d (.sl (v11.fEdition.map D.str))]] (WOK.g0 hw0 (by simp)) ⟨[0, 1], rfl, rfl, rfl, ⟨(.ptr rfl), (.d rfl), (.d rfl), (.fn1 (.ptr rfl)), (.d rfl), (.ptr rfl), (.d rfl), (.d rfl), (.d rfl), (.d rfl), (.d rfl), (.d rfl), trivial⟩, trivial, (.row rfl (.cons (.d rfl) .nil) (.row rfl (.cons (.d rfl) (.cons (.d rfl) (.cons (.d rfl) (.cons (.d rfl) (.cons (.d rfl) (.cons (.d rfl) (.cons (.d rfl) (.cons (.d rfl) .nil)))))))) .nil))⟩ (zr ?_))
      obtain ⟨v14, hv14, hm⟩ := bindE hm
      refine zs (op_indexAddrM (f := SFeatures.e) (.r rfl) (.r rfl) hv14 enSFeatures sl22) (zs (op_loadA .r rfl ag40) (zs (op_alloc (n := 2) zr40 rfl) (zs (op_store .r .r rfl rfl rfl ⟨_, rfl, rfl⟩ rfl (Nat.le_of_ble_eq_true rfl)) (zn (AW.seq (zr (zs (op_field_ptr .r fd40_0) (zs (op_load_ptr1 .r rfl rfl sc3) (zs (op_field_ptr .r fd40_0) (zs (op_load_ptr1 .r rfl rfl sc3) (zs (op_geq (.r rfl) (.r rfl)) (zn ?_))))))))))))
      refine AW.cond (b := _) rfl (fun hc5 => ?_) (fun hc5 => ?_)
      ·replace hm := iteT hc5 hm
       refine AW.exit (tq_exit (bq_hit ?_))
       obtain rfl := Option.some.inj hm
       exact nq ⟨_, rfl, ⟨[0, 1], rfl, rfl, rfl, ⟨(.ptr rfl), (.d rfl), (.d rfl), (.fn1 (.ptr rfl)), (.d rfl), (.ptr rfl), (.d rfl), (.d rfl), (.d rfl), (.d rfl), (.d rfl), (.d rfl), trivial⟩, trivial, (.row rfl (.cons (.d rfl) .nil) (.row rfl (.cons (.d rfl) (.cons (.d rfl) (.cons (.d rfl) (.cons (.d rfl) (.cons (.d rfl) (.cons (.d rfl) (.cons (.d rfl) (.cons (.d rfl) .nil)))))))) .nil))⟩⟩
      ·replace hm := iteF hc5 hm
       refine AW.skip (nq (zr (za rfl (za rfl (zn (AW.seq (zr (zs (op_load_ptrA .r rfl rfl rfl ag40) ?_))))))))
       obtain ⟨v15, hv15, hm⟩ := bindE hm
       refine zs (op_fn Tryz.call19 .r (.cons (.r rfl) .nil) (m_ref30_Keys_ok hv15)) (zs (op_lenM (f := D.str) (.r rfl) sl37) (zm rfl (zn (AW.block ?_))))
       obtain ⟨t_3, hI3, hk3⟩ := bindE hm
       refine AW.loopS (σ := (Bool × Int)) (τ := Bool) 0 (fun x => [(2, .ptr 0 0), (7, .d (.int .i64 (IntKind.i64.wrap ((2 : Int) + v7)))), (8, .d (.sl (v8.1.map SPair.e))), (10, .fn (.func 33) [.ptr 0 0]), (11, .d (.int .i64 s12)), (13, .ptr 1 0), (15, .ptr 2 0), (16, .d (.bool x.1)), (17, .d (.bool false)), (54, .d (.sl (a1.map SFeatures.e))), (55, .d (.int .i64 (a1.length : Int))), (56, .d (.int .i64 s10)), (60, .d (.sl (a1.map SFeatures.e))), (61, .d (.int .i64 (a1.length : Int))), (62, .d (.int .i64 s13)), (72, .d (.sl (v15.map D.str))), (73, .d (.int .i64 (v15.length : Int))), (74, .d (.int .i64 x.2))]) (fun x => [.row [.d (.sl (a1.map SFeatures.e))], .row [.d (.int .i64 v11.fID), .d (.sl (v11.fTitle.map D.str)), .d (.str v11.fAuthor), .d (.sl (v11.fYears.map D.i)), .d (.sl (v11.fIsbns.map D.str)), .d (.sl (v11.fLangs.map D.str)), .d (.sl (v11.fPublisher.map D.str)), .d (.sl (v11.fEdition.map D.str))], .row [.d (.int .i64 v14.fID), .d (.sl (v14.fTitle.map D.str)), .d (.str v14.fAuthor), .d (.sl (v14.fYears.map D.i)), .d (.sl (v14.fIsbns.map D.str)), .d (.sl (v14.fLangs.map D.str)), .d (.sl (v14.fPublisher.map D.str)), .d (.sl (v14.fEdition.map D.str))]]) hI3 (WOK.g0 hw0 (by simp)) ⟨[0, 1, 2], rfl, rfl, rfl, ⟨(.ptr rfl), (.d rfl), (.d rfl), (.fn1 (.ptr rfl)), (.d rfl), (.ptr rfl), (.ptr rfl), (.d rfl), (.d rfl), (.d rfl), (.d rfl), (.d rfl), (.d rfl), (.d rfl), (.d rfl), (.d rfl), (.d rfl), (.d rfl), trivial⟩, trivial, (.row rfl (.cons (.d rfl) .nil) (.row rfl (.cons (.d rfl) (.cons (.d rfl) (.cons (.d rfl) (.cons (.d rfl) (.cons (.d rfl) (.cons (.d rfl) (.cons (.d rfl) (.cons (.d rfl) .nil)))))))) (.row rfl (.cons (.d rfl) (.cons (.d rfl) (.cons (.d rfl) (.cons (.d rfl) (.cons (.d rfl) (.cons (.d rfl) (.cons (.d rfl) (.cons (.d rfl) .nil)))))))) .nil)))⟩ ?_
       rintro n3 ⟨s16, s17⟩ hI3
       obtain ⟨y_3, hm, hI3⟩ := iterS hI3
       replace hm : m_law30_BlockMeaning_L3 n _ _ _ _ s16 s17 = some y_3 := hm
       unfold m_law30_BlockMeaning_L3 at hm
       try dsimp only at hm
       refine zr (zs (op_lss (.r rfl) (.r rfl)) (zn (AW.seq ?_)))
       refine AW.cond (b := _) rfl (fun hc6 => ?_) (fun hc6 => ?_)
       ·replace hm := iteT hc6 hm
        refine AW.skip (nq (AW.seq (AW.block (zr ?_))))
        obtain ⟨v18, hv18, hm⟩ := bindE hm
        refine zs (op_indexAddrM (f := D.str) (.r rfl) (.r rfl) hv18 En.str sl37) (zs (op_load_vp1 .r rfl sc9) (za rfl (zn (zr (zs (op_load_ptrA .r rfl rfl rfl ag40) ?_)))))
        obtain ⟨v19, hv19, hm⟩ := bindE hm
        refine zs (op_fn Tryz.call19 .r (.cons (.r rfl) .nil) (m_ref30_Keys_ok hv19)) (zs (op_lenM (f := D.str) (.r rfl) sl37) (zm rfl (zn (AW.block ?_))))
        obtain ⟨t_4, hI4, hk4⟩ := bindE hm
        refine AW.loopS (σ := (Bool × Int)) (τ := Bool) 0 (fun x => [(2, .ptr 0 0), (7, .d (.int .i64 (IntKind.i64.wrap ((2 : Int) + v7)))), (8, .d (.sl (v8.1.map SPair.e))), (10, .fn (.func 33) [.ptr 0 0]), (11, .d (.int .i64 s12)), (13, .ptr 1 0), (15, .ptr 2 0), (16, .d (.bool x.1)), (17, .d (.bool false)), (19, .d (.str v18)), (54, .d (.sl (a1.map SFeatures.e))), (55, .d (.int .i64 (a1.length : Int))), (56, .d (.int .i64 s10)), (60, .d (.sl (a1.map SFeatures.e))), (61, .d (.int .i64 (a1.length : Int))), (62, .d (.int .i64 s13)), (72, .d (.sl (v15.map D.str))), (73, .d (.int .i64 (v15.length : Int))), (74, .d (.int .i64 s17)), (79, .d (.sl (v19.map D.str))), (80, .d (.int .i64 (v19.length : Int))), (81, .d (.int .i64 x.2))]) (fun x => [.row [.d (.sl (a1.map SFeatures.e))], .row [.d (.int .i64 v11.fID), .d (.sl (v11.fTitle.map D.str)), .d (.str v11.fAuthor), .d (.sl (v11.fYears.map D.i)), .d (.sl (v11.fIsbns.map D.str)), .d (.sl (v11.fLangs.map D.str)), .d (.sl (v11.fPublisher.map D.str)), .d (.sl (v11.fEdition.map D.str))], .row [.d (.int .i64 v14.fID), .d (.sl (v14.fTitle.map D.str)), .d (.str v14.fAuthor), .d (.sl (v14.fYears.map D.i)), .d (.sl (v14.fIsbns.map D.str)), .d (.sl (v14.fLangs.map D.str)), .d (.sl (v14.fPublisher.map D.str)), .d (.sl (v14.fEdition.map D.str))]]) hI4 (WOK.g0 hw0 (by simp)) ⟨[0, 1, 2], rfl, rfl, rfl, ⟨(.ptr rfl), (.d rfl), (.d rfl), (.fn1 (.ptr rfl)), (.d rfl), (.ptr rfl), (.ptr rfl), (.d rfl), (.d rfl), (.d rfl), (.d rfl), (.d rfl), (.d rfl), (.d rfl), (.d rfl), (.d rfl), (.d rfl), (.d rfl), (.d rfl), (.d rfl), (.d rfl), (.d rfl), trivial⟩, trivial, (.row rfl (.cons (.d rfl) .nil) (.row rfl (.cons (.d rfl) (.cons (.d rfl) (.cons (.d rfl) (.cons (.d rfl) (.cons (.d rfl) (.cons (.d rfl) (.cons (.d rfl) (.cons (.d rfl) .nil)))))))) (.row rfl (.cons (.d rfl) (.cons (.d rfl) (.cons (.d rfl) (.cons (.d rfl) (.cons (.d rfl) (.cons (.d rfl) (.cons (.d rfl) (.cons (.d rfl) .nil)))))))) .nil)))⟩ ?_
        rintro n4 ⟨s20, s21⟩ hI4
        obtain ⟨y_4, hm, hI4⟩ := iterS hI4
        replace hm : m_law30_BlockMeaning_L4 n _ _ _ _ s20 s21 = some y_4 := hm
        unfold m_law30_BlockMeaning_L4 at hm
        try dsimp only at hm
        refine zr (zs (op_lss (.r rfl) (.r rfl)) (zn (AW.seq ?_)))
        refine AW.cond (b := _) rfl (fun hc7 => ?_) (fun hc7 => ?_)
        ·replace hm := iteT hc7 hm
         refine AW.skip (nq (AW.seq (AW.block (zr ?_))))
         obtain ⟨v22, hv22, hm⟩ := bindE hm
         refine zs (op_indexAddrM (f := D.str) (.r rfl) (.r rfl) hv22 En.str sl37) (zs (op_load_vp1 .r rfl sc9) (za rfl (zn (AW.region (zm rfl (zm rfl (AL.sF rfl rfl rfl rfl (fun g => op_moveD .r) (AL.sF rfl rfl rfl rfl (fun g => op_moveD .r) (AL.sF rfl rfl rfl rfl (fun g => op_eqlS (.we (nt g) rfl rfl) (.we (nt g) rfl rfl)) (AL.sF rfl rfl rfl rfl (fun g => op_moveD (.we (nt g) rfl)) (AL.sTT rfl rfl rfl rfl (fun gp g => op_moveF .r) (AL.sTT rfl rfl rfl rfl (fun gp g => op_moveD .r) ?_))))))))))))
         obtain ⟨v23, hv23, hm⟩ := bindE hm
         refine AL.sTT rfl rfl rfl rfl (fun gp g => op_call Tryz.call33 (.we (an gp g) rfl) (.cons (.we (an gp g) rfl) .nil) (FnR.at [0] (m_law30_BlockMeaning_1_ok (iteT (an gp g) hv23)) (.cons rfl rfl .nil) (.cons (.d _) (.cons (.ptr rfl) .nil)) rfl)) (AL.sTT rfl rfl rfl rfl (fun gp g => op_moveD .r) (AL.sTT rfl rfl rfl rfl (fun gp g => op_leq (.we (an gp g) rfl rfl) (.we (an gp g) rfl rfl)) (AL.sF rfl rfl rfl rfl (fun g => op_and (.we (nt g) rfl rfl) (fun h => (.we (an (nt g) h) rfl rfl)) rfl) (zs (op_or (.r rfl) rfl (fun h => (.we (nt h) rfl rfl))) (za rfl (zn (bq_n (nq (AW.region (zs (op_addw (.r rfl) (.r rfl)) (zm rfl (zn ?_))))))))))))
         obtain rfl := Option.some.inj hm
         exact nq ⟨_, hI4, ⟨[0, 1, 2], rfl, rfl, rfl, ⟨(.ptr rfl), (.d rfl), (.d rfl), (.fn1 (.ptr rfl)), (.d rfl), (.ptr rfl), (.ptr rfl), (.d rfl), (.d rfl), (.d rfl), (.d rfl), (.d rfl), (.d rfl), (.d rfl), (.d rfl), (.d rfl), (.d rfl), (.d rfl), (.d rfl), (.d rfl), (.d rfl), (.d rfl), trivial⟩, trivial, (.row rfl (.cons (.d rfl) .nil) (.row rfl (.cons (.d rfl) (.cons (.d rfl) (.cons (.d rfl) (.cons (.d rfl) (.cons (.d rfl) (.cons (.d rfl) (.cons (.d rfl) (.cons (.d rfl) .nil)))))))) (.row rfl (.cons (.d rfl) (.cons (.d rfl) (.cons (.d rfl) (.cons (.d rfl) (.cons (.d rfl) (.cons (.d rfl) (.cons (.d rfl) (.cons (.d rfl) .nil)))))))) .nil)))⟩⟩
        ·replace hm := iteF hc7 hm
         refine AW.exit (tq_exit (tq_exit ?_))
         obtain rfl := Option.some.inj hm
         obtain rfl := Option.some.inj hI4
         replace hm := hk4
         try dsimp only at hm
         refine bq_hit (bq_n (nq (AW.region (zs (op_addw (.r rfl) (.r rfl)) (zm rfl (zn ?_))))))
         obtain rfl := Option.some.inj hm
         exact nq ⟨_, hI3, ⟨[0, 1, 2], rfl, rfl, rfl, ⟨(.ptr rfl), (.d rfl), (.d rfl), (.fn1 (.ptr rfl)), (.d rfl), (.ptr rfl), (.ptr rfl), (.d rfl), (.d rfl), (.d rfl), (.d rfl), (.d rfl), (.d rfl), (.d rfl), (.d rfl), (.d rfl), (.d rfl), (.d rfl), trivial⟩, trivial, (.row rfl (.cons (.d rfl) .nil) (.row rfl (.cons (.d rfl) (.cons (.d rfl) (.cons (.d rfl) (.cons (.d rfl) (.cons (.d rfl) (.cons (.d rfl) (.cons (.d rfl) (.cons (.d rfl) .nil)))))))) (.row rfl (.cons (.d rfl) (.cons (.d rfl) (.cons (.d rfl) (.cons (.d rfl) (.cons (.d rfl) (.cons (.d rfl) (.cons (.d rfl) (.cons (.d rfl) .nil)))))))) .nil)))⟩⟩
       ·replace hm := iteF hc6 hm
        refine AW.exit (tq_exit (tq_exit ?_))
        obtain rfl := Option.some.inj hm
        obtain rfl := Option.some.inj hI3
        replace hm := hk3
        try dsimp only at hm
        refine bq_hit (nq (AW.seq (zr (zm rfl (zs (op_lenM (f := SPair.e) (.r rfl) sl59) (zm rfl (zn (AW.block ?_))))))))
        obtain ⟨t_5, hI5, hk5⟩ := bindE hm
        refine AW.loopS (σ := (Bool × Int)) (τ := Bool) 0 (fun x => [(2, .ptr 0 0), (7, .d (.int .i64 (IntKind.i64.wrap ((2 : Int) + v7)))), (8, .d (.sl (v8.1.map SPair.e))), (10, .fn (.func 33) [.ptr 0 0]), (11, .d (.int .i64 s12)), (13, .ptr 1 0), (15, .ptr 2 0), (16, .d (.bool s16)), (17, .d (.bool x.1)), (54, .d (.sl (a1.map SFeatures.e))), (55, .d (.int .i64 (a1.length : Int))), (56, .d (.int .i64 s10)), (60, .d (.sl (a1.map SFeatures.e))), (61, .d (.int .i64 (a1.length : Int))), (62, .d (.int .i64 s13)), (100, .d (.sl (v8.1.map SPair.e))), (101, .d (.int .i64 (v8.1.length : Int))), (102, .d (.int .i64 x.2))]) (fun x => [.row [.d (.sl (a1.map SFeatures.e))], .row [.d (.int .i64 v11.fID), .d (.sl (v11.fTitle.map D.str)), .d (.str v11.fAuthor), .d (.sl (v11.fYears.map D.i)), .d (.sl (v11.fIsbns.map D.str)), .d (.sl (v11.fLangs.map D.str)), .d (.sl (v11.fPublisher.map D.str)), .d (.sl (v11.fEdition.map D.str))], .row [.d (.int .i64 v14.fID), .d (.sl (v14.fTitle.map D.str)), .d (.str v14.fAuthor), .d (.sl (v14.fYears.map D.i)), .d (.sl (v14.fIsbns.map D.str)), .d (.sl (v14.fLangs.map D.str)), .d (.sl (v14.fPublisher.map D.str)), .d (.sl (v14.fEdition.map D.str))]]) hI5 (WOK.g0 hw0 (by simp)) ⟨[0, 1, 2], rfl, rfl, rfl, ⟨(.ptr rfl), (.d rfl), (.d rfl), (.fn1 (.ptr rfl)), (.d rfl), (.ptr rfl), (.ptr rfl), (.d rfl), (.d rfl), (.d rfl), (.d rfl), (.d rfl), (.d rfl), (.d rfl), (.d rfl), (.d rfl), (.d rfl), (.d rfl), trivial⟩, trivial, (.row rfl (.cons (.d rfl) .nil) (.row rfl (.cons (.d rfl) (.cons (.d rfl) (.cons (.d rfl) (.cons (.d rfl) (.cons (.d rfl) (.cons (.d rfl) (.cons (.d rfl) (.cons (.d rfl) .nil)))))))) (.row rfl (.cons (.d rfl) (.cons (.d rfl) (.cons (.d rfl) (.cons (.d rfl) (.cons (.d rfl) (.cons (.d rfl) (.cons (.d rfl) (.cons (.d rfl) .nil)))))))) .nil)))⟩ ?_
        rintro n5 ⟨s24, s25⟩ hI5
        obtain ⟨y_5, hm, hI5⟩ := iterS hI5
        replace hm : m_law30_BlockMeaning_L5 n _ _ _ s24 s25 = some y_5 := hm
        unfold m_law30_BlockMeaning_L5 at hm
        try dsimp only at hm
        refine zr (zs (op_lss (.r rfl) (.r rfl)) (zn (AW.seq ?_)))
        refine AW.cond (b := _) rfl (fun hc8 => ?_) (fun hc8 => ?_)
        ·replace hm := iteT hc8 hm
         refine AW.skip (nq (AW.seq (AW.block (zr ?_))))
         obtain ⟨v26, hv26, hm⟩ := bindE hm
         refine zs (op_indexAddrM (f := SPair.e) (.r rfl) (.r rfl) hv26 enSPair sl59) (zs (op_loadA .r rfl ag64) (zs (op_alloc (n := 3) zr64 rfl) (zs (op_store .r .r rfl rfl rfl ⟨_, rfl, rfl⟩ rfl (Nat.le_of_ble_eq_true rfl)) (zn (AW.region (zm rfl (zm rfl (AL.sF rfl rfl rfl rfl (fun g => op_field_ptr .r fd64_0) (AL.sF rfl rfl rfl rfl (fun g => op_load_ptr1 (.we (nt g) rfl) rfl rfl sc3) (AL.sF rfl rfl rfl rfl (fun g => op_field_ptr .r fd40_0) (AL.sF rfl rfl rfl rfl (fun g => op_load_ptr1 (.we (nt g) rfl) rfl rfl sc3) (AL.sF rfl rfl rfl rfl (fun g => op_eql (.we (nt g) rfl rfl) (.we (nt g) rfl rfl)) (AL.sF rfl rfl rfl rfl (fun g => op_moveD (.we (nt g) rfl)) (AL.sTT rfl rfl rfl rfl (fun gp g => op_field_ptr .r fd64_1) (AL.sTT rfl rfl rfl rfl (fun gp g => op_load_ptr1 (.we (an gp g) rfl) rfl rfl sc3) (AL.sTT rfl rfl rfl rfl (fun gp g => op_field_ptr .r fd40_0) (AL.sTT rfl rfl rfl rfl (fun gp g => op_load_ptr1 (.we (an gp g) rfl) rfl rfl sc3) (AL.sTT rfl rfl rfl rfl (fun gp g => op_eql (.we (an gp g) rfl rfl) (.we (an gp g) rfl rfl)) (AL.sF rfl rfl rfl rfl (fun g => op_and (.we (nt g) rfl rfl) (fun h => (.we (an (nt g) h) rfl rfl)) rfl) (zs (op_or (.r rfl) rfl (fun h => (.we (nt h) rfl rfl))) (za rfl (zn (bq_n (nq (AW.region (zs (op_addw (.r rfl) (.r rfl)) (zm rfl (zn ?_))))))))))))))))))))))))))))
         obtain rfl := Option.some.inj hm
         exact nq ⟨_, hI5, ⟨[0, 1, 2], rfl, rfl, rfl, ⟨(.ptr rfl), (.d rfl), (.d rfl), (.fn1 (.ptr rfl)), (.d rfl), (.ptr rfl), (.ptr rfl), (.d rfl), (.d rfl), (.d rfl), (.d rfl), (.d rfl), (.d rfl), (.d rfl), (.d rfl), (.d rfl), (.d rfl), (.d rfl), trivial⟩, trivial, (.row rfl (.cons (.d rfl) .nil) (.row rfl (.cons (.d rfl) (.cons (.d rfl) (.cons (.d rfl) (.cons (.d rfl) (.cons (.d rfl) (.cons (.d rfl) (.cons (.d rfl) (.cons (.d rfl) .nil)))))))) (.row rfl (.cons (.d rfl) (.cons (.d rfl) (.cons (.d rfl) (.cons (.d rfl) (.cons (.d rfl) (.cons (.d rfl) (.cons (.d rfl) (.cons (.d rfl) .nil)))))))) .nil)))⟩⟩
        ·replace hm := iteF hc8 hm
         refine AW.exit (tq_exit (tq_exit ?_))
         obtain rfl := Option.some.inj hm
         obtain rfl := Option.some.inj hI5
         replace hm := hk5
         try dsimp only at hm
         refine bq_hit (nq (AW.seq (zr (zm rfl (zm rfl (zs (op_neqB (.r rfl) (.r rfl) Tryz.underlying4) (zn ?_)))))))
         refine AW.cond (b := _) rfl (fun hc9 => ?_) (fun hc9 => ?_)
         ·replace hm := iteT hc9 hm
          refine zr (za rfl (zn (AW.ret (tq_ret (bq_ret (tq_ret ?_))))))
          obtain rfl := Option.some.inj hm
          replace hm := hkj1
          try dsimp only at hm
          refine tq_ret ?_
          obtain rfl := Option.some.inj hm
          obtain rfl := Option.some.inj hI2
          replace hm := hk2
          try dsimp only at hm
          refine bq_ret (bq_ret (tq_ret (tq_ret ?_)))
          obtain rfl := Option.some.inj hm
          obtain rfl := Option.some.inj hI1
          replace hm := hk1
          try dsimp only at hm
          refine bq_ret (tq_ret ?_)
          obtain rfl := Option.some.inj hm
          exact EndQ.d (.tmp .r .nil) rfl rfl
         ·replace hm := iteF hc9 hm
          refine AW.skip (nq (zr (zm rfl (zn ?_))))
          refine AW.cond (b := _) rfl (fun hc10 => ?_) (fun hc10 => ?_)
          ·replace hm := iteT hc10 hm
           refine AW.region (zm rfl (zs (op_addw (.r rfl) (.r rfl)) (za rfl (zn (bq_n ?_)))))
           obtain rfl := Option.some.inj hm
           exact nq ⟨_, rfl, ⟨[0, 1], rfl, rfl, rfl, ⟨(.ptr rfl), (.d rfl), (.d rfl), (.fn1 (.ptr rfl)), (.d rfl), (.ptr rfl), (.d rfl), (.d rfl), (.d rfl), (.d rfl), (.d rfl), (.d rfl), trivial⟩, trivial, (.row rfl (.cons (.d rfl) .nil) (.row rfl (.cons (.d rfl) (.cons (.d rfl) (.cons (.d rfl) (.cons (.d rfl) (.cons (.d rfl) (.cons (.d rfl) (.cons (.d rfl) (.cons (.d rfl) .nil)))))))) .nil))⟩⟩
          ·replace hm := iteF hc10 hm
           refine AW.skip (bq_n ?_)
           obtain rfl := Option.some.inj hm
           exact nq ⟨_, rfl, ⟨[0, 1], rfl, rfl, rfl, ⟨(.ptr rfl), (.d rfl), (.d rfl), (.fn1 (.ptr rfl)), (.d rfl), (.ptr rfl), (.d rfl), (.d rfl), (.d rfl), (.d rfl), (.d rfl), (.d rfl), trivial⟩, trivial, (.row rfl (.cons (.d rfl) .nil) (.row rfl (.cons (.d rfl) (.cons (.d rfl) (.cons (.d rfl) (.cons (.d rfl) (.cons (.d rfl) (.cons (.d rfl) (.cons (.d rfl) (.cons (.d rfl) .nil)))))))) .nil))⟩⟩
     ·rintro s27 rfl
      replace hm := hkj1
      try dsimp only at hm
      refine AW.region (zs (op_addw (.r rfl) (.r rfl)) (zm rfl (zn ?_)))
      obtain rfl := Option.some.inj hm
      exact nq ⟨_, hI2, ⟨[0, 1], rfl, rfl, rfl, ⟨(.ptr rfl), (.d rfl), (.d rfl), (.fn1 (.ptr rfl)), (.d rfl), (.ptr rfl), (.d rfl), (.d rfl), (.d rfl), (.d rfl), (.d rfl), (.d rfl), trivial⟩, trivial, (.row rfl (.cons (.d rfl) .nil) (.row rfl (.cons (.d rfl) (.cons (.d rfl) (.cons (.d rfl) (.cons (.d rfl) (.cons (.d rfl) (.cons (.d rfl) (.cons (.d rfl) (.cons (.d rfl) .nil)))))))) .nil))⟩⟩
    ·replace hm := iteF hc4 hm
     refine AW.exit (tq_exit (tq_exit ?_))
     obtain rfl := Option.some.inj hm
     obtain rfl := Option.some.inj hI2
     replace hm := hk2
     try dsimp only at hm
     refine bq_hit (bq_n (nq (AW.region (zs (op_addw (.r rfl) (.r rfl)) (zm rfl (zn ?_))))))
     obtain rfl := Option.some.inj hm
     exact nq ⟨_, hI1, ⟨[0], rfl, rfl, rfl, ⟨(.ptr rfl), (.d rfl), (.d rfl), (.fn1 (.ptr rfl)), (.d rfl), (.d rfl), (.d rfl), (.d rfl), trivial⟩, trivial, (.row rfl (.cons (.d rfl) .nil) .nil)⟩⟩
   ·replace hm := iteF hc3 hm
    refine AW.exit (tq_exit (tq_exit ?_))
    obtain rfl := Option.some.inj hm
    obtain rfl := Option.some.inj hI1
    replace hm := hk1
    try dsimp only at hm
    refine bq_hit (nq (zr (zm rfl (zm rfl (zs (op_lenM (f := SPair.e) (.r rfl) sl59) (zs (op_eql (.r rfl) (.r rfl)) (za rfl (zn (AW.ret ?_)))))))))
    obtain rfl := Option.some.inj hm
    exact EndQ.d (.tmp .r .nil) rfl rfl

end Go.Proofs.YtkdefjliknpliaaGreatDoor.Ab
