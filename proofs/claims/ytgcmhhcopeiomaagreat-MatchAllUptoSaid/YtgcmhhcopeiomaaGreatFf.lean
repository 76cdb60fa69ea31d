/- The functions do what they are in plain Lean. Conditions: none. -/
import Derived.Test.YtgcmhhcopeiomaaGreatTy
import Derived.Test.YtgcmhhcopeiomaaGreatMi
import Derived.Test.YtgcmhhcopeiomaaGreatFe
set_option maxRecDepth 100000
set_option maxHeartbeats 20000000
namespace Go.Proofs.YtgcmhhcopeiomaaGreat.Ab
open Go
attribute [local irreducible] AL AD AW

theorem m_match_All_1_ok {n : Nat} {a1 : SFeatures} {r : Bool} (hm : m_match_All_1 n a1 = some r) : Fn Tryz.prog 30 [(SFeatures.e a1)] (.bool r) := by
 unfold m_match_All_1 at hm
 refine Fn.of_AW (fnn := Tryz.f30) Tryz.func30 rfl (Nat.le_of_ble_eq_true rfl) (fun g0 w0 hw0 => ?_)
 refine zr (zs (op_box (n := 0) .r rfl rfl rfl) (za rfl (zn (zr (zs (op_load_ptrA .r rfl rfl rfl ag33) ?_)))))
 obtain ⟨v2, hv2, hm⟩ := bindE hm
 refine zs (op_fn Tryz.call18 .r (.cons (.r rfl) .nil) (m_feature_Valid_ok hv2)) (zs (op_not (.r rfl)) (za rfl (zn (AW.ret ?_))))
 obtain rfl := Option.some.inj hm
 exact EndQ.d (.tmp .r .nil) rfl rfl

theorem m_match_All_ok {n : Nat} {a1 : A72} {a2 : (List SFeatures)} {a3 : (List SPair)} {r : ((List SWeighted) × Int)} (hm : m_match_All n a1 a2 a3 = some r) : Fn Tryz.prog 10 [(A72.e a1), (.sl (a2.map SFeatures.e)), (.sl (a3.map SPair.e))] (.tup [(.sl (r.1.map SWeighted.e)), (.int .i64 r.2)]) := by
 unfold m_match_All at hm
 refine Fn.of_AW (fnn := Tryz.f10) Tryz.func10 rfl (Nat.le_of_ble_eq_true rfl) (fun g0 w0 hw0 => ?_)
 refine AW.reset 0 [(0, .d (A72.e a1)), (1, .d (.sl (a2.map SFeatures.e))), (2, .d (.sl (a3.map SPair.e)))] [] (WOK.g0 hw0 (by simp)) ⟨[], rfl, rfl, rfl, ⟨(.d rfl), (.d rfl), (.d rfl), trivial⟩, trivial, .nil⟩ (zr (zs (op_box (n := 0) .r rfl rfl rfl) (zs (op_assignN .r) (za rfl (zn (AW.seq (zr (zs (op_load_ptrA .r rfl rfl rfl ag52) ?_))))))))
 obtain ⟨v4, hv4, hm⟩ := bindE hm
 refine zs (op_fn Tryz.call16 .r (.cons (.r rfl) .nil) (m_match_Valid_ok hv4)) (zs (op_not (.r rfl)) (zm rfl (AL.sF rfl rfl rfl rfl (fun g => op_moveD .r) ?_)))
 obtain ⟨v5, hv5, hm⟩ := bindE hm
 refine AL.sF rfl rfl rfl rfl (fun g => op_call Tryz.call29 .r (.cons (.we (nt g) rfl) (.cons .r .nil)) (m_slices_ContainsFunc_feature_Features_feature_Features_ok Tryz.call30 (fun _ _ hb => (m_match_All_1_ok hb).at _) (iteT (nt g) hv5))) (zs (op_or (.r rfl) rfl (fun h => (.we (nt h) rfl rfl))) (zn ?_))
 refine AW.cond (b := _) rfl (fun hc1 => ?_) (fun hc1 => ?_)
 ·replace hm := iteT hc1 hm
  refine zr (zs (op_assignN .r) (za rfl (zn (AW.ret (tq_ret ?_)))))
  obtain rfl := Option.some.inj hm
  exact EndQ.d (.tmp .r (.tmp .r .nil)) rfl rfl
 ·replace hm := iteF hc1 hm
  refine AW.skip (nq (zr (zs (op_makeMap (n := 1) rfl) (zs (op_assignM .r) (zn (AW.seq (zr (zm rfl (zs (op_lenM (f := SFeatures.e) (.r rfl) sl54) (zm rfl (zn (AW.block ?_))))))))))))
  obtain ⟨t_1, hI1, hk1⟩ := bindE hm
  refine AW.loopS (σ := (Int × (List (Int × Int)))) (τ := (((List SWeighted) × Int) ⊕ (List (Int × Int)))) 0 (fun x => [(1, .d (.sl (a2.map SFeatures.e))), (2, .d (.sl (a3.map SPair.e))), (3, .ptr 0 0), (8, .mp 1), (36, .d (.sl (a2.map SFeatures.e))), (37, .d (.int .i64 (a2.length : Int))), (38, .d (.int .i64 x.1))]) (fun x => [.row ((A72.e a1).cells.map .d), .ob (mpO (x.2.map (fun q => ((.int .i64 q.1), (.int .i64 q.2)))))]) hI1 (WOK.g0 hw0 (by simp)) ⟨[0, 1], rfl, rfl, rfl, ⟨(.d rfl), (.d rfl), (.ptr rfl), (.mp rfl), (.d rfl), (.d rfl), (.d rfl), trivial⟩, trivial, (.row rfl (cd (A72.e a1).cells) (.ob rfl obR_mp .nil))⟩ ?_
  rintro n1 ⟨s6, s7⟩ hI1
  obtain ⟨y_1, hm, hI1⟩ := iterS hI1
  replace hm : m_match_All_L1 n _ s6 s7 = some y_1 := hm
  unfold m_match_All_L1 at hm
  try dsimp only at hm
  refine zr (zs (op_lss (.r rfl) (.r rfl)) (zn (AW.seq ?_)))
  refine AW.cond (b := _) rfl (fun hc2 => ?_) (fun hc2 => ?_)
  ·replace hm := iteT hc2 hm
   refine AW.skip (nq (AW.seq (AW.block (zr (zm rfl ?_)))))
   obtain ⟨v8, hv8, hm⟩ := bindE hm
   refine zs (op_indexAddrM (f := SFeatures.e) (.r rfl) (.r rfl) hv8 enSFeatures sl54) (zs (op_loadA .r rfl ag33) (zs (op_alloc (n := 2) zr33 rfl) (za rfl (zs (op_store .r .r rfl rfl rfl ⟨_, rfl, rfl⟩ rfl (Nat.le_of_ble_eq_true rfl)) (zn (AW.seq (zr (zs (op_moveM .r) (zs (op_field_ptr .r fd33_0) (zs (op_load_ptr1 .r rfl rfl sc3) (zs (op_lookupOk (m := s7) (k := v8.fID) (z := ((0 : Int) : Int)) (fv := D.i) (keyInt Tryz.underlying3) Tryz.underlying77 .r (.r rfl) rfl ⟨_, rfl, rfl⟩ (fun _ _ => .int _ _)) (zs (op_moveU .r) (zs (op_extractV .r rfl) (zs (op_extractV .r rfl) (za rfl (za rfl (zn (zr (zm rfl (zn ?_))))))))))))))))))))
   refine AW.cond (b := _) rfl (fun hc3 => ?_) (fun hc3 => ?_)
   ·replace hm := iteT hc3 hm
    refine zr (zs (op_assignN .r) (za rfl (zn (AW.ret (tq_ret (bq_ret (tq_ret (tq_ret ?_))))))))
    obtain rfl := Option.some.inj hm
    obtain rfl := Option.some.inj hI1
    replace hm := hk1
    try dsimp only at hm
    refine bq_ret (tq_ret ?_)
    obtain rfl := Option.some.inj hm
    exact EndQ.d (.tmp .r (.tmp .r .nil)) rfl rfl
   ·replace hm := iteF hc3 hm
    refine AW.skip (nq (AW.region (zs (op_moveM .r) (zs (op_field_ptr .r fd33_0) (zs (op_load_ptr1 .r rfl rfl sc3) (zm rfl ?_))))))
    obtain ⟨v9, hv9, hm⟩ := bindE hm
    refine zs (op_mapUpdateM (m := s7) (k := v8.fID) (v := s6) (fv := D.i) (keyInt Tryz.underlying3) Tryz.underlying77 .r (.r rfl) (.r rfl) rfl hv9) (zn (bq_n (nq (AW.region (zs (op_addw (.r rfl) (.r rfl)) (zm rfl (zn ?_)))))))
    obtain rfl := Option.some.inj hm
    exact nq ⟨_, hI1, ⟨[0, 1], rfl, rfl, rfl, ⟨(.d rfl), (.d rfl), (.ptr rfl), (.mp rfl), (.d rfl), (.d rfl), (.d rfl), trivial⟩, trivial, (.row rfl (cd (A72.e a1).cells) (.ob rfl obR_mp .nil))⟩⟩
  ·replace hm := iteF hc2 hm
   refine AW.exit (tq_exit (tq_exit ?_))
   obtain rfl := Option.some.inj hm
   obtain rfl := Option.some.inj hI1
   replace hm := hk1
   try dsimp only at hm
   refine bq_hit (nq (AW.seq (zr (zm rfl (zs (op_lenM (f := SPair.e) (.r rfl) sl45) (zm rfl (zn (AW.block ?_))))))))
   obtain ⟨t_2, hI2, hk2⟩ := bindE hm
   refine AW.loopS (σ := Int) (τ := (((List SWeighted) × Int) ⊕ Unit)) 0 (fun x => [(1, .d (.sl (a2.map SFeatures.e))), (2, .d (.sl (a3.map SPair.e))), (3, .ptr 0 0), (8, .mp 1), (56, .d (.sl (a3.map SPair.e))), (57, .d (.int .i64 (a3.length : Int))), (58, .d (.int .i64 x))]) (fun x => [.row ((A72.e a1).cells.map .d), .ob (mpO (s7.map (fun q => ((.int .i64 q.1), (.int .i64 q.2)))))]) hI2 (WOK.g0 hw0 (by simp)) ⟨[0, 1], rfl, rfl, rfl, ⟨(.d rfl), (.d rfl), (.ptr rfl), (.mp rfl), (.d rfl), (.d rfl), (.d rfl), trivial⟩, trivial, (.row rfl (cd (A72.e a1).cells) (.ob rfl obR_mp .nil))⟩ ?_
   rintro n2 s10 hI2
   obtain ⟨y_2, hm, hI2⟩ := iterS hI2
   replace hm : m_match_All_L2 n _ _ s10 = some y_2 := hm
   unfold m_match_All_L2 at hm
   try dsimp only at hm
   refine zr (zs (op_lss (.r rfl) (.r rfl)) (zn (AW.seq ?_)))
   refine AW.cond (b := _) rfl (fun hc4 => ?_) (fun hc4 => ?_)
   ·replace hm := iteT hc4 hm
    refine AW.skip (nq (AW.seq (AW.block (zr ?_))))
    obtain ⟨v11, hv11, hm⟩ := bindE hm
    refine zs (op_indexAddrM (f := SPair.e) (.r rfl) (.r rfl) hv11 enSPair sl45) (zs (op_loadA .r rfl ag60) (zs (op_alloc (n := 2) zr60 rfl) (zs (op_store .r .r rfl rfl rfl ⟨_, rfl, rfl⟩ rfl (Nat.le_of_ble_eq_true rfl)) (zn (zr (zs (op_moveM .r) (zs (op_field_ptr .r fd60_0) (zs (op_load_ptr1 .r rfl rfl sc3) (zs (op_lookupOk (m := s7) (k := v11.fA) (z := ((0 : Int) : Int)) (fv := D.i) (keyInt Tryz.underlying3) Tryz.underlying77 .r (.r rfl) rfl ⟨_, rfl, rfl⟩ (fun _ _ => .int _ _)) (zs (op_moveU .r) (zs (op_extractV .r rfl) (zs (op_extractV .r rfl) (za rfl (za rfl (zn (zr (zs (op_moveM .r) (zs (op_field_ptr .r fd60_1) (zs (op_load_ptr1 .r rfl rfl sc3) (zs (op_lookupOk (m := s7) (k := v11.fB) (z := ((0 : Int) : Int)) (fv := D.i) (keyInt Tryz.underlying3) Tryz.underlying77 .r (.r rfl) rfl ⟨_, rfl, rfl⟩ (fun _ _ => .int _ _)) (zs (op_moveU .r) (zs (op_extractV .r rfl) (zs (op_extractV .r rfl) (za rfl (za rfl (zn (zr (zm rfl (zs (op_not (.r rfl)) (zm rfl (AL.sF rfl rfl rfl rfl (fun g => op_moveD .r) (AL.sF rfl rfl rfl rfl (fun g => op_not (.we (nt g) rfl rfl)) (zs (op_or (.r rfl) rfl (fun h => (.we (nt h) rfl rfl))) (zn ?_))))))))))))))))))))))))))))))))))
    refine AW.cond (b := _) rfl (fun hc5 => ?_) (fun hc5 => ?_)
    ·replace hm := iteT hc5 hm
     refine zr (zs (op_assignN .r) (za rfl (zn (AW.ret (bq_ret (tq_ret (tq_ret ?_)))))))
     obtain rfl := Option.some.inj hm
     obtain rfl := Option.some.inj hI2
     replace hm := hk2
     try dsimp only at hm
     refine bq_ret (tq_ret ?_)
     obtain rfl := Option.some.inj hm
     exact EndQ.d (.tmp .r (.tmp .r .nil)) rfl rfl
    ·replace hm := iteF hc5 hm
     refine AW.skip (bq_n (nq (AW.region (zs (op_addw (.r rfl) (.r rfl)) (zm rfl (zn ?_))))))
     obtain rfl := Option.some.inj hm
     exact nq ⟨_, hI2, ⟨[0, 1], rfl, rfl, rfl, ⟨(.d rfl), (.d rfl), (.ptr rfl), (.mp rfl), (.d rfl), (.d rfl), (.d rfl), trivial⟩, trivial, (.row rfl (cd (A72.e a1).cells) (.ob rfl obR_mp .nil))⟩⟩
   ·replace hm := iteF hc4 hm
    refine AW.exit (tq_exit (tq_exit ?_))
    obtain rfl := Option.some.inj hm
    obtain rfl := Option.some.inj hI2
    replace hm := hk2
    try dsimp only at hm
    refine bq_hit (nq (AW.seq (zr (zm rfl (zs (op_lenM (f := SPair.e) (.r rfl) sl45) (zm rfl (zn (AW.block ?_))))))))
    obtain ⟨t_3, hI3, hk3⟩ := bindE hm
    refine AW.loopS (σ := Int) (τ := (((List SWeighted) × Int) ⊕ Unit)) 0 (fun x => [(1, .d (.sl (a2.map SFeatures.e))), (2, .d (.sl (a3.map SPair.e))), (3, .ptr 0 0), (8, .mp 1), (83, .d (.sl (a3.map SPair.e))), (84, .d (.int .i64 (a3.length : Int))), (85, .d (.int .i64 x))]) (fun x => [.row ((A72.e a1).cells.map .d), .ob (mpO (s7.map (fun q => ((.int .i64 q.1), (.int .i64 q.2)))))]) hI3 (WOK.g0 hw0 (by simp)) ⟨[0, 1], rfl, rfl, rfl, ⟨(.d rfl), (.d rfl), (.ptr rfl), (.mp rfl), (.d rfl), (.d rfl), (.d rfl), trivial⟩, trivial, (.row rfl (cd (A72.e a1).cells) (.ob rfl obR_mp .nil))⟩ ?_
    rintro n3 s12 hI3
    obtain ⟨y_3, hm, hI3⟩ := iterS hI3
    replace hm : m_match_All_L3 n _ s12 = some y_3 := hm
    unfold m_match_All_L3 at hm
    try dsimp only at hm
    refine zr (zs (op_lss (.r rfl) (.r rfl)) (zn (AW.seq ?_)))
    refine AW.cond (b := _) rfl (fun hc6 => ?_) (fun hc6 => ?_)
    ·replace hm := iteT hc6 hm
     refine AW.skip (nq (AW.seq (AW.block (zr (zm rfl ?_)))))
     obtain ⟨v13, hv13, hm⟩ := bindE hm
     refine zs (op_indexAddrM (f := SPair.e) (.r rfl) (.r rfl) hv13 enSPair sl45) (zs (op_loadA .r rfl ag60) (zs (op_alloc (n := 2) zr60 rfl) (za rfl (zs (op_store .r .r rfl rfl rfl ⟨_, rfl, rfl⟩ rfl (Nat.le_of_ble_eq_true rfl)) (zn (AW.seqD [([], []), ([2], []), ([], []), ([2], []), ([], []), ([], []), ([], []), ([], []), ([], []), ([], []), ([2], []), ([], []), ([], []), ([], []), ([], []), ([], []), ([], []), ([], []), ([], []), ([], []), ([2], []), ([], []), ([], []), ([], []), ([], []), ([], []), ([], []), ([], []), ([], []), ([], []), ([2], []), ([], []), ([], []), ([], []), ([], []), ([], []), ([], []), ([], []), ([], []), ([], []), ([], []), ([], [])] mo (by decide +kernel) (AD.s (ws := []) rfl rfl (fun H' _ hH => op_field_ptr .r fd60_0) (AD.s (ws := []) rfl rfl (fun H' _ hH => op_load_ptr1 .r ((hH _ (by simp)).trans rfl) rfl sc3) (AD.s (ws := []) rfl rfl (fun H' _ hH => op_field_ptr .r fd60_1) (AD.s (ws := []) rfl rfl (fun H' _ hH => op_load_ptr1 .r ((hH _ (by simp)).trans rfl) rfl sc3) (AD.s (ws := []) rfl rfl (fun H' _ hH => op_geq (.r rfl) (.r rfl)) (AD.s (ws := []) rfl rfl (fun H' _ hH => op_moveD .r) (AD.sF rfl rfl rfl rfl (fun g H' _ hH => op_moveD .r) (AD.sF rfl rfl rfl rfl (fun g H' _ hH => op_gtr (.we (nt g) rfl rfl) (.r rfl)) (AD.sF rfl rfl rfl rfl (fun g H' _ hH => op_moveD (.we (nt g) rfl)) (AD.sTT rfl rfl rfl rfl (fun gp g H' _ hH => op_field_ptr .r fd60_0) (AD.sTT rfl rfl rfl rfl (fun gp g H' _ hH => op_load_ptr1 (.we (an gp g) rfl) ((hH _ (by simp)).trans rfl) rfl sc3) (AD.sTT rfl rfl rfl rfl (fun gp g H' _ hH => op_moveD .r) (AD.sTT rfl rfl rfl rfl (fun gp g H' _ hH => op_moveD .r) (AD.sTT rfl rfl rfl rfl (fun gp g H' _ hH => op_subw (.we (an gp g) rfl rfl) (.r rfl)) ?_))))))))))))))))))))
     obtain ⟨v14, hv14, hm⟩ := bindE hm
     refine AD.sTT rfl rfl rfl rfl (fun gp g H' _ hH => op_indexAddrM (f := SPair.e) (.we (an gp g) rfl rfl) (.we (an gp g) rfl rfl) (iteT (an gp g) hv14) enSPair sl45) (AD.sTT rfl rfl rfl rfl (fun gp g H' _ hH => op_field_vp (.we (an gp g) rfl) fd60_0) (AD.sTT rfl rfl rfl rfl (fun gp g H' _ hH => op_load_vp1 (.we (an gp g) rfl) rfl sc3) (AD.sTT rfl rfl rfl rfl (fun gp g H' _ hH => op_lss (.we (an gp g) rfl rfl) (.we (an gp g) rfl rfl)) (AD.sTT rfl rfl rfl rfl (fun gp g H' _ hH => op_moveD (.we (an gp g) rfl)) (AD.sFF rfl rfl rfl rfl (fun gp g H' _ hH => op_field_ptr .r fd60_0) (AD.sFF rfl rfl rfl rfl (fun gp g H' _ hH => op_load_ptr1 (.we (an gp (nt g)) rfl) ((hH _ (by simp)).trans rfl) rfl sc3) (AD.sFF rfl rfl rfl rfl (fun gp g H' _ hH => op_moveD .r) (AD.sFF rfl rfl rfl rfl (fun gp g H' _ hH => op_moveD .r) (AD.sFF rfl rfl rfl rfl (fun gp g H' _ hH => op_subw (.we (an gp (nt g)) rfl rfl) (.r rfl)) ?_)))))))))
     obtain ⟨v15, hv15, hm⟩ := bindE hm
     refine AD.sFF rfl rfl rfl rfl (fun gp g H' _ hH => op_indexAddrM (f := SPair.e) (.we (an gp (nt g)) rfl rfl) (.we (an gp (nt g)) rfl rfl) (iteT (an gp (nt g)) hv15) enSPair sl45) (AD.sFF rfl rfl rfl rfl (fun gp g H' _ hH => op_field_vp (.we (an gp (nt g)) rfl) fd60_0) (AD.sFF rfl rfl rfl rfl (fun gp g H' _ hH => op_load_vp1 (.we (an gp (nt g)) rfl) rfl sc3) (AD.sFF rfl rfl rfl rfl (fun gp g H' _ hH => op_eql (.we (an gp (nt g)) rfl rfl) (.we (an gp (nt g)) rfl rfl)) (AD.sFF rfl rfl rfl rfl (fun gp g H' _ hH => op_moveD (.we (an gp (nt g)) rfl)) (AD.sTT rfl rfl rfl rfl (fun gp g H' _ hH => op_field_ptr .r fd60_1) (AD.sTT rfl rfl rfl rfl (fun gp g H' _ hH => op_load_ptr1 (.we (an gp g) rfl) ((hH _ (by simp)).trans rfl) rfl sc3) (AD.sTT rfl rfl rfl rfl (fun gp g H' _ hH => op_moveD .r) (AD.sTT rfl rfl rfl rfl (fun gp g H' _ hH => op_moveD .r) (AD.sTT rfl rfl rfl rfl (fun gp g H' _ hH => op_subw (.we (an gp g) rfl rfl) (.r rfl)) ?_)))))))))
     obtain ⟨v16, hv16, hm⟩ := bindE hm
     refine AD.sTT rfl rfl rfl rfl (fun gp g H' _ hH => op_indexAddrM (f := SPair.e) (.we (an gp g) rfl rfl) (.we (an gp g) rfl rfl) (iteT (an gp g) hv16) enSPair sl45) (AD.sTT rfl rfl rfl rfl (fun gp g H' _ hH => op_field_vp (.we (an gp g) rfl) fd60_1) (AD.sTT rfl rfl rfl rfl (fun gp g H' _ hH => op_load_vp1 (.we (an gp g) rfl) rfl sc3) (AD.sTT rfl rfl rfl rfl (fun gp g H' _ hH => op_leq (.we (an gp g) rfl rfl) (.we (an gp g) rfl rfl)) (AD.sFF rfl rfl rfl rfl (fun gp g H' _ hH => op_and (.we (an gp (nt g)) rfl rfl) (fun h => (.we (an (an gp (nt g)) h) rfl rfl)) rfl) (AD.sTT rfl rfl rfl rfl (fun gp g H' _ hH => op_or (.we (an gp g) rfl rfl) rfl (fun h => (.we (an (an gp g) (nt h)) rfl rfl))) (AD.sF rfl rfl rfl rfl (fun g H' _ hH => op_and (.we (nt g) rfl rfl) (fun h => (.we (an (nt g) h) rfl rfl)) rfl) (AD.s (ws := []) rfl rfl (fun H' _ hH => op_or (.r rfl) rfl (fun h => (.we (nt h) rfl rfl))) (AD.nil ?_))))))))
     refine AW.cond (b := _) rfl (fun hc7 => ?_) (fun hc7 => ?_)
     ·replace hm := iteT hc7 hm
      refine AW.reset 0 [] [.row ((A72.e a1).cells.map .d), .ob (mpO (s7.map (fun q => ((.int .i64 q.1), (.int .i64 q.2))))), .row [.d (.int .i64 v13.fA), .d (.int .i64 v13.fB)]] (WOK.g0 hw0 (by simp)) ⟨[0, 1, 2], rfl, rfl, rfl, trivial, trivial, (.row rfl (cd (A72.e a1).cells) (.ob rfl obR_mp (.row rfl (.cons (.d rfl) (.cons (.d rfl) .nil)) .nil)))⟩ (zr (zs (op_assignN .r) (za rfl (zn (AW.ret (bq_ret (tq_ret (tq_ret ?_))))))))
      obtain rfl := Option.some.inj hm
      obtain rfl := Option.some.inj hI3
      replace hm := hk3
      try dsimp only at hm
      refine bq_ret (tq_ret ?_)
      obtain rfl := Option.some.inj hm
      exact EndQ.d (.tmp .r (.tmp .r .nil)) rfl rfl
     ·replace hm := iteF hc7 hm
      refine AW.skip (bq_n (nq (AW.region (zs (op_addw (.r rfl) (.r rfl)) (zm rfl (zn ?_))))))
      obtain rfl := Option.some.inj hm
      exact nq ⟨_, hI3, ⟨[0, 1], rfl, rfl, rfl, ⟨(.d rfl), (.d rfl), (.ptr rfl), (.mp rfl), (.d rfl), (.d rfl), (.d rfl), trivial⟩, trivial, (.row rfl (cd (A72.e a1).cells) (.ob rfl obR_mp .nil))⟩⟩
    ·replace hm := iteF hc6 hm
     refine AW.exit (tq_exit (tq_exit ?_))
     obtain rfl := Option.some.inj hm
     obtain rfl := Option.some.inj hI3
     replace hm := hk3
     try dsimp only at hm
     refine bq_hit (nq (zr (zs (op_assignN .r) (zn (AW.seq (zr (zm rfl (zs (op_lenM (f := SPair.e) (.r rfl) sl45) (zm rfl (zn (AW.block (AW.tokenize (n := 2) 21 63 3 rfl rfl (by simp) ?_))))))))))))
     obtain ⟨t_4, hI4, hk4⟩ := bindE hm
     refine AW.loopS (σ := ((List SWeighted) × Int)) (τ := (List SWeighted)) 0 (fun x => [(1, .d (.sl (a2.map SFeatures.e))), (3, .ptr 0 0), (8, .mp 1), (21, .tk 2 (x.1.map SWeighted.e)), (133, .d (.sl (a3.map SPair.e))), (134, .d (.int .i64 (a3.length : Int))), (135, .d (.int .i64 x.2))]) (fun x => [.row ((A72.e a1).cells.map .d), .ob (mpO (s7.map (fun q => ((.int .i64 q.1), (.int .i64 q.2))))), .tok x.1.length 63 3]) hI4 (WOK.g0 hw0 (by simp)) ⟨[0, 1, 2], rfl, rfl, rfl, ⟨(.d rfl), (.ptr rfl), (.mp rfl), (.tk rfl), (.d rfl), (.d rfl), (.d rfl), trivial⟩, trivial, (.row rfl (cd (A72.e a1).cells) (.ob rfl obR_mp (.tok rfl .nil)))⟩ ?_
     rintro n4 ⟨s17, s18⟩ hI4
     obtain ⟨y_4, hm, hI4⟩ := iterS hI4
     replace hm : m_match_All_L4 n _ _ _ _ s17 s18 = some y_4 := hm
     unfold m_match_All_L4 at hm
     try dsimp only at hm
     refine zr (zs (op_lss (.r rfl) (.r rfl)) (zn (AW.seq ?_)))
     refine AW.cond (b := _) rfl (fun hc8 => ?_) (fun hc8 => ?_)
     ·replace hm := iteT hc8 hm
      refine AW.skip (nq (AW.seq (AW.block (zr ?_))))
      obtain ⟨v19, hv19, hm⟩ := bindE hm
      refine zs (op_indexAddrM (f := SPair.e) (.r rfl) (.r rfl) hv19 enSPair sl45) (zs (op_loadA .r rfl ag60) (zs (op_alloc (n := 3) zr60 rfl) (zs (op_store .r .r rfl rfl rfl ⟨_, rfl, rfl⟩ rfl (Nat.le_of_ble_eq_true rfl)) (zn (AW.free (AW.seqD [([], []), ([], []), ([], []), ([3], []), ([1], []), ([], []), ([], []), ([], []), ([], []), ([], []), ([3], []), ([1], []), ([], []), ([], []), ([], []), ([], []), ([], []), ([], []), ([], [4]), ([4], [4]), ([], [])] mo (by decide +kernel) (AD.s (ws := []) rfl rfl (fun H' _ hH => op_moveD .r) (AD.s (ws := []) rfl rfl (fun H' _ hH => op_moveM .r) (AD.s (ws := []) rfl rfl (fun H' _ hH => op_field_ptr .r fd60_0) (AD.s (ws := []) rfl rfl (fun H' _ hH => op_load_ptr1 .r ((hH _ (by simp)).trans rfl) rfl sc3) (AD.s (ws := []) rfl rfl (fun H' _ hH => op_lookup (m := s7) (k := v19.fA) (z := ((0 : Int) : Int)) (fv := D.i) (keyInt Tryz.underlying3) Tryz.underlying77 .r (.r rfl) ((hH _ (by simp)).trans rfl) ⟨_, rfl, rfl⟩ (fun _ _ => .int _ _)) ?_)))))))))))
      obtain ⟨v20, hv20, hm⟩ := bindE hm
      refine AD.s (ws := []) rfl rfl (fun H' _ hH => op_indexAddrM (f := SFeatures.e) (.r rfl) (.r rfl) hv20 enSFeatures sl54) (AD.s (ws := []) rfl rfl (fun H' _ hH => op_loadA .r rfl ag33) (AD.s (ws := []) rfl rfl (fun H' _ hH => op_moveD .r) (AD.s (ws := []) rfl rfl (fun H' _ hH => op_moveM .r) (AD.s (ws := []) rfl rfl (fun H' _ hH => op_field_ptr .r fd60_1) (AD.s (ws := []) rfl rfl (fun H' _ hH => op_load_ptr1 .r ((hH _ (by simp)).trans rfl) rfl sc3) (AD.s (ws := []) rfl rfl (fun H' _ hH => op_lookup (m := s7) (k := v19.fB) (z := ((0 : Int) : Int)) (fv := D.i) (keyInt Tryz.underlying3) Tryz.underlying77 .r (.r rfl) ((hH _ (by simp)).trans rfl) ⟨_, rfl, rfl⟩ (fun _ _ => .int _ _)) ?_))))))
      obtain ⟨v21, hv21, hm⟩ := bindE hm
      refine AD.s (ws := []) rfl rfl (fun H' _ hH => op_indexAddrM (f := SFeatures.e) (.r rfl) (.r rfl) hv21 enSFeatures sl54) (AD.s (ws := []) rfl rfl (fun H' _ hH => op_loadA .r rfl ag33) ?_)
      obtain ⟨v22, hv22, hm⟩ := bindE hm
      refine AD.s (ws := []) rfl rfl (fun H' _ hH => op_fn Tryz.call7 .r (.cons (.r rfl) (.cons (.r rfl) .nil)) (m_match_Compare_ok hv22)) (AD.s (ws := []) rfl rfl (fun H' _ hH => op_moveD .r) (AD.s (ws := []) rfl rfl (fun H' _ hH => op_extractD .r rfl) (AD.s (ws := []) rfl rfl (fun H' _ hH => op_extractD .r rfl) (AD.s (ws := [(4, _)]) rfl rfl (fun H' _ hH => op_allocR zr29 ((hH _ (by simp)).trans rfl)) (AD.s (ws := [(4, _)]) rfl rfl (fun H' _ hH => op_store .r .r ((hH _ (by simp)).trans rfl) rfl rfl ⟨_, rfl, rfl⟩ rfl (Nat.le_of_ble_eq_true rfl)) (AD.s (ws := []) rfl rfl (fun H' _ hH => op_assignD .r) (AD.nil (zr (zs (op_load_ptrA .r rfl rfl rfl ag52) (zs (op_load_ptrA .r rfl rfl rfl ag29) ?_))))))))))
      obtain ⟨v23, hv23, hm⟩ := bindE hm
      refine zs (op_fn Tryz.call14 .r (.cons (.r rfl) (.cons (.r rfl) .nil)) (m_match_Weight_ok hv23)) (zm rfl (zs (op_extractD .r rfl) (zs (op_extractD .r rfl) (za rfl (za rfl (zn (AW.region (zs (op_moveT .r) (zs (op_load_ptrA .r rfl rfl rfl ag60) (zm rfl (zs (op_build bd63 (.cons .r rfl rfl rfl rfl (Nat.le_of_ble_eq_true rfl) (.cons .r rfl rfl rfl rfl (Nat.le_of_ble_eq_true rfl) .nil))) (zs (op_buildSlice (ds := ([(⟨v19, v23.1⟩ : SWeighted)] : List SWeighted).map SWeighted.e) sl46 (.cons (.r rfl) rfl (enSWeighted.one _) .nil) rfl (by decide)) ?_))))))))))))
      obtain ⟨v24, hv24, hm⟩ := bindE hm
      refine zs (op_appendM (f := SWeighted.e) (l' := ([(⟨v19, v23.1⟩ : SWeighted)] : List SWeighted)) sl46 .r (.r rfl) rfl rfl enSWeighted hv24) (zs (op_assignT .r) (zn (bq_n (nq (AW.reset 0 [(1, .d (.sl (a2.map SFeatures.e))), (3, .ptr 0 0), (8, .mp 1), (21, .tk 2 (v24.map SWeighted.e)), (133, .d (.sl (a3.map SPair.e))), (134, .d (.int .i64 (a3.length : Int))), (135, .d (.int .i64 s18))] [.row ((A72.e a1).cells.map .d), .ob (mpO (s7.map (fun q => ((.int .i64 q.1), (.int .i64 q.2))))), .tok v24.length 63 3, .row [.d (.int .i64 v19.fA), .d (.int .i64 v19.fB)], .row [.d (.int .i64 v22.1.e0), .d (.int .i64 v22.1.e1), .d (.int .i64 v22.1.e2), .d (.int .i64 v22.1.e3), .d (.int .i64 v22.1.e4), .d (.int .i64 v22.1.e5), .d (.int .i64 v22.1.e6)]] (WOK.g0 hw0 (by simp)) ⟨[0, 1, 2, 3, 4], rfl, rfl, rfl, ⟨(.d rfl), (.ptr rfl), (.mp rfl), (.tk rfl), (.d rfl), (.d rfl), (.d rfl), trivial⟩, trivial, (.row rfl (cd (A72.e a1).cells) (.ob rfl obR_mp (.tok rfl (.row rfl (.cons (.d rfl) (.cons (.d rfl) .nil)) (.row rfl (.cons (.d rfl) (.cons (.d rfl) (.cons (.d rfl) (.cons (.d rfl) (.cons (.d rfl) (.cons (.d rfl) (.cons (.d rfl) .nil))))))) .nil)))))⟩ (AW.region (zs (op_addw (.r rfl) (.r rfl)) (zm rfl (zn ?_)))))))))
      obtain rfl := Option.some.inj hm
      exact nq ⟨_, hI4, ⟨[0, 1, 2], rfl, rfl, rfl, ⟨(.d rfl), (.ptr rfl), (.mp rfl), (.tk rfl), (.d rfl), (.d rfl), (.d rfl), trivial⟩, trivial, (.row rfl (cd (A72.e a1).cells) (.ob rfl obR_mp (.tok rfl .nil)))⟩⟩
     ·replace hm := iteF hc8 hm
      refine AW.exit (tq_exit (tq_exit ?_))
      obtain rfl := Option.some.inj hm
      obtain rfl := Option.some.inj hI4
      replace hm := hk4
      try dsimp only at hm
      refine bq_hit (nq (zr (zs (op_moveT .r) (zs (op_assignT .r) (za rfl (zn (AW.ret ?_)))))))
      obtain rfl := Option.some.inj hm
      exact EndQ.d (.tmp .r (.tmp .r .nil)) rfl rfl

theorem m_ref28_Valid_ok {n : Nat} {a1 : (List SRatio)} {r : Bool} (hm : m_ref28_Valid n a1 = some r) : Fn Tryz.prog 67 [(.sl (a1.map SRatio.e))] (.bool r) := by
 unfold m_ref28_Valid at hm
 refine Fn.of_AW (fnn := Tryz.f67) Tryz.func67 rfl (Nat.le_of_ble_eq_true rfl) (fun g0 w0 hw0 => ?_)
 refine AW.reset 0 [(0, .d (.sl (a1.map SRatio.e)))] [] (WOK.g0 hw0 (by simp)) ⟨[], rfl, rfl, rfl, ⟨(.d rfl), trivial⟩, trivial, .nil⟩ (zr (za rfl (zn (AW.seq (zr (za rfl (zn (AW.block ?_))))))))
 obtain ⟨t_1, hI1, hk1⟩ := bindE hm
 refine AW.loopS (σ := Int) (τ := (Bool ⊕ Unit)) 0 (fun x => [(0, .d (.sl (a1.map SRatio.e))), (3, .d (.int .i64 x))]) (fun x => []) hI1 (WOK.g0 hw0 (by simp)) ⟨[], rfl, rfl, rfl, ⟨(.d rfl), (.d rfl), trivial⟩, trivial, .nil⟩ ?_
 rintro n1 s2 hI1
 obtain ⟨y_1, hm, hI1⟩ := iterS hI1
 replace hm : m_ref28_Valid_L1 n _ s2 = some y_1 := hm
 unfold m_ref28_Valid_L1 at hm
 try dsimp only at hm
 refine AW.seq (zr (zm rfl (zm rfl (zs (op_lenM (f := SRatio.e) (.r rfl) sl121) (zs (op_lss (.r rfl) (.r rfl)) (zn ?_))))))
 refine AW.cond (b := _) rfl (fun hc1 => ?_) (fun hc1 => ?_)
 ·replace hm := iteT hc1 hm
  refine AW.skip (nq (AW.seq (AW.block (zr (zm rfl (zm rfl ?_))))))
  obtain ⟨v3, hv3, hm⟩ := bindE hm
  refine zs (op_indexAddrM (f := SRatio.e) (.r rfl) (.r rfl) hv3 enSRatio sl121) (zs (op_field_vp .r fd40_0) (zs (op_load_vp1 .r rfl sc3) (zs (op_lss (.r rfl) (.r rfl)) (zm rfl (AL.sF rfl rfl rfl rfl (fun g => op_moveD .r) (AL.sF rfl rfl rfl rfl (fun g => op_moveD .r) ?_))))))
  obtain ⟨v4, hv4, hm⟩ := bindE hm
  refine AL.sF rfl rfl rfl rfl (fun g => op_indexAddrM (f := SRatio.e) (.we (nt g) rfl rfl) (.we (nt g) rfl rfl) (iteT (nt g) hv4) enSRatio sl121) (AL.sF rfl rfl rfl rfl (fun g => op_field_vp (.we (nt g) rfl) fd40_0) (AL.sF rfl rfl rfl rfl (fun g => op_load_vp1 (.we (nt g) rfl) rfl sc3) (AL.sF rfl rfl rfl rfl (fun g => op_gtr (.we (nt g) rfl rfl) (.r rfl)) (zs (op_or (.r rfl) rfl (fun h => (.we (nt h) rfl rfl))) (zm rfl (AL.sF rfl rfl rfl rfl (fun g => op_moveD .r) (AL.sF rfl rfl rfl rfl (fun g => op_moveD .r) ?_)))))))
  obtain ⟨v5, hv5, hm⟩ := bindE hm
  refine AL.sF rfl rfl rfl rfl (fun g => op_indexAddrM (f := SRatio.e) (.we (nt g) rfl rfl) (.we (nt g) rfl rfl) (iteT (nt g) hv5) enSRatio sl121) (AL.sF rfl rfl rfl rfl (fun g => op_field_vp (.we (nt g) rfl) fd40_1) (AL.sF rfl rfl rfl rfl (fun g => op_load_vp1 (.we (nt g) rfl) rfl sc3) (AL.sF rfl rfl rfl rfl (fun g => op_lss (.we (nt g) rfl rfl) (.r rfl)) (zs (op_or (.r rfl) rfl (fun h => (.we (nt h) rfl rfl))) (zm rfl (AL.sF rfl rfl rfl rfl (fun g => op_moveD .r) (AL.sF rfl rfl rfl rfl (fun g => op_moveD .r) ?_)))))))
  obtain ⟨v6, hv6, hm⟩ := bindE hm
  refine AL.sF rfl rfl rfl rfl (fun g => op_indexAddrM (f := SRatio.e) (.we (nt g) rfl rfl) (.we (nt g) rfl rfl) (iteT (nt g) hv6) enSRatio sl121) (AL.sF rfl rfl rfl rfl (fun g => op_field_vp (.we (nt g) rfl) fd40_1) (AL.sF rfl rfl rfl rfl (fun g => op_load_vp1 (.we (nt g) rfl) rfl sc3) (AL.sF rfl rfl rfl rfl (fun g => op_gtr (.we (nt g) rfl rfl) (.r rfl)) (zs (op_or (.r rfl) rfl (fun h => (.we (nt h) rfl rfl))) (zn ?_)))))
  refine AW.cond (b := _) rfl (fun hc2 => ?_) (fun hc2 => ?_)
  ·replace hm := iteT hc2 hm
   refine zr (za rfl (zn (AW.ret (bq_ret (tq_ret (tq_ret ?_))))))
   obtain rfl := Option.some.inj hm
   obtain rfl := Option.some.inj hI1
   replace hm := hk1
   try dsimp only at hm
   refine bq_ret (tq_ret ?_)
   obtain rfl := Option.some.inj hm
   exact EndQ.d (.tmp .r .nil) rfl rfl
  ·replace hm := iteF hc2 hm
   refine AW.skip (bq_n (nq (AW.region (zm rfl (zs (op_addw (.r rfl) (.r rfl)) (za rfl (zn ?_)))))))
   obtain rfl := Option.some.inj hm
   exact nq ⟨_, hI1, ⟨[], rfl, rfl, rfl, ⟨(.d rfl), (.d rfl), trivial⟩, trivial, .nil⟩⟩
 ·replace hm := iteF hc1 hm
  refine AW.exit (tq_exit (tq_exit ?_))
  obtain rfl := Option.some.inj hm
  obtain rfl := Option.some.inj hI1
  replace hm := hk1
  try dsimp only at hm
  refine bq_hit (nq (zr (zm rfl (zs (op_lenM (f := SRatio.e) (.r rfl) sl121) (zs (op_leq (.r rfl) (.r rfl)) (za rfl (zn (AW.ret ?_))))))))
  obtain rfl := Option.some.inj hm
  exact EndQ.d (.tmp .r .nil) rfl rfl

theorem m_ref31_Valid_ok {n : Nat} {a1 : A72} {r : Bool} (hm : m_ref31_Valid n a1 = some r) : Fn Tryz.prog 31 [(A72.e a1)] (.bool r) := by
 unfold m_ref31_Valid at hm
 refine Fn.of_AW (fnn := Tryz.f31) Tryz.func31 rfl (Nat.le_of_ble_eq_true rfl) (fun g0 w0 hw0 => ?_)
 refine AW.reset 0 [(0, .d (A72.e a1))] [] (WOK.g0 hw0 (by simp)) ⟨[], rfl, rfl, rfl, ⟨(.d rfl), trivial⟩, trivial, .nil⟩ (zr (zs (op_box (n := 0) .r rfl rfl rfl) (za rfl (zn (AW.seq (zr (za rfl (zn (AW.block ?_)))))))))
 obtain ⟨t_1, hI1, hk1⟩ := bindE hm
 refine AW.loopS (σ := Int) (τ := (Bool ⊕ Unit)) 0 (fun x => [(1, .ptr 0 0), (3, .d (.int .i64 x))]) (fun x => [.row ((A72.e a1).cells.map .d)]) hI1 (WOK.g0 hw0 (by simp)) ⟨[0], rfl, rfl, rfl, ⟨(.ptr rfl), (.d rfl), trivial⟩, trivial, (.row rfl (cd (A72.e a1).cells) .nil)⟩ ?_
 rintro n1 s2 hI1
 obtain ⟨y_1, hm, hI1⟩ := iterS hI1
 replace hm : m_ref31_Valid_L1 n _ s2 = some y_1 := hm
 unfold m_ref31_Valid_L1 at hm
 try dsimp only at hm
 refine AW.seq (zr (zm rfl (zs (op_lss (.r rfl) (.r rfl)) (zn ?_))))
 refine AW.cond (b := _) rfl (fun hc1 => ?_) (fun hc1 => ?_)
 ·replace hm := iteT hc1 hm
  refine AW.skip (nq (AW.seq (AW.block (zr (za rfl (zn (AW.block ?_)))))))
  obtain ⟨t_2, hI2, hk2⟩ := bindE hm
  refine AW.loopS (σ := Int) (τ := (Bool ⊕ Unit)) 0 (fun x => [(1, .ptr 0 0), (3, .d (.int .i64 s2)), (4, .d (.int .i64 x))]) (fun x => [.row ((A72.e a1).cells.map .d)]) hI2 (WOK.g0 hw0 (by simp)) ⟨[0], rfl, rfl, rfl, ⟨(.ptr rfl), (.d rfl), (.d rfl), trivial⟩, trivial, (.row rfl (cd (A72.e a1).cells) .nil)⟩ ?_
  rintro n2 s3 hI2
  obtain ⟨y_2, hm, hI2⟩ := iterS hI2
  replace hm : m_ref31_Valid_L2 n _ _ s3 = some y_2 := hm
  unfold m_ref31_Valid_L2 at hm
  try dsimp only at hm
  refine AW.seq (zr (zm rfl (zs (op_lss (.r rfl) (.r rfl)) (zn ?_))))
  refine AW.cond (b := _) rfl (fun hc2 => ?_) (fun hc2 => ?_)
  ·replace hm := iteT hc2 hm
   refine AW.skip (nq (AW.seq (AW.block (zr (zm rfl (zm rfl ?_))))))
   obtain ⟨v4, hv4, hm⟩ := bindE hm
   refine zs (op_indexA (l := a1.l) (s := 6) .r (.r rfl) hv4 rfl Tryz.underlying43 ⟨_, rfl, rfl⟩) ?_
   obtain ⟨v5, hv5, hm⟩ := bindE hm
   refine zs (op_indexA (l := v4.l) (s := 2) .r (.r rfl) hv5 rfl Tryz.underlying41 ⟨_, rfl, rfl⟩) (zs (op_loadAtA (X := (A72.e a1).cells) .r rfl (AtD.ix (f := SRatio.e) (l := v4.l) enSRatio (AtD.ix (f := A3.e) (l := a1.l) enA3 (AtD.root : AtD (A72.e a1).cells 0 _ _) hv4) hv5) ag40) (zs (op_buildSlice (ds := ([v5] : List SRatio).map SRatio.e) sl121 (.cons (.r rfl) rfl (enSRatio.one _) .nil) rfl (by decide)) ?_))
   obtain ⟨v6, hv6, hm⟩ := bindE hm
   refine zs (op_fn Tryz.call67 .r (.cons (.r rfl) .nil) (m_ref28_Valid_ok hv6)) (zs (op_not (.r rfl)) (zn ?_))
   refine AW.cond (b := _) rfl (fun hc3 => ?_) (fun hc3 => ?_)
   ·replace hm := iteT hc3 hm
    refine zr (za rfl (zn (AW.ret (bq_ret (tq_ret (tq_ret ?_))))))
    obtain rfl := Option.some.inj hm
    obtain rfl := Option.some.inj hI2
    replace hm := hk2
    try dsimp only at hm
    refine bq_ret (bq_ret (tq_ret (tq_ret ?_)))
    obtain rfl := Option.some.inj hm
    obtain rfl := Option.some.inj hI1
    replace hm := hk1
    try dsimp only at hm
    refine bq_ret (tq_ret ?_)
    obtain rfl := Option.some.inj hm
    exact EndQ.d (.tmp .r .nil) rfl rfl
   ·replace hm := iteF hc3 hm
    refine AW.skip (bq_n (nq (AW.region (zm rfl (zs (op_addw (.r rfl) (.r rfl)) (za rfl (zn ?_)))))))
    obtain rfl := Option.some.inj hm
    exact nq ⟨_, hI2, ⟨[0], rfl, rfl, rfl, ⟨(.ptr rfl), (.d rfl), (.d rfl), trivial⟩, trivial, (.row rfl (cd (A72.e a1).cells) .nil)⟩⟩
  ·replace hm := iteF hc2 hm
   refine AW.exit (tq_exit (tq_exit ?_))
   obtain rfl := Option.some.inj hm
   obtain rfl := Option.some.inj hI2
   replace hm := hk2
   try dsimp only at hm
   refine bq_hit (bq_n (nq (AW.region (zm rfl (zs (op_addw (.r rfl) (.r rfl)) (za rfl (zn ?_)))))))
   obtain rfl := Option.some.inj hm
   exact nq ⟨_, hI1, ⟨[0], rfl, rfl, rfl, ⟨(.ptr rfl), (.d rfl), trivial⟩, trivial, (.row rfl (cd (A72.e a1).cells) .nil)⟩⟩
 ·replace hm := iteF hc1 hm
  refine AW.exit (tq_exit (tq_exit ?_))
  obtain rfl := Option.some.inj hm
  obtain rfl := Option.some.inj hI1
  replace hm := hk1
  try dsimp only at hm
  refine bq_hit (nq (zr (za rfl (zn (AW.ret ?_)))))
  obtain rfl := Option.some.inj hm
  exact EndQ.d (.tmp .r .nil) rfl rfl

theorem m_ref31_find_ok {n : Nat} {a1 : (List SFeatures)} {a2 : Int} {r : Int} (hm : m_ref31_find n a1 a2 = some r) : Fn Tryz.prog 32 [(.sl (a1.map SFeatures.e)), (.int .i64 a2)] (.int .i64 r) := by
 unfold m_ref31_find at hm
 refine Fn.of_AW (fnn := Tryz.f32) Tryz.func32 rfl (Nat.le_of_ble_eq_true rfl) (fun g0 w0 hw0 => ?_)
 refine AW.reset 0 [(0, .d (.sl (a1.map SFeatures.e))), (1, .d (.int .i64 a2))] [] (WOK.g0 hw0 (by simp)) ⟨[], rfl, rfl, rfl, ⟨(.d rfl), (.d rfl), trivial⟩, trivial, .nil⟩ (zr (za rfl (zn (AW.seq (zr (za rfl (zn (AW.block ?_))))))))
 obtain ⟨t_1, hI1, hk1⟩ := bindE hm
 refine AW.loopS (σ := Int) (τ := (Int ⊕ Unit)) 0 (fun x => [(0, .d (.sl (a1.map SFeatures.e))), (1, .d (.int .i64 a2)), (5, .d (.int .i64 x))]) (fun x => []) hI1 (WOK.g0 hw0 (by simp)) ⟨[], rfl, rfl, rfl, ⟨(.d rfl), (.d rfl), (.d rfl), trivial⟩, trivial, .nil⟩ ?_
 rintro n1 s3 hI1
 obtain ⟨y_1, hm, hI1⟩ := iterS hI1
 replace hm : m_ref31_find_L1 n _ _ s3 = some y_1 := hm
 unfold m_ref31_find_L1 at hm
 try dsimp only at hm
 refine AW.seq (zr (zm rfl (zm rfl (zs (op_lenM (f := SFeatures.e) (.r rfl) sl44) (zs (op_lss (.r rfl) (.r rfl)) (zn ?_))))))
 refine AW.cond (b := _) rfl (fun hc1 => ?_) (fun hc1 => ?_)
 ·replace hm := iteT hc1 hm
  refine AW.skip (nq (AW.seq (AW.block (zr (zm rfl (zm rfl ?_))))))
  obtain ⟨v4, hv4, hm⟩ := bindE hm
  refine zs (op_indexAddrM (f := SFeatures.e) (.r rfl) (.r rfl) hv4 enSFeatures sl44) (zs (op_field_vp .r fd25_0) (zs (op_load_vp1 .r rfl sc3) (zm rfl (zs (op_eql (.r rfl) (.r rfl)) (zn ?_)))))
  refine AW.cond (b := _) rfl (fun hc2 => ?_) (fun hc2 => ?_)
  ·replace hm := iteT hc2 hm
   refine zr (zm rfl (za rfl (zn (AW.ret (bq_ret (tq_ret (tq_ret ?_)))))))
   obtain rfl := Option.some.inj hm
   obtain rfl := Option.some.inj hI1
   replace hm := hk1
   try dsimp only at hm
   refine bq_ret (tq_ret ?_)
   obtain rfl := Option.some.inj hm
   exact EndQ.d (.tmp .r .nil) rfl rfl
  ·replace hm := iteF hc2 hm
   refine AW.skip (bq_n (nq (AW.region (zm rfl (zs (op_addw (.r rfl) (.r rfl)) (za rfl (zn ?_)))))))
   obtain rfl := Option.some.inj hm
   exact nq ⟨_, hI1, ⟨[], rfl, rfl, rfl, ⟨(.d rfl), (.d rfl), (.d rfl), trivial⟩, trivial, .nil⟩⟩
 ·replace hm := iteF hc1 hm
  refine AW.exit (tq_exit (tq_exit ?_))
  obtain rfl := Option.some.inj hm
  obtain rfl := Option.some.inj hI1
  replace hm := hk1
  try dsimp only at hm
  refine bq_hit (nq (zr (za rfl (zn (AW.ret ?_)))))
  obtain rfl := Option.some.inj hm
  exact EndQ.d (.tmp .r .nil) rfl rfl

theorem m_ref31_Factors_ok {n : Nat} {a1 : A72} {a2 : A7} {r : ((List SRatio) × Int)} (hm : m_ref31_Factors n a1 a2 = some r) : Fn Tryz.prog 68 [(A72.e a1), (A7.e a2)] (.tup [(.sl (r.1.map SRatio.e)), (.int .i64 r.2)]) := by
 unfold m_ref31_Factors at hm
 refine Fn.of_AW (fnn := Tryz.f68) Tryz.func68 rfl (Nat.le_of_ble_eq_true rfl) (fun g0 w0 hw0 => ?_)
 refine AW.reset 0 [(0, .d (A72.e a1)), (1, .d (A7.e a2))] [] (WOK.g0 hw0 (by simp)) ⟨[], rfl, rfl, rfl, ⟨(.d rfl), (.d rfl), trivial⟩, trivial, .nil⟩ (zr (zs (op_box (n := 0) .r rfl rfl rfl) (zs (op_box (n := 1) .r rfl rfl rfl) (zs (op_assignN .r) (za rfl (zn (AW.seq (zr (zs (op_load_ptrA .r rfl rfl rfl ag43) ?_)))))))))
 obtain ⟨v3, hv3, hm⟩ := bindE hm
 refine zs (op_fn Tryz.call31 .r (.cons (.r rfl) .nil) (m_ref31_Valid_ok hv3)) (zs (op_not (.r rfl)) (zn ?_))
 refine AW.cond (b := _) rfl (fun hc1 => ?_) (fun hc1 => ?_)
 ·replace hm := iteT hc1 hm
  refine zr (zs (op_assignN .r) (za rfl (zn (AW.ret (tq_ret ?_)))))
  obtain rfl := Option.some.inj hm
  exact EndQ.d (.tmp .r (.tmp .r .nil)) rfl rfl
 ·replace hm := iteF hc1 hm
  refine AW.skip (nq (zr (zs (op_assignN .r) (zn (AW.seq (zr (za rfl (zn (AW.block (AW.tokenize (n := 2) 6 40 2 rfl rfl (by simp) ?_))))))))))
  obtain ⟨t_1, hI1, hk1⟩ := bindE hm
  refine AW.loopS (σ := ((List SRatio) × Int)) (τ := (((List SRatio) × Int) ⊕ (List SRatio))) 0 (fun x => [(2, .ptr 0 0), (3, .ptr 1 0), (6, .tk 2 (x.1.map SRatio.e)), (7, .d (.int .i64 x.2))]) (fun x => [.row ((A72.e a1).cells.map .d), .row [.d (.int .i64 a2.e0), .d (.int .i64 a2.e1), .d (.int .i64 a2.e2), .d (.int .i64 a2.e3), .d (.int .i64 a2.e4), .d (.int .i64 a2.e5), .d (.int .i64 a2.e6)], .tok x.1.length 40 2]) hI1 (WOK.g0 hw0 (by simp)) ⟨[0, 1, 2], rfl, rfl, rfl, ⟨(.ptr rfl), (.ptr rfl), (.tk rfl), (.d rfl), trivial⟩, trivial, (.row rfl (cd (A72.e a1).cells) (.row rfl (.cons (.d rfl) (.cons (.d rfl) (.cons (.d rfl) (.cons (.d rfl) (.cons (.d rfl) (.cons (.d rfl) (.cons (.d rfl) .nil))))))) (.tok rfl .nil)))⟩ ?_
  rintro n1 ⟨s4, s5⟩ hI1
  obtain ⟨y_1, hm, hI1⟩ := iterS hI1
  replace hm : m_ref31_Factors_L1 n _ _ s4 s5 = some y_1 := hm
  unfold m_ref31_Factors_L1 at hm
  try dsimp only at hm
  refine AW.seq (zr (zm rfl (zs (op_lss (.r rfl) (.r rfl)) (zn ?_))))
  refine AW.cond (b := _) rfl (fun hc2 => ?_) (fun hc2 => ?_)
  ·replace hm := iteT hc2 hm
   refine AW.skip (nq ?_)
   obtain ⟨t_j1, hm, hkj1⟩ := bindE hm
   refine AW.cutS (α := (List SRatio)) 0 (fun x => (.inr x) = t_j1) (fun x => [(2, .ptr 0 0), (3, .ptr 1 0), (6, .tk 2 (x.map SRatio.e)), (7, .d (.int .i64 s5))]) (fun x => [.row ((A72.e a1).cells.map .d), .row [.d (.int .i64 a2.e0), .d (.int .i64 a2.e1), .d (.int .i64 a2.e2), .d (.int .i64 a2.e3), .d (.int .i64 a2.e4), .d (.int .i64 a2.e5), .d (.int .i64 a2.e6)], .tok x.length 40 2]) (WOK.g0 hw0 (by simp)) ?_ ?_
   ·skip
    refine AW.block (AW.seq (zr (zm rfl ?_)))
    obtain ⟨v6, hv6, hm⟩ := bindE hm
    refine zs (op_indexA (l := a2.l) (s := 1) .r (.r rfl) hv6 rfl Tryz.underlying35 ⟨_, rfl, rfl⟩) (zs (op_loadAt1 (X := (A7.e a2).cells) .r rfl (AtD.ix (f := D.i) (l := a2.l) En.i (AtD.root : AtD (A7.e a2).cells 0 _ _) hv6) sc3) (zs (op_lss (.r rfl) (.r rfl)) (zm rfl (AL.sF rfl rfl rfl rfl (fun g => op_moveD .r) ?_))))
    obtain ⟨v7, hv7, hm⟩ := bindE hm
    refine AL.sF rfl rfl rfl rfl (fun g => op_indexA (l := a2.l) (s := 1) .r (.we (nt g) rfl rfl) (iteT (nt g) hv7) rfl Tryz.underlying35 ⟨_, rfl, rfl⟩) (AL.sF rfl rfl rfl rfl (fun g => op_loadAt1 (X := (A7.e a2).cells) (.we (nt g) rfl) rfl (AtD.ix (f := D.i) (l := a2.l) En.i (AtD.root : AtD (A7.e a2).cells 0 _ _) (iteT (nt g) hv7)) sc3) (AL.sF rfl rfl rfl rfl (fun g => op_gtr (.we (nt g) rfl rfl) (.r rfl)) (zs (op_or (.r rfl) rfl (fun h => (.we (nt h) rfl rfl))) (zn ?_))))
    refine AW.cond (b := _) rfl (fun hc3 => ?_) (fun hc3 => ?_)
    ·replace hm := iteT hc3 hm
     refine zr (zs (op_assignN .r) (za rfl (zn (AW.ret (tq_ret (bq_ret (tq_ret ?_)))))))
     obtain rfl := Option.some.inj hm
     replace hm := hkj1
     try dsimp only at hm
     refine tq_ret ?_
     obtain rfl := Option.some.inj hm
     obtain rfl := Option.some.inj hI1
     replace hm := hk1
     try dsimp only at hm
     refine bq_ret (tq_ret ?_)
     obtain rfl := Option.some.inj hm
     exact EndQ.d (.tmp .r (.tmp .r .nil)) rfl rfl
    ·replace hm := iteF hc3 hm
     refine AW.skip (nq (AW.reset 0 [(2, .ptr 0 0), (3, .ptr 1 0), (6, .tk 2 (s4.map SRatio.e)), (7, .d (.int .i64 s5))] [.row ((A72.e a1).cells.map .d), .row [.d (.int .i64 a2.e0), .d (.int .i64 a2.e1), .d (.int .i64 a2.e2), .d (.int .i64 a2.e3), .d (.int .i64 a2.e4), .d (.int .i64 a2.e5), .d (.int .i64 a2.e6)], .tok s4.length 40 2] (WOK.g0 hw0 (by simp)) ⟨[0, 1, 2], rfl, rfl, rfl, ⟨(.ptr rfl), (.ptr rfl), (.tk rfl), (.d rfl), trivial⟩, trivial, (.row rfl (cd (A72.e a1).cells) (.row rfl (.cons (.d rfl) (.cons (.d rfl) (.cons (.d rfl) (.cons (.d rfl) (.cons (.d rfl) (.cons (.d rfl) (.cons (.d rfl) .nil))))))) (.tok rfl .nil)))⟩ (zr (zm rfl ?_))))
     obtain ⟨v8, hv8, hm⟩ := bindE hm
     refine zs (op_indexA (l := a2.l) (s := 1) .r (.r rfl) hv8 rfl Tryz.underlying35 ⟨_, rfl, rfl⟩) (zs (op_loadAt1 (X := (A7.e a2).cells) .r rfl (AtD.ix (f := D.i) (l := a2.l) En.i (AtD.root : AtD (A7.e a2).cells 0 _ _) hv8) sc3) (zs (op_neq (.r rfl) (.r rfl)) (zn ?_)))
     refine AW.cond (b := _) rfl (fun hc4 => ?_) (fun hc4 => ?_)
     ·replace hm := iteT hc4 hm
      refine AW.free (AW.drawn [([], []), ([], []), ([], []), ([], []), ([1], []), ([], []), ([], []), ([], []), ([0], []), ([], []), ([2], [2]), ([], [])] mo (by decide +kernel) (AD.s (ws := []) rfl rfl (fun H' _ hH => op_moveT .r) (AD.s (ws := []) rfl rfl (fun H' _ hH => op_moveD .r) (AD.s (ws := []) rfl rfl (fun H' _ hH => op_moveD .r) ?_))))
      obtain ⟨v9, hv9, hm⟩ := bindE hm
      refine AD.s (ws := []) rfl rfl (fun H' _ hH => op_indexA (l := a2.l) (s := 1) .r (.r rfl) hv9 rfl Tryz.underlying35 ⟨_, rfl, rfl⟩) (AD.s (ws := []) rfl rfl (fun H' _ hH => op_loadAt1 (X := (A7.e a2).cells) .r ((hH _ (by simp)).trans rfl) (AtD.ix (f := D.i) (l := a2.l) En.i (AtD.root : AtD (A7.e a2).cells 0 _ _) hv9) sc3) (AD.s (ws := []) rfl rfl (fun H' _ hH => op_subw (.r rfl) (.r rfl)) ?_))
      obtain ⟨v10, hv10, hm⟩ := bindE hm
      refine AD.s (ws := []) rfl rfl (fun H' _ hH => op_indexA (l := a1.l) (s := 6) .r (.r rfl) hv10 rfl Tryz.underlying43 ⟨_, rfl, rfl⟩) ?_
      obtain ⟨v11, hv11, hm⟩ := bindE hm
      refine AD.s (ws := []) rfl rfl (fun H' _ hH => op_indexA (l := v10.l) (s := 2) .r (.r rfl) hv11 rfl Tryz.underlying41 ⟨_, rfl, rfl⟩) (AD.s (ws := []) rfl rfl (fun H' _ hH => op_loadAtA (X := (A72.e a1).cells) .r ((hH _ (by simp)).trans rfl) (AtD.ix (f := SRatio.e) (l := v10.l) enSRatio (AtD.ix (f := A3.e) (l := a1.l) enA3 (AtD.root : AtD (A72.e a1).cells 0 _ _) hv10) hv11) ag40) (AD.s (ws := []) rfl rfl (fun H' _ hH => op_buildSlice (ds := ([v11] : List SRatio).map SRatio.e) sl121 (.cons (.r rfl) rfl (enSRatio.one _) .nil) rfl (by decide)) ?_))
      obtain ⟨v12, hv12, hm⟩ := bindE hm
      refine AD.s (ws := [(2, _)]) rfl rfl (fun H' _ hH => op_appendM (f := SRatio.e) (l' := ([v11] : List SRatio)) sl121 .r (.r rfl) ((hH _ (by simp)).trans rfl) rfl enSRatio hv12) (AD.s (ws := []) rfl rfl (fun H' _ hH => op_assignT .r) (AD.nil (bq_n ?_)))
      obtain rfl := Option.some.inj hm
      exact nq ⟨_, rfl, ⟨[0, 1, 2], rfl, rfl, rfl, ⟨(.ptr rfl), (.ptr rfl), (.tk rfl), (.d rfl), trivial⟩, trivial, (.row rfl (cd (A72.e a1).cells) (.row rfl (.cons (.d rfl) (.cons (.d rfl) (.cons (.d rfl) (.cons (.d rfl) (.cons (.d rfl) (.cons (.d rfl) (.cons (.d rfl) .nil))))))) (.tok rfl .nil)))⟩⟩
     ·replace hm := iteF hc4 hm
      refine AW.skip (bq_n ?_)
      obtain rfl := Option.some.inj hm
      exact nq ⟨_, rfl, ⟨[0, 1, 2], rfl, rfl, rfl, ⟨(.ptr rfl), (.ptr rfl), (.tk rfl), (.d rfl), trivial⟩, trivial, (.row rfl (cd (A72.e a1).cells) (.row rfl (.cons (.d rfl) (.cons (.d rfl) (.cons (.d rfl) (.cons (.d rfl) (.cons (.d rfl) (.cons (.d rfl) (.cons (.d rfl) .nil))))))) (.tok rfl .nil)))⟩⟩
   ·rintro s13 rfl
    replace hm := hkj1
    try dsimp only at hm
    refine AW.region (zm rfl (zs (op_addw (.r rfl) (.r rfl)) (za rfl (zn ?_))))
    obtain rfl := Option.some.inj hm
    exact nq ⟨_, hI1, ⟨[0, 1, 2], rfl, rfl, rfl, ⟨(.ptr rfl), (.ptr rfl), (.tk rfl), (.d rfl), trivial⟩, trivial, (.row rfl (cd (A72.e a1).cells) (.row rfl (.cons (.d rfl) (.cons (.d rfl) (.cons (.d rfl) (.cons (.d rfl) (.cons (.d rfl) (.cons (.d rfl) (.cons (.d rfl) .nil))))))) (.tok rfl .nil)))⟩⟩
  ·replace hm := iteF hc2 hm
   refine AW.exit (tq_exit (tq_exit ?_))
   obtain rfl := Option.some.inj hm
   obtain rfl := Option.some.inj hI1
   replace hm := hk1
   try dsimp only at hm
   refine bq_hit (nq (zr (zs (op_moveT .r) (zs (op_assignT .r) (za rfl (zn (AW.ret ?_)))))))
   obtain rfl := Option.some.inj hm
   exact EndQ.d (.tmp .r (.tmp .r .nil)) rfl rfl

theorem m_ref03_Valid_ok {n : Nat} {a1 : (List Int)} {r : Bool} (hm : m_ref03_Valid n a1 = some r) : Fn Tryz.prog 113 [(.sl (a1.map D.i))] (.bool r) := by
 unfold m_ref03_Valid at hm
 refine Fn.of_AW (fnn := Tryz.f113) Tryz.func113 rfl (Nat.le_of_ble_eq_true rfl) (fun g0 w0 hw0 => ?_)
 refine AW.reset 0 [(0, .d (.sl (a1.map D.i)))] [] (WOK.g0 hw0 (by simp)) ⟨[], rfl, rfl, rfl, ⟨(.d rfl), trivial⟩, trivial, .nil⟩ (zr (za rfl (zn (AW.seq (zr (za rfl (zn (AW.block ?_))))))))
 obtain ⟨t_1, hI1, hk1⟩ := bindE hm
 refine AW.loopS (σ := Int) (τ := (Bool ⊕ Unit)) 0 (fun x => [(0, .d (.sl (a1.map D.i))), (3, .d (.int .i64 x))]) (fun x => []) hI1 (WOK.g0 hw0 (by simp)) ⟨[], rfl, rfl, rfl, ⟨(.d rfl), (.d rfl), trivial⟩, trivial, .nil⟩ ?_
 rintro n1 s2 hI1
 obtain ⟨y_1, hm, hI1⟩ := iterS hI1
 replace hm : m_ref03_Valid_L1 n _ s2 = some y_1 := hm
 unfold m_ref03_Valid_L1 at hm
 try dsimp only at hm
 refine AW.seq (zr (zm rfl (zm rfl (zs (op_lenM (f := D.i) (.r rfl) sl23) (zs (op_lss (.r rfl) (.r rfl)) (zn ?_))))))
 refine AW.cond (b := _) rfl (fun hc1 => ?_) (fun hc1 => ?_)
 ·replace hm := iteT hc1 hm
  refine AW.skip (nq (AW.seq (AW.block (zr (zm rfl (zm rfl ?_))))))
  obtain ⟨v3, hv3, hm⟩ := bindE hm
  refine zs (op_indexAddrM (f := D.i) (.r rfl) (.r rfl) hv3 En.i sl23) (zs (op_load_vp1 .r rfl sc3) (zs (op_lss (.r rfl) (.r rfl)) (zm rfl (AL.sF rfl rfl rfl rfl (fun g => op_moveD .r) (AL.sF rfl rfl rfl rfl (fun g => op_moveD .r) ?_)))))
  obtain ⟨v4, hv4, hm⟩ := bindE hm
  refine AL.sF rfl rfl rfl rfl (fun g => op_indexAddrM (f := D.i) (.we (nt g) rfl rfl) (.we (nt g) rfl rfl) (iteT (nt g) hv4) En.i sl23) (AL.sF rfl rfl rfl rfl (fun g => op_load_vp1 (.we (nt g) rfl) rfl sc3) (AL.sF rfl rfl rfl rfl (fun g => op_geq (.we (nt g) rfl rfl) (.r rfl)) (zs (op_or (.r rfl) rfl (fun h => (.we (nt h) rfl rfl))) (zn ?_))))
  refine AW.cond (b := _) rfl (fun hc2 => ?_) (fun hc2 => ?_)
  ·replace hm := iteT hc2 hm
   refine zr (za rfl (zn (AW.ret (bq_ret (tq_ret (tq_ret ?_))))))
   obtain rfl := Option.some.inj hm
   obtain rfl := Option.some.inj hI1
   replace hm := hk1
   try dsimp only at hm
   refine bq_ret (tq_ret ?_)
   obtain rfl := Option.some.inj hm
   exact EndQ.d (.tmp .r .nil) rfl rfl
  ·replace hm := iteF hc2 hm
   refine AW.skip (bq_n (nq (AW.region (zm rfl (zs (op_addw (.r rfl) (.r rfl)) (za rfl (zn ?_)))))))
   obtain rfl := Option.some.inj hm
   exact nq ⟨_, hI1, ⟨[], rfl, rfl, rfl, ⟨(.d rfl), (.d rfl), trivial⟩, trivial, .nil⟩⟩
 ·replace hm := iteF hc1 hm
  refine AW.exit (tq_exit (tq_exit ?_))
  obtain rfl := Option.some.inj hm
  obtain rfl := Option.some.inj hI1
  replace hm := hk1
  try dsimp only at hm
  refine bq_hit (nq (zr (zm rfl (zs (op_lenM (f := D.i) (.r rfl) sl23) (zs (op_leq (.r rfl) (.r rfl)) (zm rfl (AL.sT rfl rfl rfl rfl (fun g => op_moveD .r) (AL.sT rfl rfl rfl rfl (fun g => op_lenM (f := D.i) (.we g rfl rfl) sl23) (AL.sT rfl rfl rfl rfl (fun g => op_eql (.we g rfl rfl) (.r rfl)) (AL.sT rfl rfl rfl rfl (fun g => op_moveD (.we g rfl)) (AL.sFF rfl rfl rfl rfl (fun gp g => op_moveD .r) (AL.sFF rfl rfl rfl rfl (fun gp g => op_moveD .r) (AL.sFF rfl rfl rfl rfl (fun gp g => op_lenM (f := D.i) (.we (an gp (nt g)) rfl rfl) sl23) (AL.sFF rfl rfl rfl rfl (fun gp g => op_subw (.we (an gp (nt g)) rfl rfl) (.r rfl)) ?_))))))))))))))
  obtain ⟨v5, hv5, hm⟩ := bindE hm
  refine AL.sFF rfl rfl rfl rfl (fun gp g => op_indexAddrM (f := D.i) (.we (an gp (nt g)) rfl rfl) (.we (an gp (nt g)) rfl rfl) (iteT (an gp (nt g)) hv5) En.i sl23) (AL.sFF rfl rfl rfl rfl (fun gp g => op_load_vp1 (.we (an gp (nt g)) rfl) rfl sc3) (AL.sFF rfl rfl rfl rfl (fun gp g => op_neq (.we (an gp (nt g)) rfl rfl) (.r rfl)) (AL.sT rfl rfl rfl rfl (fun g => op_or (.we g rfl rfl) rfl (fun h => (.we (an g (nt h)) rfl rfl))) (zs (op_and (.r rfl) (fun h => (.we h rfl rfl)) rfl) (za rfl (zn (AW.ret ?_)))))))
  obtain rfl := Option.some.inj hm
  exact EndQ.d (.tmp .r .nil) rfl rfl

theorem m_ref03_trim_ok {n : Nat} {a1 : (List Int)} {r : (List Int)} (hm : m_ref03_trim n a1 = some r) : Fn Tryz.prog 126 [(.sl (a1.map D.i))] (.sl (r.map D.i)) := by
 unfold m_ref03_trim at hm
 refine Fn.of_AW (fnn := Tryz.f126) Tryz.func126 rfl (Nat.le_of_ble_eq_true rfl) (fun g0 w0 hw0 => ?_)
 refine AW.reset 0 [(0, .d (.sl (a1.map D.i)))] [] (WOK.g0 hw0 (by simp)) ⟨[], rfl, rfl, rfl, ⟨(.d rfl), trivial⟩, trivial, .nil⟩ (zr (zs (op_assignN .r) (zn (zr (zm rfl (zs (op_lenM (f := D.i) (.r rfl) sl23) (za rfl (zn (AW.seq (AW.block ?_))))))))))
 obtain ⟨t_1, hI1, hk1⟩ := bindE hm
 refine AW.loopS (σ := Int) (τ := Int) 0 (fun x => [(0, .d (.sl (a1.map D.i))), (3, .d (.int .i64 x))]) (fun x => []) hI1 (WOK.g0 hw0 (by simp)) ⟨[], rfl, rfl, rfl, ⟨(.d rfl), (.d rfl), trivial⟩, trivial, .nil⟩ ?_
 rintro n1 s2 hI1
 obtain ⟨y_1, hm, hI1⟩ := iterS hI1
 replace hm : m_ref03_trim_L1 n _ s2 = some y_1 := hm
 unfold m_ref03_trim_L1 at hm
 try dsimp only at hm
 refine AW.seq (zr (zm rfl (zs (op_gtr (.r rfl) (.r rfl)) (zm rfl (AL.sT rfl rfl rfl rfl (fun g => op_moveD .r) (AL.sT rfl rfl rfl rfl (fun g => op_moveD .r) (AL.sT rfl rfl rfl rfl (fun g => op_subw (.we g rfl rfl) (.r rfl)) ?_)))))))
 obtain ⟨v3, hv3, hm⟩ := bindE hm
 refine AL.sT rfl rfl rfl rfl (fun g => op_indexAddrM (f := D.i) (.we g rfl rfl) (.we g rfl rfl) (iteT g hv3) En.i sl23) (AL.sT rfl rfl rfl rfl (fun g => op_load_vp1 (.we g rfl) rfl sc3) (AL.sT rfl rfl rfl rfl (fun g => op_eql (.we g rfl rfl) (.r rfl)) (zs (op_and (.r rfl) (fun h => (.we h rfl rfl)) rfl) (zn ?_))))
 refine AW.cond (b := _) rfl (fun hc1 => ?_) (fun hc1 => ?_)
 ·replace hm := iteT hc1 hm
  refine AW.skip (nq (AW.block (AW.region (zm rfl (zs (op_subw (.r rfl) (.r rfl)) (za rfl (zn (bq_n ?_))))))))
  obtain rfl := Option.some.inj hm
  exact nq ⟨_, hI1, ⟨[], rfl, rfl, rfl, ⟨(.d rfl), (.d rfl), trivial⟩, trivial, .nil⟩⟩
 ·replace hm := iteF hc1 hm
  refine AW.exit (tq_exit (tq_exit ?_))
  obtain rfl := Option.some.inj hm
  obtain rfl := Option.some.inj hI1
  replace hm := hk1
  try dsimp only at hm
  refine bq_hit (nq (zr (zs (op_buildSlice (ds := ([] : List Int).map D.i) sl23 .nil rfl (by decide)) (zm rfl (zm rfl ?_)))))
  obtain ⟨v4, hv4, hm⟩ := bindE hm
  refine zs (op_sliceM (f := D.i) (.r rfl) sl23 rfl (.r rfl) En.i hv4) ?_
  obtain ⟨v5, hv5, hm⟩ := bindE hm
  refine zs (op_appendEM (n := 0) (f := D.i) (l := ([] : List Int)) (l' := v4) sl23 .r (.r rfl) rfl En.i hv5) (zs (op_assignT .r) (zn (AW.ret ?_)))
  obtain rfl := Option.some.inj hm
  exact EndQ.d (.tmp .r .nil) rfl rfl

theorem m_ref03_times_ok {n : Nat} {a1 : (List Int)} {a2 : (List Int)} {r : (List Int)} (hm : m_ref03_times n a1 a2 = some r) : Fn Tryz.prog 114 [(.sl (a1.map D.i)), (.sl (a2.map D.i))] (.sl (r.map D.i)) := by
 unfold m_ref03_times at hm
 refine Fn.of_AW (fnn := Tryz.f114) Tryz.func114 rfl (Nat.le_of_ble_eq_true rfl) (fun g0 w0 hw0 => ?_)
 refine AW.reset 0 [(0, .d (.sl (a1.map D.i))), (1, .d (.sl (a2.map D.i)))] [] (WOK.g0 hw0 (by simp)) ⟨[], rfl, rfl, rfl, ⟨(.d rfl), (.d rfl), trivial⟩, trivial, .nil⟩ (zr (zs (op_assignN .r) (zn (zr (zm rfl (zs (op_lenM (f := D.i) (.r rfl) sl23) (zm rfl (zs (op_lenM (f := D.i) (.r rfl) sl23) (zs (op_addw (.r rfl) (.r rfl)) ?_)))))))))
 obtain ⟨v3, hv3, hm⟩ := bindE hm
 refine zs (op_makeM (n := 0) (f := D.i) (.r rfl) sl23 zr3 rfl rfl hv3) (zs (op_assignH .r) (zn (AW.seq (zr (za rfl (zn (AW.block ?_)))))))
 obtain ⟨t_1, hI1, hk1⟩ := bindE hm
 refine AW.loopS (σ := (Int × (List Int))) (τ := (List Int)) 0 (fun x => [(0, .d (.sl (a1.map D.i))), (1, .d (.sl (a2.map D.i))), (5, .hs 0 0 x.2.length 1), (6, .d (.int .i64 x.1))]) (fun x => [.lst (x.2.map D.i) 3 1]) hI1 (WOK.g0 hw0 (by simp)) ⟨[0], rfl, rfl, rfl, ⟨(.d rfl), (.d rfl), (.hs rfl rfl), (.d rfl), trivial⟩, trivial, (.lst rfl .nil)⟩ ?_
 rintro n1 ⟨s4, s5⟩ hI1
 obtain ⟨y_1, hm, hI1⟩ := iterS hI1
 replace hm : m_ref03_times_L1 n _ _ s4 s5 = some y_1 := hm
 unfold m_ref03_times_L1 at hm
 try dsimp only at hm
 refine AW.seq (zr (zm rfl (zm rfl (zs (op_lenM (f := D.i) (.r rfl) sl23) (zs (op_lss (.r rfl) (.r rfl)) (zn ?_))))))
 refine AW.cond (b := _) rfl (fun hc1 => ?_) (fun hc1 => ?_)
 ·replace hm := iteT hc1 hm
  refine AW.skip (nq (AW.seq (AW.block (zr (za rfl (zn (AW.seq (zr (za rfl (zn (AW.block ?_)))))))))))
  obtain ⟨t_2, hI2, hk2⟩ := bindE hm
  refine AW.loopS (σ := (Int × Int × (List Int))) (τ := (Int × (List Int))) 0 (fun x => [(0, .d (.sl (a1.map D.i))), (1, .d (.sl (a2.map D.i))), (5, .hs 0 0 x.2.2.length 1), (6, .d (.int .i64 s4)), (7, .d (.int .i64 x.1)), (8, .d (.int .i64 x.2.1))]) (fun x => [.lst (x.2.2.map D.i) 3 1]) hI2 (WOK.g0 hw0 (by simp)) ⟨[0], rfl, rfl, rfl, ⟨(.d rfl), (.d rfl), (.hs rfl rfl), (.d rfl), (.d rfl), (.d rfl), trivial⟩, trivial, (.lst rfl .nil)⟩ ?_
  rintro n2 ⟨s6, s7, s8⟩ hI2
  obtain ⟨y_2, hm, hI2⟩ := iterS hI2
  replace hm : m_ref03_times_L2 n _ _ _ s6 s7 s8 = some y_2 := hm
  unfold m_ref03_times_L2 at hm
  try dsimp only at hm
  refine AW.seq (zr (zm rfl (zm rfl (zs (op_lenM (f := D.i) (.r rfl) sl23) (zs (op_lss (.r rfl) (.r rfl)) (zn ?_))))))
  refine AW.cond (b := _) rfl (fun hc2 => ?_) (fun hc2 => ?_)
  ·replace hm := iteT hc2 hm
   refine AW.skip (nq (AW.seq (AW.block (AW.seqD [([], []), ([], []), ([], []), ([], []), ([], []), ([0], []), ([0], []), ([], []), ([], []), ([], []), ([], []), ([], []), ([], []), ([], []), ([], []), ([], []), ([], []), ([], []), ([], [])] mo (by decide +kernel) (AD.s (ws := []) rfl rfl (fun H' _ hH => op_moveD .r) (AD.s (ws := []) rfl rfl (fun H' _ hH => op_moveH .r) (AD.s (ws := []) rfl rfl (fun H' _ hH => op_moveD .r) (AD.s (ws := []) rfl rfl (fun H' _ hH => op_moveD .r) (AD.s (ws := []) rfl rfl (fun H' _ hH => op_addw (.r rfl) (.r rfl)) ?_)))))))))
   obtain ⟨v9, hv9, hm⟩ := bindE hm
   refine AD.s (ws := []) rfl rfl (fun H' _ hH => op_indexAddr_hs (f := D.i) (l := s8) .r ((hH _ (by simp)).trans rfl) rfl (.r rfl) hv9 sl23) ?_
   obtain ⟨v10, hv10, hm⟩ := bindE hm
   refine AD.s (ws := []) rfl rfl (fun H' _ hH => op_load_lp (f := D.i) (fun _ => rfl) .r ((hH _ (by simp)).trans rfl) hv10 sc3) (AD.s (ws := []) rfl rfl (fun H' _ hH => op_moveD .r) (AD.s (ws := []) rfl rfl (fun H' _ hH => op_moveD .r) ?_))
   obtain ⟨v11, hv11, hm⟩ := bindE hm
   refine AD.s (ws := []) rfl rfl (fun H' _ hH => op_indexAddrM (f := D.i) (.r rfl) (.r rfl) hv11 En.i sl23) (AD.s (ws := []) rfl rfl (fun H' _ hH => op_load_vp1 .r rfl sc3) (AD.s (ws := []) rfl rfl (fun H' _ hH => op_moveD .r) (AD.s (ws := []) rfl rfl (fun H' _ hH => op_moveD .r) ?_)))
   obtain ⟨v12, hv12, hm⟩ := bindE hm
   refine AD.s (ws := []) rfl rfl (fun H' _ hH => op_indexAddrM (f := D.i) (.r rfl) (.r rfl) hv12 En.i sl23) (AD.s (ws := []) rfl rfl (fun H' _ hH => op_load_vp1 .r rfl sc3) (AD.s (ws := []) rfl rfl (fun H' _ hH => op_mulw (.r rfl) (.r rfl)) (AD.s (ws := []) rfl rfl (fun H' _ hH => op_addw (.r rfl) (.r rfl)) (AD.s (ws := []) rfl rfl (fun H' _ hH => op_addw (.r rfl) (.r rfl)) (AD.s (ws := []) rfl rfl (fun H' _ hH => op_assignD .r) (AD.nil (zr (zs (op_moveH .r) (zm rfl (zm rfl (zs (op_addw (.r rfl) (.r rfl)) (zm rfl ?_))))))))))))
   obtain ⟨v13, hv13, hm⟩ := bindE hm
   refine zs (op_remM (.r rfl) (.r rfl) hv13) ?_
   obtain ⟨v14, hv14, hm⟩ := bindE hm
   refine zs (op_indexAddr_hs (f := D.i) (l := s8) .r rfl rfl (.r rfl) hv14 sl23) ?_
   obtain ⟨v15, hv15, hm⟩ := bindE hm
   refine zs (op_store_lp (f := D.i) (fun _ => rfl) .r (.r rfl) rfl hv15 ⟨_, rfl, rfl⟩ En.i) (zn (AW.region (zm rfl ?_)))
   obtain ⟨v16, hv16, hm⟩ := bindE hm
   refine zs (op_quoM (.r rfl) (.r rfl) hv16) (za rfl (zn (bq_n (nq (AW.region (zm rfl (zs (op_addw (.r rfl) (.r rfl)) (za rfl (zn ?_)))))))))
   obtain rfl := Option.some.inj hm
   exact nq ⟨_, hI2, ⟨[0], rfl, rfl, rfl, ⟨(.d rfl), (.d rfl), (.hs rfl (setI_len hv15).symm), (.d rfl), (.d rfl), (.d rfl), trivial⟩, trivial, (.lst rfl .nil)⟩⟩
  ·replace hm := iteF hc2 hm
   refine AW.exit (tq_exit (tq_exit ?_))
   obtain rfl := Option.some.inj hm
   obtain rfl := Option.some.inj hI2
   replace hm := hk2
   try dsimp only at hm
   refine bq_hit (nq (AW.region (zs (op_moveH .r) (zm rfl (zm rfl (zs (op_lenM (f := D.i) (.r rfl) sl23) (zs (op_addw (.r rfl) (.r rfl)) (zm rfl ?_))))))))
   obtain ⟨v17, hv17, hm⟩ := bindE hm
   refine zs (op_indexAddr_hs (f := D.i) (l := s8) .r rfl rfl (.r rfl) hv17 sl23) ?_
   obtain ⟨v18, hv18, hm⟩ := bindE hm
   refine zs (op_store_lp (f := D.i) (fun _ => rfl) .r (.r rfl) rfl hv18 ⟨_, rfl, rfl⟩ En.i) (zn (bq_n (nq (AW.reset 0 [(0, .d (.sl (a1.map D.i))), (1, .d (.sl (a2.map D.i))), (5, .hs 0 0 v18.length 1), (6, .d (.int .i64 s4))] [.lst (v18.map D.i) 3 1] (WOK.g0 hw0 (by simp)) ⟨[0], rfl, rfl, rfl, ⟨(.d rfl), (.d rfl), (.hs rfl (setI_len hv18).symm), (.d rfl), trivial⟩, trivial, (.lst rfl .nil)⟩ (AW.region (zm rfl (zs (op_addw (.r rfl) (.r rfl)) (za rfl (zn ?_)))))))))
   obtain rfl := Option.some.inj hm
   exact nq ⟨_, hI1, ⟨[0], rfl, rfl, rfl, ⟨(.d rfl), (.d rfl), (.hs rfl rfl), (.d rfl), trivial⟩, trivial, (.lst rfl .nil)⟩⟩
 ·replace hm := iteF hc1 hm
  refine AW.exit (tq_exit (tq_exit ?_))
  obtain rfl := Option.some.inj hm
  obtain rfl := Option.some.inj hI1
  replace hm := hk1
  try dsimp only at hm
  refine bq_hit (nq (AW.freeze (f := D.i) (l := s5) 0 [5] rfl rfl En.i ⟨rfl, trivial⟩ (zr (zm rfl ?_))))
  obtain ⟨v19, hv19, hm⟩ := bindE hm
  refine zs (op_fn Tryz.call126 .r (.cons (.r rfl) .nil) (m_ref03_trim_ok hv19)) (za rfl (zn (AW.ret ?_)))
  obtain rfl := Option.some.inj hm
  exact EndQ.d (.tmp .r .nil) rfl rfl

theorem m_ref03_limited_ok {n : Nat} {a1 : (List Int)} {r : ((List Int) × Int)} (hm : m_ref03_limited n a1 = some r) : Fn Tryz.prog 115 [(.sl (a1.map D.i))] (.tup [(.sl (r.1.map D.i)), (.int .i64 r.2)]) := by
 unfold m_ref03_limited at hm
 refine Fn.of_AW (fnn := Tryz.f115) Tryz.func115 rfl (Nat.le_of_ble_eq_true rfl) (fun g0 w0 hw0 => ?_)
 refine zr (zs (op_assignN .r) (za rfl (zn (AW.seq (zr (zm rfl ?_))))))
 obtain ⟨v2, hv2, hm⟩ := bindE hm
 refine zs (op_fn Tryz.call126 .r (.cons (.r rfl) .nil) (m_ref03_trim_ok hv2)) (za rfl (zn (zr (zm rfl (zs (op_lenM (f := D.i) (.r rfl) sl23) (zs (op_gtr (.r rfl) (.r rfl)) (zn ?_)))))))
 refine AW.cond (b := _) rfl (fun hc1 => ?_) (fun hc1 => ?_)
 ·replace hm := iteT hc1 hm
  refine zr (zs (op_assignN .r) (za rfl (zn (AW.ret (tq_ret ?_)))))
  obtain rfl := Option.some.inj hm
  exact EndQ.d (.tmp .r (.tmp .r .nil)) rfl rfl
 ·replace hm := iteF hc1 hm
  refine AW.skip (nq (zr (zm rfl (za rfl (za rfl (zn (AW.ret ?_)))))))
  obtain rfl := Option.some.inj hm
  exact EndQ.d (.tmp .r (.tmp .r .nil)) rfl rfl

theorem m_ref03_Mul_ok {n : Nat} {a1 : (List Int)} {a2 : (List Int)} {r : ((List Int) × Int)} (hm : m_ref03_Mul n a1 a2 = some r) : Fn Tryz.prog 110 [(.sl (a1.map D.i)), (.sl (a2.map D.i))] (.tup [(.sl (r.1.map D.i)), (.int .i64 r.2)]) := by
 unfold m_ref03_Mul at hm
 refine Fn.of_AW (fnn := Tryz.f110) Tryz.func110 rfl (Nat.le_of_ble_eq_true rfl) (fun g0 w0 hw0 => ?_)
 refine zr (zs (op_assignN .r) (za rfl (zn (AW.seq (zr (zm rfl ?_))))))
 obtain ⟨v3, hv3, hm⟩ := bindE hm
 refine zs (op_fn Tryz.call113 .r (.cons (.r rfl) .nil) (m_ref03_Valid_ok hv3)) (zs (op_not (.r rfl)) (zm rfl (AL.sF rfl rfl rfl rfl (fun g => op_moveD .r) ?_)))
 obtain ⟨v4, hv4, hm⟩ := bindE hm
 refine AL.sF rfl rfl rfl rfl (fun g => op_fn Tryz.call113 .r (.cons (.we (nt g) rfl rfl) .nil) (m_ref03_Valid_ok (iteT (nt g) hv4))) (AL.sF rfl rfl rfl rfl (fun g => op_not (.we (nt g) rfl rfl)) (zs (op_or (.r rfl) rfl (fun h => (.we (nt h) rfl rfl))) (zn ?_)))
 refine AW.cond (b := _) rfl (fun hc1 => ?_) (fun hc1 => ?_)
 ·replace hm := iteT hc1 hm
  refine zr (zs (op_assignN .r) (za rfl (zn (AW.ret (tq_ret ?_)))))
  obtain rfl := Option.some.inj hm
  exact EndQ.d (.tmp .r (.tmp .r .nil)) rfl rfl
 ·replace hm := iteF hc1 hm
  refine AW.skip (nq (zr (zm rfl (zm rfl ?_))))
  obtain ⟨v5, hv5, hm⟩ := bindE hm
  refine zs (op_fn Tryz.call114 .r (.cons (.r rfl) (.cons (.r rfl) .nil)) (m_ref03_times_ok hv5)) ?_
  obtain ⟨v6, hv6, hm⟩ := bindE hm
  refine zs (op_fn Tryz.call115 .r (.cons (.r rfl) .nil) (m_ref03_limited_ok hv6)) (zs (op_extractD .r rfl) (zs (op_extractD .r rfl) (za rfl (za rfl (zn (AW.ret ?_))))))
  obtain rfl := Option.some.inj hm
  exact EndQ.d (.tmp .r (.tmp .r .nil)) rfl rfl

theorem m_ref03_compare_ok {n : Nat} {a1 : (List Int)} {a2 : (List Int)} {r : Int} (hm : m_ref03_compare n a1 a2 = some r) : Fn Tryz.prog 116 [(.sl (a1.map D.i)), (.sl (a2.map D.i))] (.int .i64 r) := by
 unfold m_ref03_compare at hm
 refine Fn.of_AW (fnn := Tryz.f116) Tryz.func116 rfl (Nat.le_of_ble_eq_true rfl) (fun g0 w0 hw0 => ?_)
 refine AW.reset 0 [(0, .d (.sl (a1.map D.i))), (1, .d (.sl (a2.map D.i)))] [] (WOK.g0 hw0 (by simp)) ⟨[], rfl, rfl, rfl, ⟨(.d rfl), (.d rfl), trivial⟩, trivial, .nil⟩ (zr (za rfl (zn (AW.seq (zr (zm rfl (zs (op_lenM (f := D.i) (.r rfl) sl23) (zm rfl (zs (op_lenM (f := D.i) (.r rfl) sl23) (zs (op_neq (.r rfl) (.r rfl)) (zn ?_)))))))))))
 refine AW.cond (b := _) rfl (fun hc1 => ?_) (fun hc1 => ?_)
 ·replace hm := iteT hc1 hm
  refine AW.seq (zr (zm rfl (zs (op_lenM (f := D.i) (.r rfl) sl23) (zm rfl (zs (op_lenM (f := D.i) (.r rfl) sl23) (zs (op_lss (.r rfl) (.r rfl)) (zn ?_)))))))
  refine AW.cond (b := _) rfl (fun hc2 => ?_) (fun hc2 => ?_)
  ·replace hm := iteT hc2 hm
   refine zr (za rfl (zn (AW.ret (tq_ret (tq_ret ?_)))))
   obtain rfl := Option.some.inj hm
   exact EndQ.d (.tmp .r .nil) rfl rfl
  ·replace hm := iteF hc2 hm
   refine AW.skip (nq (zr (za rfl (zn (AW.ret (tq_ret ?_))))))
   obtain rfl := Option.some.inj hm
   exact EndQ.d (.tmp .r .nil) rfl rfl
 ·replace hm := iteF hc1 hm
  refine AW.skip (nq (AW.seq (zr (zm rfl (zs (op_lenM (f := D.i) (.r rfl) sl23) (zs (op_subw (.r rfl) (.r rfl)) (za rfl (zn (AW.block ?_)))))))))
  obtain ⟨t_1, hI1, hk1⟩ := bindE hm
  refine AW.loopS (σ := Int) (τ := (Int ⊕ Unit)) 0 (fun x => [(0, .d (.sl (a1.map D.i))), (1, .d (.sl (a2.map D.i))), (5, .d (.int .i64 x))]) (fun x => []) hI1 (WOK.g0 hw0 (by simp)) ⟨[], rfl, rfl, rfl, ⟨(.d rfl), (.d rfl), (.d rfl), trivial⟩, trivial, .nil⟩ ?_
  rintro n1 s3 hI1
  obtain ⟨y_1, hm, hI1⟩ := iterS hI1
  replace hm : m_ref03_compare_L1 n _ _ s3 = some y_1 := hm
  unfold m_ref03_compare_L1 at hm
  try dsimp only at hm
  refine AW.seq (zr (zm rfl (zs (op_geq (.r rfl) (.r rfl)) (zn ?_))))
  refine AW.cond (b := _) rfl (fun hc3 => ?_) (fun hc3 => ?_)
  ·replace hm := iteT hc3 hm
   refine AW.skip (nq (AW.seq (AW.block (AW.seq (AW.seqD [([], []), ([], []), ([], []), ([], []), ([], []), ([], []), ([], []), ([], []), ([], [])] mo (by decide +kernel) (AD.s (ws := []) rfl rfl (fun H' _ hH => op_moveD .r) (AD.s (ws := []) rfl rfl (fun H' _ hH => op_moveD .r) ?_)))))))
   obtain ⟨v4, hv4, hm⟩ := bindE hm
   refine AD.s (ws := []) rfl rfl (fun H' _ hH => op_indexAddrM (f := D.i) (.r rfl) (.r rfl) hv4 En.i sl23) (AD.s (ws := []) rfl rfl (fun H' _ hH => op_load_vp1 .r rfl sc3) (AD.s (ws := []) rfl rfl (fun H' _ hH => op_moveD .r) (AD.s (ws := []) rfl rfl (fun H' _ hH => op_moveD .r) ?_)))
   obtain ⟨v5, hv5, hm⟩ := bindE hm
   refine AD.s (ws := []) rfl rfl (fun H' _ hH => op_indexAddrM (f := D.i) (.r rfl) (.r rfl) hv5 En.i sl23) (AD.s (ws := []) rfl rfl (fun H' _ hH => op_load_vp1 .r rfl sc3) (AD.s (ws := []) rfl rfl (fun H' _ hH => op_lss (.r rfl) (.r rfl)) (AD.nil ?_)))
   refine AW.cond (b := _) rfl (fun hc4 => ?_) (fun hc4 => ?_)
   ·replace hm := iteT hc4 hm
    refine zr (za rfl (zn (AW.ret (tq_ret (bq_ret (tq_ret (tq_ret ?_)))))))
    obtain rfl := Option.some.inj hm
    obtain rfl := Option.some.inj hI1
    replace hm := hk1
    try dsimp only at hm
    refine bq_ret (tq_ret ?_)
    obtain rfl := Option.some.inj hm
    exact EndQ.d (.tmp .r .nil) rfl rfl
   ·replace hm := iteF hc4 hm
    refine AW.skip (nq (AW.seqD [([], []), ([], []), ([], []), ([], []), ([], []), ([], []), ([], []), ([], []), ([], [])] mo (by decide +kernel) (AD.s (ws := []) rfl rfl (fun H' _ hH => op_moveD .r) (AD.s (ws := []) rfl rfl (fun H' _ hH => op_moveD .r) ?_))))
    obtain ⟨v6, hv6, hm⟩ := bindE hm
    refine AD.s (ws := []) rfl rfl (fun H' _ hH => op_indexAddrM (f := D.i) (.r rfl) (.r rfl) hv6 En.i sl23) (AD.s (ws := []) rfl rfl (fun H' _ hH => op_load_vp1 .r rfl sc3) (AD.s (ws := []) rfl rfl (fun H' _ hH => op_moveD .r) (AD.s (ws := []) rfl rfl (fun H' _ hH => op_moveD .r) ?_)))
    obtain ⟨v7, hv7, hm⟩ := bindE hm
    refine AD.s (ws := []) rfl rfl (fun H' _ hH => op_indexAddrM (f := D.i) (.r rfl) (.r rfl) hv7 En.i sl23) (AD.s (ws := []) rfl rfl (fun H' _ hH => op_load_vp1 .r rfl sc3) (AD.s (ws := []) rfl rfl (fun H' _ hH => op_gtr (.r rfl) (.r rfl)) (AD.nil ?_)))
    refine AW.cond (b := _) rfl (fun hc5 => ?_) (fun hc5 => ?_)
    ·replace hm := iteT hc5 hm
     refine zr (za rfl (zn (AW.ret (bq_ret (tq_ret (tq_ret ?_))))))
     obtain rfl := Option.some.inj hm
     obtain rfl := Option.some.inj hI1
     replace hm := hk1
     try dsimp only at hm
     refine bq_ret (tq_ret ?_)
     obtain rfl := Option.some.inj hm
     exact EndQ.d (.tmp .r .nil) rfl rfl
    ·replace hm := iteF hc5 hm
     refine AW.skip (bq_n (nq (AW.region (zm rfl (zs (op_subw (.r rfl) (.r rfl)) (za rfl (zn ?_)))))))
     obtain rfl := Option.some.inj hm
     exact nq ⟨_, hI1, ⟨[], rfl, rfl, rfl, ⟨(.d rfl), (.d rfl), (.d rfl), trivial⟩, trivial, .nil⟩⟩
  ·replace hm := iteF hc3 hm
   refine AW.exit (tq_exit (tq_exit ?_))
   obtain rfl := Option.some.inj hm
   obtain rfl := Option.some.inj hI1
   replace hm := hk1
   try dsimp only at hm
   refine bq_hit (nq (zr (za rfl (zn (AW.ret ?_)))))
   obtain rfl := Option.some.inj hm
   exact EndQ.d (.tmp .r .nil) rfl rfl

theorem m_ref03_sum_ok {n : Nat} {a1 : (List Int)} {a2 : (List Int)} {r : (List Int)} (hm : m_ref03_sum n a1 a2 = some r) : Fn Tryz.prog 134 [(.sl (a1.map D.i)), (.sl (a2.map D.i))] (.sl (r.map D.i)) := by
 unfold m_ref03_sum at hm
 refine Fn.of_AW (fnn := Tryz.f134) Tryz.func134 rfl (Nat.le_of_ble_eq_true rfl) (fun g0 w0 hw0 => ?_)
 refine AW.reset 0 [(0, .d (.sl (a1.map D.i))), (1, .d (.sl (a2.map D.i)))] [] (WOK.g0 hw0 (by simp)) ⟨[], rfl, rfl, rfl, ⟨(.d rfl), (.d rfl), trivial⟩, trivial, .nil⟩ (zr (zs (op_assignN .r) (zn (zr (zs (op_assignN .r) (zn (zr (za rfl (zn (AW.seq (zr (za rfl (zn (AW.block (AW.tokenize (n := 0) 5 3 1 rfl rfl (by simp) ?_)))))))))))))))
 obtain ⟨t_1, hI1, hk1⟩ := bindE hm
 refine AW.loopS (σ := ((List Int) × Int × Int)) (τ := ((List Int) × Int)) 0 (fun x => [(0, .d (.sl (a1.map D.i))), (1, .d (.sl (a2.map D.i))), (5, .tk 0 (x.1.map D.i)), (6, .d (.int .i64 x.2.1)), (7, .d (.int .i64 x.2.2))]) (fun x => [.tok x.1.length 3 1]) hI1 (WOK.g0 hw0 (by simp)) ⟨[0], rfl, rfl, rfl, ⟨(.d rfl), (.d rfl), (.tk rfl), (.d rfl), (.d rfl), trivial⟩, trivial, (.tok rfl .nil)⟩ ?_
 rintro n1 ⟨s3, s4, s5⟩ hI1
 obtain ⟨y_1, hm, hI1⟩ := iterS hI1
 replace hm : m_ref03_sum_L1 n _ _ s3 s4 s5 = some y_1 := hm
 unfold m_ref03_sum_L1 at hm
 try dsimp only at hm
 refine AW.seq (zr (zm rfl (zm rfl (zs (op_lenM (f := D.i) (.r rfl) sl23) (zs (op_lss (.r rfl) (.r rfl)) (zm rfl (AL.sF rfl rfl rfl rfl (fun g => op_moveD .r) (AL.sF rfl rfl rfl rfl (fun g => op_moveD .r) (AL.sF rfl rfl rfl rfl (fun g => op_lenM (f := D.i) (.we (nt g) rfl rfl) sl23) (AL.sF rfl rfl rfl rfl (fun g => op_lss (.we (nt g) rfl rfl) (.we (nt g) rfl rfl)) (zs (op_or (.r rfl) rfl (fun h => (.we (nt h) rfl rfl))) (zn ?_))))))))))))
 refine AW.cond (b := _) rfl (fun hc1 => ?_) (fun hc1 => ?_)
 ·replace hm := iteT hc1 hm
  refine AW.skip (nq (AW.seq (AW.block ?_)))
  obtain ⟨t_j1, hm, hkj1⟩ := bindE hm
  refine AW.cutS (α := Int) 0 (fun x => x = t_j1) (fun x => [(0, .d (.sl (a1.map D.i))), (1, .d (.sl (a2.map D.i))), (5, .tk 0 (s3.map D.i)), (6, .d (.int .i64 x)), (7, .d (.int .i64 s5))]) (fun x => [.tok s3.length 3 1]) (WOK.g0 hw0 (by simp)) ?_ ?_
  ·skip
   refine zr (zm rfl (zm rfl (zs (op_lenM (f := D.i) (.r rfl) sl23) (zs (op_lss (.r rfl) (.r rfl)) (zn ?_)))))
   refine AW.cond (b := _) rfl (fun hc2 => ?_) (fun hc2 => ?_)
   ·replace hm := iteT hc2 hm
    refine AW.region (zm rfl (zm rfl (zm rfl ?_)))
    obtain ⟨v6, hv6, hm⟩ := bindE hm
    refine zs (op_indexAddrM (f := D.i) (.r rfl) (.r rfl) hv6 En.i sl23) (zs (op_load_vp1 .r rfl sc3) (zs (op_addw (.r rfl) (.r rfl)) (za rfl (zn ?_))))
    obtain rfl := Option.some.inj hm
    exact nq ⟨_, rfl, ⟨[0], rfl, rfl, rfl, ⟨(.d rfl), (.d rfl), (.tk rfl), (.d rfl), (.d rfl), trivial⟩, trivial, (.tok rfl .nil)⟩⟩
   ·replace hm := iteF hc2 hm
    refine AW.skip ?_
    obtain rfl := Option.some.inj hm
    exact nq ⟨_, rfl, ⟨[0], rfl, rfl, rfl, ⟨(.d rfl), (.d rfl), (.tk rfl), (.d rfl), (.d rfl), trivial⟩, trivial, (.tok rfl .nil)⟩⟩
  ·rintro s7 rfl
   replace hm := hkj1
   try dsimp only at hm
   obtain ⟨t_j2, hm, hkj2⟩ := bindE hm
   refine AW.cutS (α := Int) 0 (fun x => x = t_j2) (fun x => [(0, .d (.sl (a1.map D.i))), (1, .d (.sl (a2.map D.i))), (5, .tk 0 (s3.map D.i)), (6, .d (.int .i64 x)), (7, .d (.int .i64 s5))]) (fun x => [.tok s3.length 3 1]) (WOK.g0 hw0 (by simp)) ?_ ?_
   ·skip
    refine zr (zm rfl (zm rfl (zs (op_lenM (f := D.i) (.r rfl) sl23) (zs (op_lss (.r rfl) (.r rfl)) (zn ?_)))))
    refine AW.cond (b := _) rfl (fun hc3 => ?_) (fun hc3 => ?_)
    ·replace hm := iteT hc3 hm
     refine AW.region (zm rfl (zm rfl (zm rfl ?_)))
     obtain ⟨v8, hv8, hm⟩ := bindE hm
     refine zs (op_indexAddrM (f := D.i) (.r rfl) (.r rfl) hv8 En.i sl23) (zs (op_load_vp1 .r rfl sc3) (zs (op_addw (.r rfl) (.r rfl)) (za rfl (zn ?_))))
     obtain rfl := Option.some.inj hm
     exact nq ⟨_, rfl, ⟨[0], rfl, rfl, rfl, ⟨(.d rfl), (.d rfl), (.tk rfl), (.d rfl), (.d rfl), trivial⟩, trivial, (.tok rfl .nil)⟩⟩
    ·replace hm := iteF hc3 hm
     refine AW.skip ?_
     obtain rfl := Option.some.inj hm
     exact nq ⟨_, rfl, ⟨[0], rfl, rfl, rfl, ⟨(.d rfl), (.d rfl), (.tk rfl), (.d rfl), (.d rfl), trivial⟩, trivial, (.tok rfl .nil)⟩⟩
   ·rintro s9 rfl
    replace hm := hkj2
    try dsimp only at hm
    refine zr (zs (op_moveT .r) (zm rfl ?_))
    obtain ⟨v10, hv10, hm⟩ := bindE hm
    refine zs (op_remM (.r rfl) (.r rfl) hv10) (zs (op_buildSlice (ds := ([v10] : List Int).map D.i) sl23 (.cons (.r rfl) rfl (En.i.one _) .nil) rfl (by decide)) ?_)
    obtain ⟨v11, hv11, hm⟩ := bindE hm
    refine zs (op_appendM (f := D.i) (l' := ([v10] : List Int)) sl23 .r (.r rfl) rfl rfl En.i hv11) (zs (op_assignT .r) (zn (AW.region (zm rfl ?_))))
    obtain ⟨v12, hv12, hm⟩ := bindE hm
    refine zs (op_quoM (.r rfl) (.r rfl) hv12) (za rfl (zn (bq_n (nq (AW.region (zm rfl (zs (op_addw (.r rfl) (.r rfl)) (za rfl (zn ?_)))))))))
    obtain rfl := Option.some.inj hm
    exact nq ⟨_, hI1, ⟨[0], rfl, rfl, rfl, ⟨(.d rfl), (.d rfl), (.tk rfl), (.d rfl), (.d rfl), trivial⟩, trivial, (.tok rfl .nil)⟩⟩
 ·replace hm := iteF hc1 hm
  refine AW.exit (tq_exit (tq_exit ?_))
  obtain rfl := Option.some.inj hm
  obtain rfl := Option.some.inj hI1
  replace hm := hk1
  try dsimp only at hm
  refine bq_hit (nq (zr (zs (op_moveT .r) (zm rfl (zs (op_buildSlice (ds := ([s4] : List Int).map D.i) sl23 (.cons (.r rfl) rfl (En.i.one _) .nil) rfl (by decide)) ?_)))))
  obtain ⟨v13, hv13, hm⟩ := bindE hm
  refine zs (op_appendM (f := D.i) (l' := ([s4] : List Int)) sl23 .r (.r rfl) rfl rfl En.i hv13) ?_
  obtain ⟨v14, hv14, hm⟩ := bindE hm
  refine zs (op_fn Tryz.call126 .r (.cons (.r rfl) .nil) (m_ref03_trim_ok hv14)) (za rfl (zn (AW.ret ?_)))
  obtain rfl := Option.some.inj hm
  exact EndQ.d (.tmp .r .nil) rfl rfl

theorem m_ref03_half_ok {n : Nat} {a1 : (List Int)} {r : (List Int)} (hm : m_ref03_half n a1 = some r) : Fn Tryz.prog 135 [(.sl (a1.map D.i))] (.sl (r.map D.i)) := by
 unfold m_ref03_half at hm
 refine Fn.of_AW (fnn := Tryz.f135) Tryz.func135 rfl (Nat.le_of_ble_eq_true rfl) (fun g0 w0 hw0 => ?_)
 refine AW.reset 0 [(0, .d (.sl (a1.map D.i)))] [] (WOK.g0 hw0 (by simp)) ⟨[], rfl, rfl, rfl, ⟨(.d rfl), trivial⟩, trivial, .nil⟩ (zr (zs (op_assignN .r) (zn (zr (zm rfl (zs (op_lenM (f := D.i) (.r rfl) sl23) ?_))))))
 obtain ⟨v2, hv2, hm⟩ := bindE hm
 refine zs (op_makeM (n := 0) (f := D.i) (.r rfl) sl23 zr3 rfl rfl hv2) (zs (op_assignH .r) (zn (AW.seq (zr (za rfl (zn (AW.block ?_)))))))
 obtain ⟨t_1, hI1, hk1⟩ := bindE hm
 refine AW.loopS (σ := (Int × (List Int))) (τ := (List Int)) 0 (fun x => [(0, .d (.sl (a1.map D.i))), (3, .hs 0 0 x.2.length 1), (4, .d (.int .i64 x.1))]) (fun x => [.lst (x.2.map D.i) 3 1]) hI1 (WOK.g0 hw0 (by simp)) ⟨[0], rfl, rfl, rfl, ⟨(.d rfl), (.hs rfl rfl), (.d rfl), trivial⟩, trivial, (.lst rfl .nil)⟩ ?_
 rintro n1 ⟨s3, s4⟩ hI1
 obtain ⟨y_1, hm, hI1⟩ := iterS hI1
 replace hm : m_ref03_half_L1 n _ s3 s4 = some y_1 := hm
 unfold m_ref03_half_L1 at hm
 try dsimp only at hm
 refine AW.seq (zr (zm rfl (zm rfl (zs (op_lenM (f := D.i) (.r rfl) sl23) (zs (op_lss (.r rfl) (.r rfl)) (zn ?_))))))
 refine AW.cond (b := _) rfl (fun hc1 => ?_) (fun hc1 => ?_)
 ·replace hm := iteT hc1 hm
  refine AW.skip (nq ?_)
  obtain ⟨t_j1, hm, hkj1⟩ := bindE hm
  refine AW.cutS (α := (List Int)) 0 (fun x => x = t_j1) (fun x => [(0, .d (.sl (a1.map D.i))), (3, .hs 0 0 x.length 1), (4, .d (.int .i64 s3))]) (fun x => [.lst (x.map D.i) 3 1]) (WOK.g0 hw0 (by simp)) ?_ ?_
  ·skip
   refine AW.block (zr (zs (op_moveH .r) (zm rfl (zm rfl (zm rfl ?_)))))
   obtain ⟨v5, hv5, hm⟩ := bindE hm
   refine zs (op_indexAddrM (f := D.i) (.r rfl) (.r rfl) hv5 En.i sl23) (zs (op_load_vp1 .r rfl sc3) ?_)
   obtain ⟨v6, hv6, hm⟩ := bindE hm
   refine zs (op_quoM (.r rfl) (.r rfl) hv6) ?_
   obtain ⟨v7, hv7, hm⟩ := bindE hm
   refine zs (op_indexAddr_hs (f := D.i) (l := s4) .r rfl rfl (.r rfl) hv7 sl23) ?_
   obtain ⟨v8, hv8, hm⟩ := bindE hm
   refine zs (op_store_lp (f := D.i) (fun _ => rfl) .r (.r rfl) rfl hv8 ⟨_, rfl, rfl⟩ En.i) (zn (AW.reset 0 [(0, .d (.sl (a1.map D.i))), (3, .hs 0 0 v8.length 1), (4, .d (.int .i64 s3))] [.lst (v8.map D.i) 3 1] (WOK.g0 hw0 (by simp)) ⟨[0], rfl, rfl, rfl, ⟨(.d rfl), (.hs rfl (setI_len hv8).symm), (.d rfl), trivial⟩, trivial, (.lst rfl .nil)⟩ (zr (zm rfl (zs (op_addw (.r rfl) (.r rfl)) (zm rfl (zs (op_lenM (f := D.i) (.r rfl) sl23) (zs (op_lss (.r rfl) (.r rfl)) (zm rfl (AL.sT rfl rfl rfl rfl (fun g => op_moveD .r) (AL.sT rfl rfl rfl rfl (fun g => op_moveD .r) (AL.sT rfl rfl rfl rfl (fun g => op_addw (.we g rfl rfl) (.r rfl)) ?_))))))))))))
   obtain ⟨v9, hv9, hm⟩ := bindE hm
   refine AL.sT rfl rfl rfl rfl (fun g => op_indexAddrM (f := D.i) (.we g rfl rfl) (.we g rfl rfl) (iteT g hv9) En.i sl23) (AL.sT rfl rfl rfl rfl (fun g => op_load_vp1 (.we g rfl) rfl sc3) ?_)
   obtain ⟨v10, hv10, hm⟩ := bindE hm
   refine AL.sT rfl rfl rfl rfl (fun g => op_remM (.we g rfl rfl) (.r rfl) (iteT g hv10)) (AL.sT rfl rfl rfl rfl (fun g => op_eql (.we g rfl rfl) (.r rfl)) (zs (op_and (.r rfl) (fun h => (.we h rfl rfl)) rfl) (zn ?_)))
   refine AW.cond (b := _) rfl (fun hc2 => ?_) (fun hc2 => ?_)
   ·replace hm := iteT hc2 hm
    refine AW.region (zs (op_moveH .r) (zm rfl ?_))
    obtain ⟨v11, hv11, hm⟩ := bindE hm
    refine zs (op_indexAddr_hs (f := D.i) (l := v8) .r rfl rfl (.r rfl) hv11 sl23) ?_
    obtain ⟨v12, hv12, hm⟩ := bindE hm
    refine zs (op_load_lp (f := D.i) (fun _ => rfl) .r rfl hv12 sc3) (zs (op_addw (.r rfl) (.r rfl)) ?_)
    obtain ⟨v13, hv13, hm⟩ := bindE hm
    refine zs (op_indexAddr_hs (f := D.i) (l := v8) .r rfl rfl (.r rfl) hv13 sl23) ?_
    obtain ⟨v14, hv14, hm⟩ := bindE hm
    refine zs (op_store_lp (f := D.i) (fun _ => rfl) .r (.r rfl) rfl hv14 ⟨_, rfl, rfl⟩ En.i) (zn (bq_n ?_))
    obtain rfl := Option.some.inj hm
    exact nq ⟨_, rfl, ⟨[0], rfl, rfl, rfl, ⟨(.d rfl), (.hs rfl (setI_len hv14).symm), (.d rfl), trivial⟩, trivial, (.lst rfl .nil)⟩⟩
   ·replace hm := iteF hc2 hm
    refine AW.skip (bq_n ?_)
    obtain rfl := Option.some.inj hm
    exact nq ⟨_, rfl, ⟨[0], rfl, rfl, rfl, ⟨(.d rfl), (.hs rfl rfl), (.d rfl), trivial⟩, trivial, (.lst rfl .nil)⟩⟩
  ·rintro s15 rfl
   replace hm := hkj1
   try dsimp only at hm
   refine AW.region (zm rfl (zs (op_addw (.r rfl) (.r rfl)) (za rfl (zn ?_))))
   obtain rfl := Option.some.inj hm
   exact nq ⟨_, hI1, ⟨[0], rfl, rfl, rfl, ⟨(.d rfl), (.hs rfl rfl), (.d rfl), trivial⟩, trivial, (.lst rfl .nil)⟩⟩
 ·replace hm := iteF hc1 hm
  refine AW.exit (tq_exit (tq_exit ?_))
  obtain rfl := Option.some.inj hm
  obtain rfl := Option.some.inj hI1
  replace hm := hk1
  try dsimp only at hm
  refine bq_hit (nq (AW.freeze (f := D.i) (l := s4) 0 [3] rfl rfl En.i ⟨rfl, trivial⟩ (zr (zm rfl ?_))))
  obtain ⟨v16, hv16, hm⟩ := bindE hm
  refine zs (op_fn Tryz.call126 .r (.cons (.r rfl) .nil) (m_ref03_trim_ok hv16)) (za rfl (zn (AW.ret ?_)))
  obtain rfl := Option.some.inj hm
  exact EndQ.d (.tmp .r .nil) rfl rfl

theorem m_ref03_less_ok {n : Nat} {a1 : (List Int)} {a2 : (List Int)} {r : (List Int)} (hm : m_ref03_less n a1 a2 = some r) : Fn Tryz.prog 136 [(.sl (a1.map D.i)), (.sl (a2.map D.i))] (.sl (r.map D.i)) := by
 unfold m_ref03_less at hm
 refine Fn.of_AW (fnn := Tryz.f136) Tryz.func136 rfl (Nat.le_of_ble_eq_true rfl) (fun g0 w0 hw0 => ?_)
 refine AW.reset 0 [(0, .d (.sl (a1.map D.i))), (1, .d (.sl (a2.map D.i)))] [] (WOK.g0 hw0 (by simp)) ⟨[], rfl, rfl, rfl, ⟨(.d rfl), (.d rfl), trivial⟩, trivial, .nil⟩ (zr (zs (op_assignN .r) (zn (zr (zs (op_assignN .r) (zn (zr (za rfl (zn (AW.seq (zr (za rfl (zn (AW.block (AW.tokenize (n := 0) 5 3 1 rfl rfl (by simp) ?_)))))))))))))))
 obtain ⟨t_1, hI1, hk1⟩ := bindE hm
 refine AW.loopS (σ := ((List Int) × Int × Int)) (τ := (List Int)) 0 (fun x => [(0, .d (.sl (a1.map D.i))), (1, .d (.sl (a2.map D.i))), (5, .tk 0 (x.1.map D.i)), (6, .d (.int .i64 x.2.1)), (7, .d (.int .i64 x.2.2))]) (fun x => [.tok x.1.length 3 1]) hI1 (WOK.g0 hw0 (by simp)) ⟨[0], rfl, rfl, rfl, ⟨(.d rfl), (.d rfl), (.tk rfl), (.d rfl), (.d rfl), trivial⟩, trivial, (.tok rfl .nil)⟩ ?_
 rintro n1 ⟨s3, s4, s5⟩ hI1
 obtain ⟨y_1, hm, hI1⟩ := iterS hI1
 replace hm : m_ref03_less_L1 n _ _ s3 s4 s5 = some y_1 := hm
 unfold m_ref03_less_L1 at hm
 try dsimp only at hm
 refine AW.seq (zr (zm rfl (zm rfl (zs (op_lenM (f := D.i) (.r rfl) sl23) (zs (op_lss (.r rfl) (.r rfl)) (zn ?_))))))
 refine AW.cond (b := _) rfl (fun hc1 => ?_) (fun hc1 => ?_)
 ·replace hm := iteT hc1 hm
  refine AW.skip (nq (AW.seq (AW.block (zr (zm rfl (zm rfl ?_))))))
  obtain ⟨v6, hv6, hm⟩ := bindE hm
  refine zs (op_indexAddrM (f := D.i) (.r rfl) (.r rfl) hv6 En.i sl23) (zs (op_load_vp1 .r rfl sc3) (zm rfl (zs (op_subw (.r rfl) (.r rfl)) (za rfl (zn ?_)))))
  obtain ⟨t_j1, hm, hkj1⟩ := bindE hm
  refine AW.cutS (α := Int) 0 (fun x => x = t_j1) (fun x => [(0, .d (.sl (a1.map D.i))), (1, .d (.sl (a2.map D.i))), (5, .tk 0 (s3.map D.i)), (7, .d (.int .i64 s5)), (8, .d (.int .i64 x))]) (fun x => [.tok s3.length 3 1]) (WOK.g0 hw0 (by simp)) ?_ ?_
  ·skip
   refine zr (zm rfl (zm rfl (zs (op_lenM (f := D.i) (.r rfl) sl23) (zs (op_lss (.r rfl) (.r rfl)) (zn ?_)))))
   refine AW.cond (b := _) rfl (fun hc2 => ?_) (fun hc2 => ?_)
   ·replace hm := iteT hc2 hm
    refine AW.region (zm rfl (zm rfl (zm rfl ?_)))
    obtain ⟨v7, hv7, hm⟩ := bindE hm
    refine zs (op_indexAddrM (f := D.i) (.r rfl) (.r rfl) hv7 En.i sl23) (zs (op_load_vp1 .r rfl sc3) (zs (op_subw (.r rfl) (.r rfl)) (za rfl (zn ?_))))
    obtain rfl := Option.some.inj hm
    exact nq ⟨_, rfl, ⟨[0], rfl, rfl, rfl, ⟨(.d rfl), (.d rfl), (.tk rfl), (.d rfl), (.d rfl), trivial⟩, trivial, (.tok rfl .nil)⟩⟩
   ·replace hm := iteF hc2 hm
    refine AW.skip ?_
    obtain rfl := Option.some.inj hm
    exact nq ⟨_, rfl, ⟨[0], rfl, rfl, rfl, ⟨(.d rfl), (.d rfl), (.tk rfl), (.d rfl), (.d rfl), trivial⟩, trivial, (.tok rfl .nil)⟩⟩
  ·rintro s8 rfl
   replace hm := hkj1
   try dsimp only at hm
   refine zr (za rfl (zn ?_))
   obtain ⟨t_j2, hm, hkj2⟩ := bindE hm
   refine AW.cutS (α := (Int × Int)) 0 (fun x => x = t_j2) (fun x => [(0, .d (.sl (a1.map D.i))), (1, .d (.sl (a2.map D.i))), (5, .tk 0 (s3.map D.i)), (6, .d (.int .i64 x.1)), (7, .d (.int .i64 s5)), (8, .d (.int .i64 x.2))]) (fun x => [.tok s3.length 3 1]) (WOK.g0 hw0 (by simp)) ?_ ?_
   ·skip
    refine zr (zm rfl (zs (op_lss (.r rfl) (.r rfl)) (zn ?_)))
    refine AW.cond (b := _) rfl (fun hc3 => ?_) (fun hc3 => ?_)
    ·replace hm := iteT hc3 hm
     refine zr (zm rfl (zs (op_addw (.r rfl) (.r rfl)) (za rfl (zn (AW.region (za rfl (zn ?_)))))))
     obtain rfl := Option.some.inj hm
     exact nq ⟨_, rfl, ⟨[0], rfl, rfl, rfl, ⟨(.d rfl), (.d rfl), (.tk rfl), (.d rfl), (.d rfl), (.d rfl), trivial⟩, trivial, (.tok rfl .nil)⟩⟩
    ·replace hm := iteF hc3 hm
     refine AW.skip ?_
     obtain rfl := Option.some.inj hm
     exact nq ⟨_, rfl, ⟨[0], rfl, rfl, rfl, ⟨(.d rfl), (.d rfl), (.tk rfl), (.d rfl), (.d rfl), (.d rfl), trivial⟩, trivial, (.tok rfl .nil)⟩⟩
   ·rintro ⟨s9, s10⟩ rfl
    replace hm := hkj2
    try dsimp only at hm
    refine AW.region (zs (op_moveT .r) (zm rfl (zs (op_buildSlice (ds := ([s10] : List Int).map D.i) sl23 (.cons (.r rfl) rfl (En.i.one _) .nil) rfl (by decide)) ?_)))
    obtain ⟨v11, hv11, hm⟩ := bindE hm
    refine zs (op_appendM (f := D.i) (l' := ([s10] : List Int)) sl23 .r (.r rfl) rfl rfl En.i hv11) (zs (op_assignT .r) (zn (bq_n (nq (AW.region (zm rfl (zs (op_addw (.r rfl) (.r rfl)) (za rfl (zn ?_)))))))))
    obtain rfl := Option.some.inj hm
    exact nq ⟨_, hI1, ⟨[0], rfl, rfl, rfl, ⟨(.d rfl), (.d rfl), (.tk rfl), (.d rfl), (.d rfl), trivial⟩, trivial, (.tok rfl .nil)⟩⟩
 ·replace hm := iteF hc1 hm
  refine AW.exit (tq_exit (tq_exit ?_))
  obtain rfl := Option.some.inj hm
  obtain rfl := Option.some.inj hI1
  replace hm := hk1
  try dsimp only at hm
  refine bq_hit (nq (zr (zs (op_moveT .r) ?_)))
  obtain ⟨v12, hv12, hm⟩ := bindE hm
  refine zs (op_fn Tryz.call126 .r (.cons (.r rfl) .nil) (m_ref03_trim_ok hv12)) (za rfl (zn (AW.ret ?_)))
  obtain rfl := Option.some.inj hm
  exact EndQ.d (.tmp .r .nil) rfl rfl

theorem m_ref03_divide_ok {n : Nat} {a1 : (List Int)} {a2 : (List Int)} {r : ((List Int) × (List Int))} (hm : m_ref03_divide n a1 a2 = some r) : Fn Tryz.prog 125 [(.sl (a1.map D.i)), (.sl (a2.map D.i))] (.tup [(.sl (r.1.map D.i)), (.sl (r.2.map D.i))]) := by
 unfold m_ref03_divide at hm
 refine Fn.of_AW (fnn := Tryz.f125) Tryz.func125 rfl (Nat.le_of_ble_eq_true rfl) (fun g0 w0 hw0 => ?_)
 refine AW.reset 0 [(0, .d (.sl (a1.map D.i))), (1, .d (.sl (a2.map D.i)))] [] (WOK.g0 hw0 (by simp)) ⟨[], rfl, rfl, rfl, ⟨(.d rfl), (.d rfl), trivial⟩, trivial, .nil⟩ (zr (zs (op_assignN .r) (zs (op_assignN .r) (zn (zr (za rfl (zn (AW.seq (AW.block ?_)))))))))
 obtain ⟨t_1, hI1, hk1⟩ := bindE hm
 refine AW.loopS (σ := ((List Int) × Int)) (τ := ((List Int) × Int)) 0 (fun x => [(0, .d (.sl (a1.map D.i))), (1, .d (.sl (x.1.map D.i))), (6, .d (.int .i64 x.2))]) (fun x => []) hI1 (WOK.g0 hw0 (by simp)) ⟨[], rfl, rfl, rfl, ⟨(.d rfl), (.d rfl), (.d rfl), trivial⟩, trivial, .nil⟩ ?_
 rintro n1 ⟨s3, s4⟩ hI1
 obtain ⟨y_1, hm, hI1⟩ := iterS hI1
 replace hm : m_ref03_divide_L1 n _ s3 s4 = some y_1 := hm
 unfold m_ref03_divide_L1 at hm
 try dsimp only at hm
 refine AW.seq (zr (zm rfl (zm rfl ?_)))
 obtain ⟨v5, hv5, hm⟩ := bindE hm
 refine zs (op_fn Tryz.call116 .r (.cons (.r rfl) (.cons (.r rfl) .nil)) (m_ref03_compare_ok hv5)) (zs (op_leq (.r rfl) (.r rfl)) (zn ?_))
 refine AW.cond (b := _) rfl (fun hc1 => ?_) (fun hc1 => ?_)
 ·replace hm := iteT hc1 hm
  refine AW.skip (nq (AW.block (zr (zm rfl (zm rfl ?_)))))
  obtain ⟨v6, hv6, hm⟩ := bindE hm
  refine zs (op_fn Tryz.call134 .r (.cons (.r rfl) (.cons (.r rfl) .nil)) (m_ref03_sum_ok hv6)) (za rfl (zn (AW.region (zm rfl (zs (op_addw (.r rfl) (.r rfl)) (za rfl (zn (bq_n ?_))))))))
  obtain rfl := Option.some.inj hm
  exact nq ⟨_, hI1, ⟨[], rfl, rfl, rfl, ⟨(.d rfl), (.d rfl), (.d rfl), trivial⟩, trivial, .nil⟩⟩
 ·replace hm := iteF hc1 hm
  refine AW.exit (tq_exit (tq_exit ?_))
  obtain rfl := Option.some.inj hm
  obtain rfl := Option.some.inj hI1
  replace hm := hk1
  try dsimp only at hm
  refine bq_hit (nq (zr (zs (op_assignN .r) (zn (AW.seq (zr (za rfl (zn (AW.block ?_)))))))))
  obtain ⟨t_2, hI2, hk2⟩ := bindE hm
  refine AW.loopS (σ := ((List Int) × (List Int) × (List Int) × Int)) (τ := ((List Int) × (List Int))) 0 (fun x => [(0, .d (.sl (x.1.map D.i))), (1, .d (.sl (x.2.1.map D.i))), (6, .d (.int .i64 s4)), (7, .d (.sl (x.2.2.1.map D.i))), (8, .d (.int .i64 x.2.2.2))]) (fun x => []) hI2 (WOK.g0 hw0 (by simp)) ⟨[], rfl, rfl, rfl, ⟨(.d rfl), (.d rfl), (.d rfl), (.d rfl), (.d rfl), trivial⟩, trivial, .nil⟩ ?_
  rintro n2 ⟨s7, s8, s9, s10⟩ hI2
  obtain ⟨y_2, hm, hI2⟩ := iterS hI2
  replace hm : m_ref03_divide_L2 n _ s7 s8 s9 s10 = some y_2 := hm
  unfold m_ref03_divide_L2 at hm
  try dsimp only at hm
  refine AW.seq (zr (zm rfl (zm rfl (zs (op_lss (.r rfl) (.r rfl)) (zn ?_)))))
  refine AW.cond (b := _) rfl (fun hc2 => ?_) (fun hc2 => ?_)
  ·replace hm := iteT hc2 hm
   refine AW.skip (nq ?_)
   obtain ⟨t_j1, hm, hkj1⟩ := bindE hm
   refine AW.cutS (α := ((List Int) × (List Int) × (List Int))) 0 (fun x => x = t_j1) (fun x => [(0, .d (.sl (x.1.map D.i))), (1, .d (.sl (x.2.1.map D.i))), (6, .d (.int .i64 s4)), (7, .d (.sl (x.2.2.map D.i))), (8, .d (.int .i64 s10))]) (fun x => []) (WOK.g0 hw0 (by simp)) ?_ ?_
   ·skip
    refine AW.block (zr (zm rfl ?_))
    obtain ⟨v11, hv11, hm⟩ := bindE hm
    refine zs (op_fn Tryz.call135 .r (.cons (.r rfl) .nil) (m_ref03_half_ok hv11)) (zm rfl (zm rfl ?_))
    obtain ⟨v12, hv12, hm⟩ := bindE hm
    refine zs (op_fn Tryz.call134 .r (.cons (.r rfl) (.cons (.r rfl) .nil)) (m_ref03_sum_ok hv12)) (za rfl (za rfl (zn (zr (zm rfl (zm rfl ?_))))))
    obtain ⟨v13, hv13, hm⟩ := bindE hm
    refine zs (op_fn Tryz.call116 .r (.cons (.r rfl) (.cons (.r rfl) .nil)) (m_ref03_compare_ok hv13)) (zs (op_leq (.r rfl) (.r rfl)) (zn ?_))
    refine AW.cond (b := _) rfl (fun hc3 => ?_) (fun hc3 => ?_)
    ·replace hm := iteT hc3 hm
     refine AW.region (zm rfl (zm rfl ?_))
     obtain ⟨v14, hv14, hm⟩ := bindE hm
     refine zs (op_fn Tryz.call136 .r (.cons (.r rfl) (.cons (.r rfl) .nil)) (m_ref03_less_ok hv14)) (zm rfl (zs (op_buildSlice (ds := ([(1 : Int)] : List Int).map D.i) sl23 (.cons (.r rfl) rfl (En.i.one _) .nil) rfl (by decide)) ?_))
     obtain ⟨v15, hv15, hm⟩ := bindE hm
     refine zs (op_fn Tryz.call134 .r (.cons (.r rfl) (.cons (.r rfl) .nil)) (m_ref03_sum_ok hv15)) (za rfl (za rfl (zn (bq_n ?_))))
     obtain rfl := Option.some.inj hm
     exact nq ⟨_, rfl, ⟨[], rfl, rfl, rfl, ⟨(.d rfl), (.d rfl), (.d rfl), (.d rfl), (.d rfl), trivial⟩, trivial, .nil⟩⟩
    ·replace hm := iteF hc3 hm
     refine AW.skip (bq_n ?_)
     obtain rfl := Option.some.inj hm
     exact nq ⟨_, rfl, ⟨[], rfl, rfl, rfl, ⟨(.d rfl), (.d rfl), (.d rfl), (.d rfl), (.d rfl), trivial⟩, trivial, .nil⟩⟩
   ·rintro ⟨s16, s17, s18⟩ rfl
    replace hm := hkj1
    try dsimp only at hm
    refine AW.region (zm rfl (zs (op_addw (.r rfl) (.r rfl)) (za rfl (zn ?_))))
    obtain rfl := Option.some.inj hm
    exact nq ⟨_, hI2, ⟨[], rfl, rfl, rfl, ⟨(.d rfl), (.d rfl), (.d rfl), (.d rfl), (.d rfl), trivial⟩, trivial, .nil⟩⟩
  ·replace hm := iteF hc2 hm
   refine AW.exit (tq_exit (tq_exit ?_))
   obtain rfl := Option.some.inj hm
   obtain rfl := Option.some.inj hI2
   replace hm := hk2
   try dsimp only at hm
   refine bq_hit (nq (zr (zm rfl (zm rfl (za rfl (za rfl (zn (AW.ret ?_))))))))
   obtain rfl := Option.some.inj hm
   exact EndQ.d (.tmp .r (.tmp .r .nil)) rfl rfl

theorem m_ref03_Gcd_ok {n : Nat} {a1 : (List Int)} {a2 : (List Int)} {r : ((List Int) × Int)} (hm : m_ref03_Gcd n a1 a2 = some r) : Fn Tryz.prog 111 [(.sl (a1.map D.i)), (.sl (a2.map D.i))] (.tup [(.sl (r.1.map D.i)), (.int .i64 r.2)]) := by
 unfold m_ref03_Gcd at hm
 refine Fn.of_AW (fnn := Tryz.f111) Tryz.func111 rfl (Nat.le_of_ble_eq_true rfl) (fun g0 w0 hw0 => ?_)
 refine AW.reset 0 [(0, .d (.sl (a1.map D.i))), (1, .d (.sl (a2.map D.i)))] [] (WOK.g0 hw0 (by simp)) ⟨[], rfl, rfl, rfl, ⟨(.d rfl), (.d rfl), trivial⟩, trivial, .nil⟩ (zr (zs (op_assignN .r) (za rfl (zn (AW.seq (zr (zm rfl ?_)))))))
 obtain ⟨v3, hv3, hm⟩ := bindE hm
 refine zs (op_fn Tryz.call113 .r (.cons (.r rfl) .nil) (m_ref03_Valid_ok hv3)) (zs (op_not (.r rfl)) (zm rfl (AL.sF rfl rfl rfl rfl (fun g => op_moveD .r) ?_)))
 obtain ⟨v4, hv4, hm⟩ := bindE hm
 refine AL.sF rfl rfl rfl rfl (fun g => op_fn Tryz.call113 .r (.cons (.we (nt g) rfl rfl) .nil) (m_ref03_Valid_ok (iteT (nt g) hv4))) (AL.sF rfl rfl rfl rfl (fun g => op_not (.we (nt g) rfl rfl)) (zs (op_or (.r rfl) rfl (fun h => (.we (nt h) rfl rfl))) (zn ?_)))
 refine AW.cond (b := _) rfl (fun hc1 => ?_) (fun hc1 => ?_)
 ·replace hm := iteT hc1 hm
  refine zr (zs (op_assignN .r) (za rfl (zn (AW.ret (tq_ret ?_)))))
  obtain rfl := Option.some.inj hm
  exact EndQ.d (.tmp .r (.tmp .r .nil)) rfl rfl
 ·replace hm := iteF hc1 hm
  refine AW.skip (nq (AW.seq (AW.block ?_)))
  obtain ⟨t_1, hI1, hk1⟩ := bindE hm
  refine AW.loopS (σ := ((List Int) × (List Int))) (τ := (List Int)) 0 (fun x => [(0, .d (.sl (x.1.map D.i))), (1, .d (.sl (x.2.map D.i)))]) (fun x => []) hI1 (WOK.g0 hw0 (by simp)) ⟨[], rfl, rfl, rfl, ⟨(.d rfl), (.d rfl), trivial⟩, trivial, .nil⟩ ?_
  rintro n1 ⟨s5, s6⟩ hI1
  obtain ⟨y_1, hm, hI1⟩ := iterS hI1
  replace hm : m_ref03_Gcd_L1 n s5 s6 = some y_1 := hm
  unfold m_ref03_Gcd_L1 at hm
  try dsimp only at hm
  refine AW.seq (zr (zm rfl (zs (op_lenM (f := D.i) (.r rfl) sl23) (zs (op_gtr (.r rfl) (.r rfl)) (zn ?_)))))
  refine AW.cond (b := _) rfl (fun hc2 => ?_) (fun hc2 => ?_)
  ·replace hm := iteT hc2 hm
   refine AW.skip (nq (AW.block (zr (zm rfl (zm rfl ?_)))))
   obtain ⟨v7, hv7, hm⟩ := bindE hm
   refine zs (op_fn Tryz.call125 .r (.cons (.r rfl) (.cons (.r rfl) .nil)) (m_ref03_divide_ok hv7)) (zm rfl (zs (op_extractD .r rfl) (zs (op_extractD .r rfl) (za rfl (za rfl (zn (AW.region (zm rfl (zm rfl (za rfl (za rfl (zn (bq_n ?_)))))))))))))
   obtain rfl := Option.some.inj hm
   exact nq ⟨_, hI1, ⟨[], rfl, rfl, rfl, ⟨(.d rfl), (.d rfl), trivial⟩, trivial, .nil⟩⟩
  ·replace hm := iteF hc2 hm
   refine AW.exit (tq_exit (tq_exit ?_))
   obtain rfl := Option.some.inj hm
   obtain rfl := Option.some.inj hI1
   replace hm := hk1
   try dsimp only at hm
   refine bq_hit (nq (zr (zs (op_buildSlice (ds := ([] : List Int).map D.i) sl23 .nil rfl (by decide)) (zm rfl ?_))))
   obtain ⟨v8, hv8, hm⟩ := bindE hm
   refine zs (op_appendEM (n := 0) (f := D.i) (l := ([] : List Int)) (l' := s5) sl23 .r (.r rfl) rfl En.i hv8) (zs (op_assignT .r) (za rfl (zn (AW.ret ?_))))
   obtain rfl := Option.some.inj hm
   exact EndQ.d (.tmp .r (.tmp .r .nil)) rfl rfl

theorem m_ref03_Divide_ok {n : Nat} {a1 : (List Int)} {a2 : (List Int)} {r : ((List Int) × (List Int) × Int)} (hm : m_ref03_Divide n a1 a2 = some r) : Fn Tryz.prog 112 [(.sl (a1.map D.i)), (.sl (a2.map D.i))] (.tup [(.sl (r.1.map D.i)), (.sl (r.2.1.map D.i)), (.int .i64 r.2.2)]) := by
 unfold m_ref03_Divide at hm
 refine Fn.of_AW (fnn := Tryz.f112) Tryz.func112 rfl (Nat.le_of_ble_eq_true rfl) (fun g0 w0 hw0 => ?_)
 refine zr (zs (op_assignN .r) (zs (op_assignN .r) (za rfl (zn (AW.seq (zr (zm rfl ?_)))))))
 obtain ⟨v3, hv3, hm⟩ := bindE hm
 refine zs (op_fn Tryz.call113 .r (.cons (.r rfl) .nil) (m_ref03_Valid_ok hv3)) (zs (op_not (.r rfl)) (zm rfl (AL.sF rfl rfl rfl rfl (fun g => op_moveD .r) ?_)))
 obtain ⟨v4, hv4, hm⟩ := bindE hm
 refine AL.sF rfl rfl rfl rfl (fun g => op_fn Tryz.call113 .r (.cons (.we (nt g) rfl rfl) .nil) (m_ref03_Valid_ok (iteT (nt g) hv4))) (AL.sF rfl rfl rfl rfl (fun g => op_not (.we (nt g) rfl rfl)) (zs (op_or (.r rfl) rfl (fun h => (.we (nt h) rfl rfl))) (zm rfl (AL.sF rfl rfl rfl rfl (fun g => op_moveD .r) (AL.sF rfl rfl rfl rfl (fun g => op_lenM (f := D.i) (.we (nt g) rfl rfl) sl23) (AL.sF rfl rfl rfl rfl (fun g => op_eql (.we (nt g) rfl rfl) (.r rfl)) (zs (op_or (.r rfl) rfl (fun h => (.we (nt h) rfl rfl))) (zn ?_))))))))
 refine AW.cond (b := _) rfl (fun hc1 => ?_) (fun hc1 => ?_)
 ·replace hm := iteT hc1 hm
  refine AW.reset 0 [] [] (WOK.g0 hw0 (by simp)) ⟨[], rfl, rfl, rfl, trivial, trivial, .nil⟩ (zr (zs (op_assignN .r) (zs (op_assignN .r) (za rfl (zn (AW.ret (tq_ret ?_)))))))
  obtain rfl := Option.some.inj hm
  exact EndQ.d (.tmp .r (.tmp .r (.tmp .r .nil))) rfl rfl
 ·replace hm := iteF hc1 hm
  refine AW.skip (nq (zr (zm rfl (zm rfl ?_))))
  obtain ⟨v5, hv5, hm⟩ := bindE hm
  refine zs (op_fn Tryz.call125 .r (.cons (.r rfl) (.cons (.r rfl) .nil)) (m_ref03_divide_ok hv5)) (zm rfl (zs (op_extractD .r rfl) (zs (op_extractD .r rfl) (za rfl (za rfl (zn (zr (zm rfl (zm rfl (za rfl (za rfl (za rfl (zn (AW.ret ?_))))))))))))))
  obtain rfl := Option.some.inj hm
  exact EndQ.d (.tmp .r (.tmp .r (.tmp .r .nil))) rfl rfl

theorem m_ref28_Product_ok {n : Nat} {a1 : (List SRatio)} {r : ((List Int) × (List Int) × Int)} (hm : m_ref28_Product n a1 = some r) : Fn Tryz.prog 92 [(.sl (a1.map SRatio.e))] (.tup [(.sl (r.1.map D.i)), (.sl (r.2.1.map D.i)), (.int .i64 r.2.2)]) := by
 unfold m_ref28_Product at hm
 refine Fn.of_AW (fnn := Tryz.f92) Tryz.func92 rfl (Nat.le_of_ble_eq_true rfl) (fun g0 w0 hw0 => ?_)
 refine AW.reset 0 [(0, .d (.sl (a1.map SRatio.e)))] [] (WOK.g0 hw0 (by simp)) ⟨[], rfl, rfl, rfl, ⟨(.d rfl), trivial⟩, trivial, .nil⟩ (zr (zs (op_assignN .r) (zs (op_assignN .r) (za rfl (zn (AW.seq (zr (zm rfl ?_))))))))
 obtain ⟨v2, hv2, hm⟩ := bindE hm
 refine zs (op_fn Tryz.call67 .r (.cons (.r rfl) .nil) (m_ref28_Valid_ok hv2)) (zs (op_not (.r rfl)) (zn ?_))
 refine AW.cond (b := _) rfl (fun hc1 => ?_) (fun hc1 => ?_)
 ·replace hm := iteT hc1 hm
  refine zr (zs (op_assignN .r) (zs (op_assignN .r) (za rfl (zn (AW.ret (tq_ret ?_))))))
  obtain rfl := Option.some.inj hm
  exact EndQ.d (.tmp .r (.tmp .r (.tmp .r .nil))) rfl rfl
 ·replace hm := iteF hc1 hm
  refine AW.skip (nq (zr (zs (op_buildSlice (ds := ([(1 : Int)] : List Int).map D.i) sl23 (.cons (.r rfl) rfl (En.i.one _) .nil) rfl (by decide)) (zs (op_buildSlice (ds := ([(1 : Int)] : List Int).map D.i) sl23 (.cons (.r rfl) rfl (En.i.one _) .nil) rfl (by decide)) (zs (op_assignE .r) (zs (op_assignE .r) (zn (AW.seq (zr (za rfl (zn (AW.block ?_))))))))))))
  obtain ⟨t_1, hI1, hk1⟩ := bindE hm
  refine AW.loopS (σ := ((List Int) × (List Int) × Int)) (τ := ((List Int) × (List Int))) 0 (fun x => [(0, .d (.sl (a1.map SRatio.e))), (5, .d (.sl (x.1.map D.i))), (6, .d (.sl (x.2.1.map D.i))), (7, .d (.int .i64 x.2.2))]) (fun x => []) hI1 (WOK.g0 hw0 (by simp)) ⟨[], rfl, rfl, rfl, ⟨(.d rfl), (.d rfl), (.d rfl), (.d rfl), trivial⟩, trivial, .nil⟩ ?_
  rintro n1 ⟨s3, s4, s5⟩ hI1
  obtain ⟨y_1, hm, hI1⟩ := iterS hI1
  replace hm : m_ref28_Product_L1 n _ s3 s4 s5 = some y_1 := hm
  unfold m_ref28_Product_L1 at hm
  try dsimp only at hm
  refine AW.seq (zr (zm rfl (zm rfl (zs (op_lenM (f := SRatio.e) (.r rfl) sl121) (zs (op_lss (.r rfl) (.r rfl)) (zn ?_))))))
  refine AW.cond (b := _) rfl (fun hc2 => ?_) (fun hc2 => ?_)
  ·replace hm := iteT hc2 hm
   refine AW.skip (nq (AW.seq (AW.block (zr (zm rfl (zm rfl (zm rfl ?_)))))))
   obtain ⟨v6, hv6, hm⟩ := bindE hm
   refine zs (op_indexAddrM (f := SRatio.e) (.r rfl) (.r rfl) hv6 enSRatio sl121) (zs (op_field_vp .r fd40_0) (zs (op_load_vp1 .r rfl sc3) (zs (op_buildSlice (ds := ([v6.fNum] : List Int).map D.i) sl23 (.cons (.r rfl) rfl (En.i.one _) .nil) rfl (by decide)) ?_)))
   obtain ⟨v7, hv7, hm⟩ := bindE hm
   refine zs (op_fn Tryz.call110 .r (.cons (.r rfl) (.cons (.r rfl) .nil)) (m_ref03_Mul_ok hv7)) (zm rfl (zs (op_extractD .r rfl) (zs (op_extractD .r rfl) (za rfl (zn (AW.region (zm rfl (zm rfl (zm rfl ?_)))))))))
   obtain ⟨v8, hv8, hm⟩ := bindE hm
   refine zs (op_indexAddrM (f := SRatio.e) (.r rfl) (.r rfl) hv8 enSRatio sl121) (zs (op_field_vp .r fd40_1) (zs (op_load_vp1 .r rfl sc3) (zs (op_buildSlice (ds := ([v8.fDen] : List Int).map D.i) sl23 (.cons (.r rfl) rfl (En.i.one _) .nil) rfl (by decide)) ?_)))
   obtain ⟨v9, hv9, hm⟩ := bindE hm
   refine zs (op_fn Tryz.call110 .r (.cons (.r rfl) (.cons (.r rfl) .nil)) (m_ref03_Mul_ok hv9)) (zm rfl (zs (op_extractD .r rfl) (zs (op_extractD .r rfl) (za rfl (zn (bq_n (nq (AW.region (zm rfl (zs (op_addw (.r rfl) (.r rfl)) (za rfl (zn ?_))))))))))))
   obtain rfl := Option.some.inj hm
   exact nq ⟨_, hI1, ⟨[], rfl, rfl, rfl, ⟨(.d rfl), (.d rfl), (.d rfl), (.d rfl), trivial⟩, trivial, .nil⟩⟩
  ·replace hm := iteF hc2 hm
   refine AW.exit (tq_exit (tq_exit ?_))
   obtain rfl := Option.some.inj hm
   obtain rfl := Option.some.inj hI1
   replace hm := hk1
   try dsimp only at hm
   refine bq_hit (nq (zr (zm rfl (zm rfl ?_))))
   obtain ⟨v10, hv10, hm⟩ := bindE hm
   refine zs (op_fn Tryz.call111 .r (.cons (.r rfl) (.cons (.r rfl) .nil)) (m_ref03_Gcd_ok hv10)) (zm rfl (zs (op_extractD .r rfl) (zs (op_extractD .r rfl) (za rfl (za rfl (zn (zr (zm rfl (zm rfl ?_)))))))))
   obtain ⟨v11, hv11, hm⟩ := bindE hm
   refine zs (op_fn Tryz.call112 .r (.cons (.r rfl) (.cons (.r rfl) .nil)) (m_ref03_Divide_ok hv11)) (zm rfl (zs (op_extractD .r rfl) (zs (op_extractD .r rfl) (zs (op_extractD .r rfl) (za rfl (zn (AW.reset 0 [(5, .d (.sl (v11.1.map D.i))), (6, .d (.sl (s4.map D.i))), (8, .d (.sl (v10.1.map D.i)))] [] (WOK.g0 hw0 (by simp)) ⟨[], rfl, rfl, rfl, ⟨(.d rfl), (.d rfl), (.d rfl), trivial⟩, trivial, .nil⟩ (zr (zm rfl (zm rfl ?_))))))))))
   obtain ⟨v12, hv12, hm⟩ := bindE hm
   refine zs (op_fn Tryz.call112 .r (.cons (.r rfl) (.cons (.r rfl) .nil)) (m_ref03_Divide_ok hv12)) (zm rfl (zs (op_extractD .r rfl) (zs (op_extractD .r rfl) (zs (op_extractD .r rfl) (za rfl (zn (zr (zm rfl (zm rfl (za rfl (za rfl (za rfl (zn (AW.ret ?_))))))))))))))
   obtain rfl := Option.some.inj hm
   exact EndQ.d (.tmp .r (.tmp .r (.tmp .r .nil))) rfl rfl

theorem m_ref03_Power_ok {n : Nat} {a1 : (List Int)} {a2 : Int} {r : ((List Int) × Int)} (hm : m_ref03_Power n a1 a2 = some r) : Fn Tryz.prog 93 [(.sl (a1.map D.i)), (.int .i64 a2)] (.tup [(.sl (r.1.map D.i)), (.int .i64 r.2)]) := by
 unfold m_ref03_Power at hm
 refine Fn.of_AW (fnn := Tryz.f93) Tryz.func93 rfl (Nat.le_of_ble_eq_true rfl) (fun g0 w0 hw0 => ?_)
 refine AW.reset 0 [(0, .d (.sl (a1.map D.i))), (1, .d (.int .i64 a2))] [] (WOK.g0 hw0 (by simp)) ⟨[], rfl, rfl, rfl, ⟨(.d rfl), (.d rfl), trivial⟩, trivial, .nil⟩ (zr (zs (op_assignN .r) (za rfl (zn (AW.seq (AW.block (zr (zm rfl ?_))))))))
 obtain ⟨v3, hv3, hm⟩ := bindE hm
 refine zs (op_fn Tryz.call113 .r (.cons (.r rfl) .nil) (m_ref03_Valid_ok hv3)) (zs (op_not (.r rfl)) (za rfl (zn ?_)))
 refine AW.cond (b := _) rfl (fun hc1 => ?_) (fun hc1 => ?_)
 ·replace hm := iteT hc1 hm
  refine zr (zs (op_assignN .r) (za rfl (zn (AW.ret (bq_ret (tq_ret ?_))))))
  obtain rfl := Option.some.inj hm
  exact EndQ.d (.tmp .r (.tmp .r .nil)) rfl rfl
 ·replace hm := iteF hc1 hm
  refine zr (zm rfl (zs (op_lss (.r rfl) (.r rfl)) (zm rfl (AL.sF rfl rfl rfl rfl (fun g => op_moveD .r) (AL.sF rfl rfl rfl rfl (fun g => op_gtr (.we (nt g) rfl rfl) (.r rfl)) (zs (op_or (.r rfl) rfl (fun h => (.we (nt h) rfl rfl))) (za rfl (zn ?_))))))))
  refine AW.cond (b := _) rfl (fun hc2 => ?_) (fun hc2 => ?_)
  ·replace hm := iteT hc2 hm
   refine zr (zs (op_assignN .r) (za rfl (zn (AW.ret (bq_ret (tq_ret ?_))))))
   obtain rfl := Option.some.inj hm
   exact EndQ.d (.tmp .r (.tmp .r .nil)) rfl rfl
  ·replace hm := iteF hc2 hm
   refine AW.skip (bq_n (nq (zr (zs (op_buildSlice (ds := ([(1 : Int)] : List Int).map D.i) sl23 (.cons (.r rfl) rfl (En.i.one _) .nil) rfl (by decide)) (zs (op_assignE .r) (zn (AW.seq (zr (za rfl (zn (AW.block ?_)))))))))))
   obtain ⟨t_1, hI1, hk1⟩ := bindE hm
   refine AW.loopS (σ := ((List Int) × Int)) (τ := (((List Int) × Int) ⊕ (List Int))) 0 (fun x => [(0, .d (.sl (a1.map D.i))), (1, .d (.int .i64 a2)), (6, .d (.sl (x.1.map D.i))), (7, .d (.int .i64 x.2))]) (fun x => []) hI1 (WOK.g0 hw0 (by simp)) ⟨[], rfl, rfl, rfl, ⟨(.d rfl), (.d rfl), (.d rfl), (.d rfl), trivial⟩, trivial, .nil⟩ ?_
   rintro n1 ⟨s4, s5⟩ hI1
   obtain ⟨y_1, hm, hI1⟩ := iterS hI1
   replace hm : m_ref03_Power_L1 n _ _ s4 s5 = some y_1 := hm
   unfold m_ref03_Power_L1 at hm
   try dsimp only at hm
   refine AW.seq (zr (zm rfl (zm rfl (zs (op_lss (.r rfl) (.r rfl)) (zn ?_)))))
   refine AW.cond (b := _) rfl (fun hc3 => ?_) (fun hc3 => ?_)
   ·replace hm := iteT hc3 hm
    refine AW.skip (nq (AW.seq (AW.block (zr (zm rfl (zm rfl ?_))))))
    obtain ⟨v6, hv6, hm⟩ := bindE hm
    refine zs (op_fn Tryz.call110 .r (.cons (.r rfl) (.cons (.r rfl) .nil)) (m_ref03_Mul_ok hv6)) (zm rfl (zs (op_extractD .r rfl) (zs (op_extractD .r rfl) (za rfl (za rfl (zn (AW.seq (zr (zm rfl (zs (op_neq (.r rfl) (.r rfl)) (zn ?_)))))))))))
    refine AW.cond (b := _) rfl (fun hc4 => ?_) (fun hc4 => ?_)
    ·replace hm := iteT hc4 hm
     refine zr (zm rfl (zs (op_assignN .r) (za rfl (zn (AW.ret (tq_ret (bq_ret (tq_ret (tq_ret ?_)))))))))
     obtain rfl := Option.some.inj hm
     obtain rfl := Option.some.inj hI1
     replace hm := hk1
     try dsimp only at hm
     refine bq_ret (tq_ret ?_)
     obtain rfl := Option.some.inj hm
     exact EndQ.d (.tmp .r (.tmp .r .nil)) rfl rfl
    ·replace hm := iteF hc4 hm
     refine AW.skip (nq (AW.region (zm rfl (za rfl (zn (bq_n (nq (AW.region (zm rfl (zs (op_addw (.r rfl) (.r rfl)) (za rfl (zn ?_))))))))))))
     obtain rfl := Option.some.inj hm
     exact nq ⟨_, hI1, ⟨[], rfl, rfl, rfl, ⟨(.d rfl), (.d rfl), (.d rfl), (.d rfl), trivial⟩, trivial, .nil⟩⟩
   ·replace hm := iteF hc3 hm
    refine AW.exit (tq_exit (tq_exit ?_))
    obtain rfl := Option.some.inj hm
    obtain rfl := Option.some.inj hI1
    replace hm := hk1
    try dsimp only at hm
    refine bq_hit (nq (zr (zm rfl (za rfl (za rfl (zn (AW.ret ?_)))))))
    obtain rfl := Option.some.inj hm
    exact EndQ.d (.tmp .r (.tmp .r .nil)) rfl rfl

end Go.Proofs.YtgcmhhcopeiomaaGreat.Ab
