/- The functions do what they are in plain Lean. Conditions: none. -/
import Derived.Test.YtgcmhhcopeiomaaGreatTy
import Derived.Test.YtgcmhhcopeiomaaGreatMi
import Derived.Test.YtgcmhhcopeiomaaGreatFb
set_option maxRecDepth 100000
set_option maxHeartbeats 20000000
namespace Go.Proofs.YtgcmhhcopeiomaaGreat.Ab
open Go
attribute [local irreducible] AL AD AW

theorem m_odds_Valid_ok {n : Nat} {a1 : (List SRatio)} {r : Bool} (hm : m_odds_Valid n a1 = some r) : Fn Tryz.prog 39 [(.sl (a1.map SRatio.e))] (.bool r) := by
 unfold m_odds_Valid at hm
 refine Fn.of_AW (fnn := Tryz.f39) Tryz.func39 rfl (Nat.le_of_ble_eq_true rfl) (fun g0 w0 hw0 => ?_)
 refine zr (za rfl (zn (zr (zs (op_assignF .r) (zn (zr (zm rfl (zs (op_lenM (f := SRatio.e) (.r rfl) sl82) (zs (op_leq (.r rfl) (.r rfl)) (zm rfl (AL.sT rfl rfl rfl rfl (fun g => op_moveD .r) (AL.sT rfl rfl rfl rfl (fun g => op_moveF .r) ?_))))))))))))
 obtain ⟨v2, hv2, hm⟩ := bindE hm
 refine AL.sT rfl rfl rfl rfl (fun g => op_call Tryz.call76 .r (.cons (.we g rfl) (.cons (.we g rfl) .nil)) (m_slices_ContainsFunc_odds_Ratio_odds_Ratio_ok Tryz.call75 (fun _ _ hb => (m_odds_Valid_1_ok hb).at _) (iteT g hv2))) (AL.sT rfl rfl rfl rfl (fun g => op_not (.we g rfl rfl)) (zs (op_and (.r rfl) (fun h => (.we h rfl rfl)) rfl) (za rfl (zn (AW.ret ?_)))))
 obtain rfl := Option.some.inj hm
 exact EndQ.d (.tmp .r .nil) rfl rfl

theorem m_match_Valid_1_ok {n : Nat} {a1 : A3} {r : Bool} (hm : m_match_Valid_1 n a1 = some r) : Fn Tryz.prog 38 [(A3.e a1)] (.bool r) := by
 unfold m_match_Valid_1 at hm
 refine Fn.of_AW (fnn := Tryz.f38) Tryz.func38 rfl (Nat.le_of_ble_eq_true rfl) (fun g0 w0 hw0 => ?_)
 refine zr (zs (op_box (n := 0) .r rfl rfl rfl) (za rfl (zn (AW.freezeRow (cs := (A3.e a1).cells) 0 [1] rfl ⟨rfl, trivial⟩ (zr (zs (OpV.asD (op_sliceArr (f := SRatio.e) (l := a1.l) (s := 2) .r rfl enSRatio rfl Tryz.underlying50 ⟨_, rfl, rfl⟩) rfl) ?_))))))
 obtain ⟨v2, hv2, hm⟩ := bindE hm
 refine zs (op_fn Tryz.call39 .r (.cons (.r rfl) .nil) (m_odds_Valid_ok hv2)) (zs (op_not (.r rfl)) (za rfl (zn (AW.ret ?_))))
 obtain rfl := Option.some.inj hm
 exact EndQ.d (.tmp .r .nil) rfl rfl

theorem m_match_Valid_ok {n : Nat} {a1 : A72} {r : Bool} (hm : m_match_Valid n a1 = some r) : Fn Tryz.prog 16 [(A72.e a1)] (.bool r) := by
 unfold m_match_Valid at hm
 refine Fn.of_AW (fnn := Tryz.f16) Tryz.func16 rfl (Nat.le_of_ble_eq_true rfl) (fun g0 w0 hw0 => ?_)
 refine zr (zs (op_box (n := 0) .r rfl rfl rfl) (za rfl (zn (AW.freezeRow (cs := (A72.e a1).cells) 0 [1] rfl ⟨rfl, trivial⟩ (zr (zs (OpV.asD (op_sliceArr (f := A3.e) (l := a1.l) (s := 6) .r rfl enA3 rfl Tryz.underlying52 ⟨_, rfl, rfl⟩) rfl) ?_))))))
 obtain ⟨v2, hv2, hm⟩ := bindE hm
 refine zs (op_call Tryz.call37 .r (.cons .r (.cons .r .nil)) (m_slices_ContainsFunc_3_odds_Ratio_3_odds_Ratio_ok Tryz.call38 (fun _ _ hb => (m_match_Valid_1_ok hb).at _) hv2)) (zs (op_not (.r rfl)) (za rfl (zn (AW.ret ?_))))
 obtain rfl := Option.some.inj hm
 exact EndQ.d (.tmp .r .nil) rfl rfl

theorem m_match_Factors_1_ok {n : Nat} {a1 : Int} {r : Bool} (hm : m_match_Factors_1 n a1 = some r) : Fn Tryz.prog 70 [(.int .i64 a1)] (.bool r) := by
 unfold m_match_Factors_1 at hm
 refine Fn.of_AW (fnn := Tryz.f70) Tryz.func70 rfl (Nat.le_of_ble_eq_true rfl) (fun g0 w0 hw0 => ?_)
 refine zr (za rfl (zn (zr (zm rfl (zs (op_lss (.r rfl) (.r rfl)) (zm rfl (AL.sF rfl rfl rfl rfl (fun g => op_moveD .r) (AL.sF rfl rfl rfl rfl (fun g => op_gtr (.we (nt g) rfl rfl) (.r rfl)) (zs (op_or (.r rfl) rfl (fun h => (.we (nt h) rfl rfl))) (za rfl (zn (AW.ret ?_))))))))))))
 obtain rfl := Option.some.inj hm
 exact EndQ.d (.tmp .r .nil) rfl rfl

theorem m_match_Factors_ok {n : Nat} {a1 : A72} {a2 : A7} {r : ((List SRatio) × Int)} (hm : m_match_Factors n a1 a2 = some r) : Fn Tryz.prog 34 [(A72.e a1), (A7.e a2)] (.tup [(.sl (r.1.map SRatio.e)), (.int .i64 r.2)]) := by
 unfold m_match_Factors at hm
 refine Fn.of_AW (fnn := Tryz.f34) Tryz.func34 rfl (Nat.le_of_ble_eq_true rfl) (fun g0 w0 hw0 => ?_)
 refine AW.reset 0 [(0, .d (A72.e a1)), (1, .d (A7.e a2))] [] (WOK.g0 hw0 (by simp)) ⟨[], rfl, rfl, rfl, ⟨(.d rfl), (.d rfl), trivial⟩, trivial, .nil⟩ (zr (zs (op_box (n := 0) .r rfl rfl rfl) (zs (op_box (n := 1) .r rfl rfl rfl) (zs (op_assignN .r) (za rfl (zn (AW.seq (AW.freezeRow (cs := (A7.e a2).cells) 1 [3] rfl ⟨rfl, trivial⟩ (zr (zs (op_load_ptrA .r rfl rfl rfl ag52) ?_))))))))))
 obtain ⟨v3, hv3, hm⟩ := bindE hm
 refine zs (op_fn Tryz.call16 .r (.cons (.r rfl) .nil) (m_match_Valid_ok hv3)) (zs (op_not (.r rfl)) (zm rfl (AL.sF rfl rfl rfl rfl (fun g => OpV.asD (op_sliceArr (f := D.i) (l := a2.l) (s := 1) .r rfl En.i rfl Tryz.underlying29 ⟨_, rfl, rfl⟩) rfl) ?_)))
 obtain ⟨v4, hv4, hm⟩ := bindE hm
 refine AL.sF rfl rfl rfl rfl (fun g => op_call Tryz.call52 .r (.cons (.we (nt g) rfl) (.cons .r .nil)) (m_slices_ContainsFunc_int_int_ok Tryz.call70 (fun _ _ hb => (m_match_Factors_1_ok hb).at _) (iteT (nt g) hv4))) (zs (op_or (.r rfl) rfl (fun h => (.we (nt h) rfl rfl))) (zn ?_))
 refine AW.cond (b := _) rfl (fun hc1 => ?_) (fun hc1 => ?_)
 ·replace hm := iteT hc1 hm
  refine zr (zs (op_assignN .r) (za rfl (zn (AW.ret (tq_ret ?_)))))
  obtain rfl := Option.some.inj hm
  exact EndQ.d (.tmp .r (.tmp .r .nil)) rfl rfl
 ·replace hm := iteF hc1 hm
  refine AW.skip (nq (zr (zs (op_assignN .r) (zn (AW.seq (zr (zs (op_loadA .r rfl ag29) (zm rfl (zn (AW.block (AW.tokenize (n := 2) 6 49 2 rfl rfl (by simp) ?_)))))))))))
  obtain ⟨t_1, hI1, hk1⟩ := bindE hm
  refine AW.loopS (σ := ((List SRatio) × Int)) (τ := (List SRatio)) 0 (fun x => [(2, .ptr 0 0), (6, .tk 2 (x.1.map SRatio.e)), (16, .d (A7.e a2)), (17, .d (.int .i64 x.2))]) (fun x => [.row ((A72.e a1).cells.map .d), .dead, .tok x.1.length 49 2]) hI1 (WOK.g0 hw0 (by simp)) ⟨[0, 1, 2], rfl, rfl, rfl, ⟨(.ptr rfl), (.tk rfl), (.d rfl), (.d rfl), trivial⟩, trivial, (.row rfl (cd (A72.e a1).cells) (.dead (.tok rfl .nil)))⟩ ?_
  rintro n1 ⟨s5, s6⟩ hI1
  obtain ⟨y_1, hm, hI1⟩ := iterS hI1
  replace hm : m_match_Factors_L1 n _ _ s5 s6 = some y_1 := hm
  unfold m_match_Factors_L1 at hm
  try dsimp only at hm
  refine zr (zs (op_lss (.r rfl) (.r rfl)) (zn (AW.seq ?_)))
  refine AW.cond (b := _) rfl (fun hc2 => ?_) (fun hc2 => ?_)
  ·replace hm := iteT hc2 hm
   refine AW.skip (nq ?_)
   obtain ⟨t_j1, hm, hkj1⟩ := bindE hm
   refine AW.cutS (α := (List SRatio)) 0 (fun x => x = t_j1) (fun x => [(2, .ptr 0 0), (6, .tk 2 (x.map SRatio.e)), (16, .d (A7.e a2)), (17, .d (.int .i64 s6))]) (fun x => [.row ((A72.e a1).cells.map .d), .dead, .tok x.length 49 2]) (WOK.g0 hw0 (by simp)) ?_ ?_
   ·skip
    refine AW.block (zr (zm rfl ?_))
    obtain ⟨v7, hv7, hm⟩ := bindE hm
    refine zs (op_indexAgg (f := D.i) (l := a2.l) (s := 1) (.r rfl) rfl En.i (.r rfl) hv7 rfl Tryz.underlying29 (.inl ⟨sc3, fun _ => rfl⟩) ⟨_, rfl, rfl⟩) (za rfl (za rfl (zn (zr (zm rfl (zs (op_neq (.r rfl) (.r rfl)) (zn ?_)))))))
    refine AW.cond (b := _) rfl (fun hc3 => ?_) (fun hc3 => ?_)
    ·replace hm := iteT hc3 hm
     refine AW.region (zs (op_moveT .r) (zm rfl (zm rfl (zs (op_subw (.r rfl) (.r rfl)) ?_))))
     obtain ⟨v8, hv8, hm⟩ := bindE hm
     refine zs (op_indexA (l := a1.l) (s := 6) .r (.r rfl) hv8 rfl Tryz.underlying52 ⟨_, rfl, rfl⟩) ?_
     obtain ⟨v9, hv9, hm⟩ := bindE hm
     refine zs (op_indexA (l := v8.l) (s := 2) .r (.r rfl) hv9 rfl Tryz.underlying50 ⟨_, rfl, rfl⟩) (zs (op_loadAtA (X := (A72.e a1).cells) .r rfl (AtD.ix (f := SRatio.e) (l := v8.l) enSRatio (AtD.ix (f := A3.e) (l := a1.l) enA3 (AtD.root : AtD (A72.e a1).cells 0 _ _) hv8) hv9) ag49) (zs (op_buildSlice (ds := ([v9] : List SRatio).map SRatio.e) sl82 (.cons (.r rfl) rfl (enSRatio.one _) .nil) rfl (by decide)) ?_))
     obtain ⟨v10, hv10, hm⟩ := bindE hm
     refine zs (op_appendM (f := SRatio.e) (l' := ([v9] : List SRatio)) sl82 .r (.r rfl) rfl rfl enSRatio hv10) (zs (op_assignT .r) (zn (bq_n ?_)))
     obtain rfl := Option.some.inj hm
     exact nq ⟨_, rfl, ⟨[0, 1, 2], rfl, rfl, rfl, ⟨(.ptr rfl), (.tk rfl), (.d rfl), (.d rfl), trivial⟩, trivial, (.row rfl (cd (A72.e a1).cells) (.dead (.tok rfl .nil)))⟩⟩
    ·replace hm := iteF hc3 hm
     refine AW.skip (bq_n ?_)
     obtain rfl := Option.some.inj hm
     exact nq ⟨_, rfl, ⟨[0, 1, 2], rfl, rfl, rfl, ⟨(.ptr rfl), (.tk rfl), (.d rfl), (.d rfl), trivial⟩, trivial, (.row rfl (cd (A72.e a1).cells) (.dead (.tok rfl .nil)))⟩⟩
   ·rintro s11 rfl
    replace hm := hkj1
    try dsimp only at hm
    refine AW.region (zs (op_addw (.r rfl) (.r rfl)) (zm rfl (zn ?_)))
    obtain rfl := Option.some.inj hm
    exact nq ⟨_, hI1, ⟨[0, 1, 2], rfl, rfl, rfl, ⟨(.ptr rfl), (.tk rfl), (.d rfl), (.d rfl), trivial⟩, trivial, (.row rfl (cd (A72.e a1).cells) (.dead (.tok rfl .nil)))⟩⟩
  ·replace hm := iteF hc2 hm
   refine AW.exit (tq_exit (tq_exit ?_))
   obtain rfl := Option.some.inj hm
   obtain rfl := Option.some.inj hI1
   replace hm := hk1
   try dsimp only at hm
   refine bq_hit (nq (zr (zs (op_moveT .r) (zs (op_assignT .r) (za rfl (zn (AW.ret ?_)))))))
   obtain rfl := Option.some.inj hm
   exact EndQ.d (.tmp .r (.tmp .r .nil)) rfl rfl

theorem m_nat_small_ok {n : Nat} {a1 : Int} {r : (List Int)} (hm : m_nat_small n a1 = some r) : Fn Tryz.prog 127 [(.int .i64 a1)] (.sl (r.map D.i)) := by
 unfold m_nat_small at hm
 refine Fn.of_AW (fnn := Tryz.f127) Tryz.func127 rfl (Nat.le_of_ble_eq_true rfl) (fun g0 w0 hw0 => ?_)
 refine AW.reset 0 [(0, .d (.int .i64 a1))] [] (WOK.g0 hw0 (by simp)) ⟨[], rfl, rfl, rfl, ⟨(.d rfl), trivial⟩, trivial, .nil⟩ (zr (zs (op_assignN .r) (zn (zr (zs (op_assignN .r) (zn (AW.seq (AW.block (AW.tokenize (n := 0) 3 3 1 rfl rfl (by simp) ?_)))))))))
 obtain ⟨t_1, hI1, hk1⟩ := bindE hm
 refine AW.loopS (σ := (Int × (List Int))) (τ := (List Int)) 0 (fun x => [(0, .d (.int .i64 x.1)), (3, .tk 0 (x.2.map D.i))]) (fun x => [.tok x.2.length 3 1]) hI1 (WOK.g0 hw0 (by simp)) ⟨[0], rfl, rfl, rfl, ⟨(.d rfl), (.tk rfl), trivial⟩, trivial, (.tok rfl .nil)⟩ ?_
 rintro n1 ⟨s2, s3⟩ hI1
 obtain ⟨y_1, hm, hI1⟩ := iterS hI1
 replace hm : m_nat_small_L1 n s2 s3 = some y_1 := hm
 unfold m_nat_small_L1 at hm
 try dsimp only at hm
 refine AW.seq (zr (zm rfl (zs (op_gtr (.r rfl) (.r rfl)) (zn ?_))))
 refine AW.cond (b := _) rfl (fun hc1 => ?_) (fun hc1 => ?_)
 ·replace hm := iteT hc1 hm
  refine AW.skip (nq (AW.seq (AW.block (AW.region (zs (op_moveT .r) (zm rfl ?_))))))
  obtain ⟨v4, hv4, hm⟩ := bindE hm
  refine zs (op_remM (.r rfl) (.r rfl) hv4) (zs (op_buildSlice (ds := ([v4] : List Int).map D.i) sl125 (.cons (.r rfl) rfl (En.i.one _) .nil) rfl (by decide)) ?_)
  obtain ⟨v5, hv5, hm⟩ := bindE hm
  refine zs (op_appendM (f := D.i) (l' := ([v4] : List Int)) sl125 .r (.r rfl) rfl rfl En.i hv5) (zs (op_assignT .r) (zn (bq_n (nq (AW.region (zm rfl ?_))))))
  obtain ⟨v6, hv6, hm⟩ := bindE hm
  refine zs (op_quoM (.r rfl) (.r rfl) hv6) (za rfl (zn ?_))
  obtain rfl := Option.some.inj hm
  exact nq ⟨_, hI1, ⟨[0], rfl, rfl, rfl, ⟨(.d rfl), (.tk rfl), trivial⟩, trivial, (.tok rfl .nil)⟩⟩
 ·replace hm := iteF hc1 hm
  refine AW.exit (tq_exit (tq_exit ?_))
  obtain rfl := Option.some.inj hm
  obtain rfl := Option.some.inj hI1
  replace hm := hk1
  try dsimp only at hm
  refine bq_hit (nq (zr (zs (op_moveT .r) (zs (op_assignT .r) (zn (AW.ret ?_))))))
  obtain rfl := Option.some.inj hm
  exact EndQ.d (.tmp .r .nil) rfl rfl

theorem m_nat_Of_ok {n : Nat} {a1 : Int} {r : ((List Int) × Int)} (hm : m_nat_Of n a1 = some r) : Fn Tryz.prog 117 [(.int .i64 a1)] (.tup [(.sl (r.1.map D.i)), (.int .i64 r.2)]) := by
 unfold m_nat_Of at hm
 refine Fn.of_AW (fnn := Tryz.f117) Tryz.func117 rfl (Nat.le_of_ble_eq_true rfl) (fun g0 w0 hw0 => ?_)
 refine zr (zs (op_assignN .r) (za rfl (zn (AW.seq (zr (zm rfl (zs (op_lss (.r rfl) (.r rfl)) (zn ?_))))))))
 refine AW.cond (b := _) rfl (fun hc1 => ?_) (fun hc1 => ?_)
 ·replace hm := iteT hc1 hm
  refine zr (zs (op_assignN .r) (za rfl (zn (AW.ret (tq_ret ?_)))))
  obtain rfl := Option.some.inj hm
  exact EndQ.d (.tmp .r (.tmp .r .nil)) rfl rfl
 ·replace hm := iteF hc1 hm
  refine AW.skip (nq (zr (zm rfl ?_)))
  obtain ⟨v2, hv2, hm⟩ := bindE hm
  refine zs (op_fn Tryz.call127 .r (.cons (.r rfl) .nil) (m_nat_small_ok hv2)) (za rfl (za rfl (zn (AW.ret ?_))))
  obtain rfl := Option.some.inj hm
  exact EndQ.d (.tmp .r (.tmp .r .nil)) rfl rfl

theorem m_odds_number_ok {n : Nat} {a1 : Int} {r : (List Int)} (hm : m_odds_number n a1 = some r) : Fn Tryz.prog 97 [(.int .i64 a1)] (.sl (r.map D.i)) := by
 unfold m_odds_number at hm
 refine Fn.of_AW (fnn := Tryz.f97) Tryz.func97 rfl (Nat.le_of_ble_eq_true rfl) (fun g0 w0 hw0 => ?_)
 refine zr (zs (op_assignN .r) (zn (zr (zm rfl ?_))))
 obtain ⟨v2, hv2, hm⟩ := bindE hm
 refine zs (op_fn Tryz.call117 .r (.cons (.r rfl) .nil) (m_nat_Of_ok hv2)) (zm rfl (zs (op_extractD .r rfl) (zs (op_extractD .r rfl) (za rfl (za rfl (zn (zr (zm rfl (za rfl (zn (AW.ret ?_)))))))))))
 obtain rfl := Option.some.inj hm
 exact EndQ.d (.tmp .r .nil) rfl rfl

theorem m_slices_IndexFunc_nat_Nat_int_ok {n : Nat} {H : List HE} {a1 : (List Int)} {p2 : Int → Option Bool} {r : Int} {ff_p2 : FuncId} {caps_p2 : List V} (hff_p2 : ∀ (a : Array Value) (w : World), (callFunc ff_p2 a).run Tryz.prog w = .ok (.enter ff_p2 a) w) (hF_p2 : ∀ (y1 : Int) (b : Bool), p2 y1 = some b → ACall Tryz.prog ff_p2 (.d (.int .i64 y1) :: caps_p2) H fun r' H' => r' = .d (.bool b) ∧ H' = H) (hm : m_slices_IndexFunc_nat_Nat_int n a1 p2 = some r) : ACall Tryz.prog 137 [.d (.sl (a1.map D.i)), .fn (.func ff_p2) caps_p2] H fun r' H' => r' = .d (.int .i64 r) ∧ H' = H := by
 unfold m_slices_IndexFunc_nat_Nat_int at hm
 refine ACall.of_AW (fnn := Tryz.f137) Tryz.func137 rfl (Nat.le_of_ble_eq_true rfl) (fun g0 w0 hw0 => ?_)
 refine zr (za rfl (zn (AW.seq (zr (zm rfl (zs (op_lenM (f := D.i) (.r rfl) sl125) (zm rfl (zn (AW.block ?_)))))))))
 obtain ⟨t_1, hI1, hk1⟩ := bindE hm
 refine AW.loopN (σ := Int) (τ := (Int ⊕ Unit)) [0, 1, 7] (fun x => [(8, .d (.int .i64 x))]) hI1 ⟨by first | exact .of rfl | exact .d rfl, trivial⟩ ?_
 rintro n1 s3 hI1
 obtain ⟨y_1, hm, hI1⟩ := iterS hI1
 replace hm : m_slices_IndexFunc_nat_Nat_int_L1 n _ _ s3 = some y_1 := hm
 unfold m_slices_IndexFunc_nat_Nat_int_L1 at hm
 try dsimp only at hm
 refine zr (zs (op_lss (.r rfl) (.r rfl)) (zn (AW.seq ?_)))
 refine AW.cond (b := _) rfl (fun hc1 => ?_) (fun hc1 => ?_)
 ·replace hm := iteT hc1 hm
  refine AW.skip (nq (AW.seq (AW.block (zr (zm rfl (za rfl (zn (zr (zs (op_moveF .r) (zm rfl (zm rfl ?_)))))))))))
  obtain ⟨v4, hv4, hm⟩ := bindE hm
  refine zs (op_indexAddrM (f := D.i) (.r rfl) (.r rfl) hv4 En.i sl125) (zs (op_load_vp1 .r rfl sc3) ?_)
  obtain ⟨v5, hv5, hm⟩ := bindE hm
  refine zs (op_call hff_p2 .r (.cons .r .nil) (hF_p2 _ _ hv5)) (zn ?_)
  refine AW.cond (b := _) rfl (fun hc2 => ?_) (fun hc2 => ?_)
  ·replace hm := iteT hc2 hm
   refine zr (zm rfl (za rfl (zn (AW.ret (bq_ret (tq_ret (tq_ret ?_)))))))
   obtain rfl := Option.some.inj hm
   obtain rfl := Option.some.inj hI1
   replace hm := hk1
   try dsimp only at hm
   refine bq_ret (tq_ret ?_)
   obtain rfl := Option.some.inj hm
   exact ⟨_, _, (.tmp .r .nil), .d rfl, rfl, rfl⟩
  ·replace hm := iteF hc2 hm
   refine AW.skip (bq_n (nq (AW.region (zs (op_addw (.r rfl) (.r rfl)) (zm rfl (zn ?_))))))
   obtain rfl := Option.some.inj hm
   exact nq ⟨_, hI1, ⟨by first | exact .of rfl | exact .d rfl, trivial⟩, ⟨rfl, rfl, rfl, trivial⟩, rfl⟩
 ·replace hm := iteF hc1 hm
  refine AW.exit (tq_exit (tq_exit ?_))
  obtain rfl := Option.some.inj hm
  obtain rfl := Option.some.inj hI1
  replace hm := hk1
  try dsimp only at hm
  refine bq_hit (nq (zr (za rfl (zn (AW.ret ?_)))))
  obtain rfl := Option.some.inj hm
  exact ⟨_, _, (.tmp .r .nil), .d rfl, rfl, rfl⟩

theorem m_slices_ContainsFunc_nat_Nat_int_ok {n : Nat} {H : List HE} {a1 : (List Int)} {p2 : Int → Option Bool} {r : Bool} {ff_p2 : FuncId} {caps_p2 : List V} (hff_p2 : ∀ (a : Array Value) (w : World), (callFunc ff_p2 a).run Tryz.prog w = .ok (.enter ff_p2 a) w) (hF_p2 : ∀ (y1 : Int) (b : Bool), p2 y1 = some b → ACall Tryz.prog ff_p2 (.d (.int .i64 y1) :: caps_p2) H fun r' H' => r' = .d (.bool b) ∧ H' = H) (hm : m_slices_ContainsFunc_nat_Nat_int n a1 p2 = some r) : ACall Tryz.prog 128 [.d (.sl (a1.map D.i)), .fn (.func ff_p2) caps_p2] H fun r' H' => r' = .d (.bool r) ∧ H' = H := by
 unfold m_slices_ContainsFunc_nat_Nat_int at hm
 refine ACall.of_AW (fnn := Tryz.f128) Tryz.func128 rfl (Nat.le_of_ble_eq_true rfl) (fun g0 w0 hw0 => ?_)
 refine zr (za rfl (zn (zr (zm rfl (zs (op_moveF .r) ?_)))))
 obtain ⟨v3, hv3, hm⟩ := bindE hm
 refine zs (op_call Tryz.call137 .r (.cons .r (.cons .r .nil)) (m_slices_IndexFunc_nat_Nat_int_ok hff_p2 hF_p2 hv3)) (zs (op_geq (.r rfl) (.r rfl)) (za rfl (zn (AW.ret ?_))))
 obtain rfl := Option.some.inj hm
 exact ⟨_, _, (.tmp .r .nil), .d rfl, rfl, rfl⟩

theorem m_nat_Valid_1_ok {n : Nat} {a1 : Int} {r : Bool} (hm : m_nat_Valid_1 n a1 = some r) : Fn Tryz.prog 129 [(.int .i64 a1)] (.bool r) := by
 unfold m_nat_Valid_1 at hm
 refine Fn.of_AW (fnn := Tryz.f129) Tryz.func129 rfl (Nat.le_of_ble_eq_true rfl) (fun g0 w0 hw0 => ?_)
 refine zr (za rfl (zn (zr (zm rfl (zs (op_lss (.r rfl) (.r rfl)) (zm rfl (AL.sF rfl rfl rfl rfl (fun g => op_moveD .r) (AL.sF rfl rfl rfl rfl (fun g => op_geq (.we (nt g) rfl rfl) (.r rfl)) (zs (op_or (.r rfl) rfl (fun h => (.we (nt h) rfl rfl))) (za rfl (zn (AW.ret ?_))))))))))))
 obtain rfl := Option.some.inj hm
 exact EndQ.d (.tmp .r .nil) rfl rfl

theorem m_nat_Valid_ok {n : Nat} {a1 : (List Int)} {r : Bool} (hm : m_nat_Valid n a1 = some r) : Fn Tryz.prog 119 [(.sl (a1.map D.i))] (.bool r) := by
 unfold m_nat_Valid at hm
 refine Fn.of_AW (fnn := Tryz.f119) Tryz.func119 rfl (Nat.le_of_ble_eq_true rfl) (fun g0 w0 hw0 => ?_)
 refine zr (za rfl (zn (AW.seq (zr (zm rfl (zs (op_lenM (f := D.i) (.r rfl) sl125) (zs (op_gtr (.r rfl) (.r rfl)) (zm rfl (AL.sF rfl rfl rfl rfl (fun g => op_moveD .r) ?_)))))))))
 obtain ⟨v2, hv2, hm⟩ := bindE hm
 refine AL.sF rfl rfl rfl rfl (fun g => op_call Tryz.call128 .r (.cons (.we (nt g) rfl) (.cons .r .nil)) (m_slices_ContainsFunc_nat_Nat_int_ok Tryz.call129 (fun _ _ hb => (m_nat_Valid_1_ok hb).at _) (iteT (nt g) hv2))) (zs (op_or (.r rfl) rfl (fun h => (.we (nt h) rfl rfl))) (zn ?_))
 refine AW.cond (b := _) rfl (fun hc1 => ?_) (fun hc1 => ?_)
 ·replace hm := iteT hc1 hm
  refine zr (za rfl (zn (AW.ret (tq_ret ?_))))
  obtain rfl := Option.some.inj hm
  exact EndQ.d (.tmp .r .nil) rfl rfl
 ·replace hm := iteF hc1 hm
  refine AW.skip (nq (zr (zm rfl (zs (op_lenM (f := D.i) (.r rfl) sl125) (zs (op_eql (.r rfl) (.r rfl)) (zm rfl (AL.sF rfl rfl rfl rfl (fun g => op_moveD .r) (AL.sF rfl rfl rfl rfl (fun g => op_moveD .r) (AL.sF rfl rfl rfl rfl (fun g => op_lenM (f := D.i) (.we (nt g) rfl rfl) sl125) (AL.sF rfl rfl rfl rfl (fun g => op_subw (.we (nt g) rfl rfl) (.r rfl)) ?_))))))))))
  obtain ⟨v3, hv3, hm⟩ := bindE hm
  refine AL.sF rfl rfl rfl rfl (fun g => op_indexAddrM (f := D.i) (.we (nt g) rfl rfl) (.we (nt g) rfl rfl) (iteT (nt g) hv3) En.i sl125) (AL.sF rfl rfl rfl rfl (fun g => op_load_vp1 (.we (nt g) rfl) rfl sc3) (AL.sF rfl rfl rfl rfl (fun g => op_neq (.we (nt g) rfl rfl) (.r rfl)) (zs (op_or (.r rfl) rfl (fun h => (.we (nt h) rfl rfl))) (za rfl (zn (AW.ret ?_))))))
  obtain rfl := Option.some.inj hm
  exact EndQ.d (.tmp .r .nil) rfl rfl

theorem m_nat_trimmed_ok {n : Nat} {c1 : (List Int)} {r : (List Int)} (hm : m_nat_trimmed n c1 = some r) : ACall Tryz.prog 132 [.hs 0 0 c1.length 1] [.lst (c1.map D.i) 3 1] fun r' H' => r' = resOf [.hs 1 0 r.length 1] ∧ H' = [.dead, .lst (r.map D.i) 3 1] := by
 unfold m_nat_trimmed at hm
 refine ACall.of_AWG (fnn := Tryz.f132) Tryz.func132 rfl (Nat.le_of_ble_eq_true rfl) (fun g0 w0 hw0 => ?_)
 refine AW.reset 1 [(0, .hs 0 0 c1.length 1)] [.lst (c1.map D.i) 3 1] (WOK.g0 hw0 (by simp)) ⟨[0], rfl, rfl, rfl, ⟨(.hs rfl rfl), trivial⟩, trivial, (.lst rfl .nil)⟩ (zr (zs (op_assignN .r) (zn (AW.seq (AW.block ?_)))))
 obtain ⟨t_1, hI1, hk1⟩ := bindE hm
 refine AW.loopS (σ := (List Int)) (τ := (List Int)) 1 (fun x => [(0, .hs 0 0 x.length 1)]) (fun x => [.lst (x.map D.i) 3 1]) hI1 (WOK.g0 hw0 (by simp)) ⟨[0], rfl, rfl, rfl, ⟨(.hs rfl rfl), trivial⟩, trivial, (.lst rfl .nil)⟩ ?_
 rintro n1 s2 hI1
 obtain ⟨y_1, hm, hI1⟩ := iterS hI1
 replace hm : m_nat_trimmed_L1 n s2 = some y_1 := hm
 unfold m_nat_trimmed_L1 at hm
 try dsimp only at hm
 refine AW.seq (zr (zs (op_moveH .r) (zs (op_len_hs .r rfl sl125) (zs (op_gtr (.r rfl) (.r rfl)) (zm rfl (AL.sT rfl rfl rfl rfl (fun g => op_moveH .r) (AL.sT rfl rfl rfl rfl (fun g => op_moveH .r) (AL.sT rfl rfl rfl rfl (fun g => op_len_hs (.we g rfl) rfl sl125) (AL.sT rfl rfl rfl rfl (fun g => op_subw (.we g rfl rfl) (.r rfl)) ?_)))))))))
 obtain ⟨v3, hv3, hm⟩ := bindE hm
 refine AL.sT rfl rfl rfl rfl (fun g => op_indexAddr_hs (f := D.i) (l := s2) (.we g rfl) rfl rfl (.we g rfl rfl) (iteT g hv3) sl125) ?_
 obtain ⟨v4, hv4, hm⟩ := bindE hm
 refine AL.sT rfl rfl rfl rfl (fun g => op_load_lp (f := D.i) (fun _ => rfl) (.we g rfl) rfl (iteT g hv4) sc3) (AL.sT rfl rfl rfl rfl (fun g => op_eql (.we g rfl rfl) (.r rfl)) (zs (op_and (.r rfl) (fun h => (.we h rfl rfl)) rfl) (zn ?_)))
 refine AW.cond (b := _) rfl (fun hc1 => ?_) (fun hc1 => ?_)
 ·replace hm := iteT hc1 hm
  refine AW.skip (nq (AW.block (AW.region (zs (op_moveH .r) (zs (op_moveH .r) (zs (op_len_hs .r rfl sl125) (zs (op_subw (.r rfl) (.r rfl)) ?_)))))))
  obtain ⟨v5, hv5, hm⟩ := bindE hm
  refine zs (op_truncH (f := D.i) (l := s2) .r rfl rfl sl125 (.r rfl) hv5) (zs (op_assignH .r) (zn (bq_n ?_)))
  obtain rfl := Option.some.inj hm
  exact nq ⟨_, hI1, ⟨[0], rfl, rfl, rfl, ⟨(.hs rfl rfl), trivial⟩, trivial, (.lst rfl .nil)⟩⟩
 ·replace hm := iteF hc1 hm
  refine AW.exit (tq_exit (tq_exit ?_))
  obtain rfl := Option.some.inj hm
  obtain rfl := Option.some.inj hI1
  replace hm := hk1
  try dsimp only at hm
  refine bq_hit (nq (zr (zs (op_moveH .r) (zs (op_assignH .r) (zn (AW.moveL (n := 1) (f := D.i) (l := s2) 0 [2] rfl rfl ⟨rfl, trivial⟩ (AW.ret ?_)))))))
  obtain rfl := Option.some.inj hm
  exact ⟨_, [0, 1], (.tmp .r .nil), rfl, rfl, (.cons (.hs rfl rfl) .nil), (.dead (.lst rfl .nil))⟩

theorem m_nat_times_ok {n : Nat} {a1 : (List Int)} {a2 : (List Int)} {r : (List Int)} (hm : m_nat_times n a1 a2 = some r) : Fn Tryz.prog 121 [(.sl (a1.map D.i)), (.sl (a2.map D.i))] (.sl (r.map D.i)) := by
 unfold m_nat_times at hm
 refine Fn.of_AW (fnn := Tryz.f121) Tryz.func121 rfl (Nat.le_of_ble_eq_true rfl) (fun g0 w0 hw0 => ?_)
 refine AW.reset 0 [(0, .d (.sl (a1.map D.i))), (1, .d (.sl (a2.map D.i)))] [] (WOK.g0 hw0 (by simp)) ⟨[], rfl, rfl, rfl, ⟨(.d rfl), (.d rfl), trivial⟩, trivial, .nil⟩ (zr (zs (op_assignN .r) (zn (zr (zm rfl (zs (op_lenM (f := D.i) (.r rfl) sl125) (zm rfl (zs (op_lenM (f := D.i) (.r rfl) sl125) (zs (op_addw (.r rfl) (.r rfl)) ?_)))))))))
 obtain ⟨v3, hv3, hm⟩ := bindE hm
 refine zs (op_makeM (n := 0) (f := D.i) (.r rfl) sl125 zr3 rfl rfl hv3) (zs (op_assignH .r) (zn (AW.seq (zr (zm rfl (zs (op_lenM (f := D.i) (.r rfl) sl125) (zm rfl (zn (AW.block ?_)))))))))
 obtain ⟨t_1, hI1, hk1⟩ := bindE hm
 refine AW.loopS (σ := (Int × (List Int))) (τ := (List Int)) 0 (fun x => [(1, .d (.sl (a2.map D.i))), (5, .hs 0 0 x.2.length 1), (16, .d (.sl (a1.map D.i))), (17, .d (.int .i64 (a1.length : Int))), (18, .d (.int .i64 x.1))]) (fun x => [.lst (x.2.map D.i) 3 1]) hI1 (WOK.g0 hw0 (by simp)) ⟨[0], rfl, rfl, rfl, ⟨(.d rfl), (.hs rfl rfl), (.d rfl), (.d rfl), (.d rfl), trivial⟩, trivial, (.lst rfl .nil)⟩ ?_
 rintro n1 ⟨s4, s5⟩ hI1
 obtain ⟨y_1, hm, hI1⟩ := iterS hI1
 replace hm : m_nat_times_L1 n _ _ s4 s5 = some y_1 := hm
 unfold m_nat_times_L1 at hm
 try dsimp only at hm
 refine zr (zs (op_lss (.r rfl) (.r rfl)) (zn (AW.seq ?_)))
 refine AW.cond (b := _) rfl (fun hc1 => ?_) (fun hc1 => ?_)
 ·replace hm := iteT hc1 hm
  refine AW.skip (nq (AW.seq (AW.block (zr (zm rfl ?_)))))
  obtain ⟨v6, hv6, hm⟩ := bindE hm
  refine zs (op_indexAddrM (f := D.i) (.r rfl) (.r rfl) hv6 En.i sl125) (zs (op_load_vp1 .r rfl sc3) (za rfl (za rfl (zn (zr (za rfl (zn (AW.seq (zr (zm rfl (zs (op_lenM (f := D.i) (.r rfl) sl125) (zm rfl (zn (AW.block ?_))))))))))))))
  obtain ⟨t_2, hI2, hk2⟩ := bindE hm
  refine AW.loopS (σ := (Int × Int × (List Int))) (τ := (Int × (List Int))) 0 (fun x => [(1, .d (.sl (a2.map D.i))), (5, .hs 0 0 x.2.2.length 1), (6, .d (.int .i64 s4)), (7, .d (.int .i64 v6)), (8, .d (.int .i64 x.1)), (16, .d (.sl (a1.map D.i))), (17, .d (.int .i64 (a1.length : Int))), (18, .d (.int .i64 s4)), (24, .d (.int .i64 (a2.length : Int))), (25, .d (.int .i64 x.2.1))]) (fun x => [.lst (x.2.2.map D.i) 3 1]) hI2 (WOK.g0 hw0 (by simp)) ⟨[0], rfl, rfl, rfl, ⟨(.d rfl), (.hs rfl rfl), (.d rfl), (.d rfl), (.d rfl), (.d rfl), (.d rfl), (.d rfl), (.d rfl), (.d rfl), trivial⟩, trivial, (.lst rfl .nil)⟩ ?_
  rintro n2 ⟨s7, s8, s9⟩ hI2
  obtain ⟨y_2, hm, hI2⟩ := iterS hI2
  replace hm : m_nat_times_L2 n _ _ _ s7 s8 s9 = some y_2 := hm
  unfold m_nat_times_L2 at hm
  try dsimp only at hm
  refine zr (zs (op_lss (.r rfl) (.r rfl)) (zn (AW.seq ?_)))
  refine AW.cond (b := _) rfl (fun hc2 => ?_) (fun hc2 => ?_)
  ·replace hm := iteT hc2 hm
   refine AW.skip (nq (AW.seq (AW.block (zr (zm rfl (za rfl (zn (AW.seqD [([], []), ([], []), ([], []), ([], []), ([], []), ([0], []), ([0], []), ([], []), ([], []), ([], []), ([], []), ([], []), ([], []), ([], []), ([], []), ([], [])] mo (by decide +kernel) (AD.s (ws := []) rfl rfl (fun H' _ hH => op_moveD .r) (AD.s (ws := []) rfl rfl (fun H' _ hH => op_moveH .r) (AD.s (ws := []) rfl rfl (fun H' _ hH => op_moveD .r) (AD.s (ws := []) rfl rfl (fun H' _ hH => op_moveD .r) (AD.s (ws := []) rfl rfl (fun H' _ hH => op_addw (.r rfl) (.r rfl)) ?_)))))))))))))
   obtain ⟨v10, hv10, hm⟩ := bindE hm
   refine AD.s (ws := []) rfl rfl (fun H' _ hH => op_indexAddr_hs (f := D.i) (l := s9) .r ((hH _ (by simp)).trans rfl) rfl (.r rfl) hv10 sl125) ?_
   obtain ⟨v11, hv11, hm⟩ := bindE hm
   refine AD.s (ws := []) rfl rfl (fun H' _ hH => op_load_lp (f := D.i) (fun _ => rfl) .r ((hH _ (by simp)).trans rfl) hv11 sc3) (AD.s (ws := []) rfl rfl (fun H' _ hH => op_moveD .r) (AD.s (ws := []) rfl rfl (fun H' _ hH => op_moveD .r) (AD.s (ws := []) rfl rfl (fun H' _ hH => op_moveD .r) ?_)))
   obtain ⟨v12, hv12, hm⟩ := bindE hm
   refine AD.s (ws := []) rfl rfl (fun H' _ hH => op_indexAddrM (f := D.i) (.r rfl) (.r rfl) hv12 En.i sl125) (AD.s (ws := []) rfl rfl (fun H' _ hH => op_load_vp1 .r rfl sc3) (AD.s (ws := []) rfl rfl (fun H' _ hH => op_mulw (.r rfl) (.r rfl)) (AD.s (ws := []) rfl rfl (fun H' _ hH => op_addw (.r rfl) (.r rfl)) (AD.s (ws := []) rfl rfl (fun H' _ hH => op_addw (.r rfl) (.r rfl)) (AD.s (ws := []) rfl rfl (fun H' _ hH => op_assignD .r) (AD.nil (zr (zs (op_moveH .r) (zm rfl (zm rfl (zs (op_addw (.r rfl) (.r rfl)) (zm rfl ?_))))))))))))
   obtain ⟨v13, hv13, hm⟩ := bindE hm
   refine zs (op_remM (.r rfl) (.r rfl) hv13) ?_
   obtain ⟨v14, hv14, hm⟩ := bindE hm
   refine zs (op_indexAddr_hs (f := D.i) (l := s9) .r rfl rfl (.r rfl) hv14 sl125) ?_
   obtain ⟨v15, hv15, hm⟩ := bindE hm
   refine zs (op_store_lp (f := D.i) (fun _ => rfl) .r (.r rfl) rfl hv15 ⟨_, rfl, rfl⟩ En.i) (zn (AW.region (zm rfl ?_)))
   obtain ⟨v16, hv16, hm⟩ := bindE hm
   refine zs (op_quoM (.r rfl) (.r rfl) hv16) (za rfl (zn (bq_n (nq (AW.region (zs (op_addw (.r rfl) (.r rfl)) (zm rfl (zn ?_))))))))
   obtain rfl := Option.some.inj hm
   exact nq ⟨_, hI2, ⟨[0], rfl, rfl, rfl, ⟨(.d rfl), (.hs rfl (setI_len hv15).symm), (.d rfl), (.d rfl), (.d rfl), (.d rfl), (.d rfl), (.d rfl), (.d rfl), (.d rfl), trivial⟩, trivial, (.lst rfl .nil)⟩⟩
  ·replace hm := iteF hc2 hm
   refine AW.exit (tq_exit (tq_exit ?_))
   obtain rfl := Option.some.inj hm
   obtain rfl := Option.some.inj hI2
   replace hm := hk2
   try dsimp only at hm
   refine bq_hit (nq (AW.region (zs (op_moveH .r) (zm rfl (zm rfl (zs (op_lenM (f := D.i) (.r rfl) sl125) (zs (op_addw (.r rfl) (.r rfl)) (zm rfl ?_))))))))
   obtain ⟨v17, hv17, hm⟩ := bindE hm
   refine zs (op_indexAddr_hs (f := D.i) (l := s9) .r rfl rfl (.r rfl) hv17 sl125) ?_
   obtain ⟨v18, hv18, hm⟩ := bindE hm
   refine zs (op_store_lp (f := D.i) (fun _ => rfl) .r (.r rfl) rfl hv18 ⟨_, rfl, rfl⟩ En.i) (zn (bq_n (nq (AW.region (zs (op_addw (.r rfl) (.r rfl)) (zm rfl (zn ?_)))))))
   obtain rfl := Option.some.inj hm
   exact nq ⟨_, hI1, ⟨[0], rfl, rfl, rfl, ⟨(.d rfl), (.hs rfl (setI_len hv18).symm), (.d rfl), (.d rfl), (.d rfl), trivial⟩, trivial, (.lst rfl .nil)⟩⟩
 ·replace hm := iteF hc1 hm
  refine AW.exit (tq_exit (tq_exit ?_))
  obtain rfl := Option.some.inj hm
  obtain rfl := Option.some.inj hI1
  replace hm := hk1
  try dsimp only at hm
  refine bq_hit (nq (AW.reset 0 [(5, .hs 0 0 s5.length 1)] [.lst (s5.map D.i) 3 1] (WOK.g0 hw0 (by simp)) ⟨[0], rfl, rfl, rfl, ⟨(.hs rfl rfl), trivial⟩, trivial, (.lst rfl .nil)⟩ (zr (zs (op_moveH .r) ?_))))
  obtain ⟨v19, hv19, hm⟩ := bindE hm
  refine zs (op_callF (v := .hs 1 0 v19.length 1) (H' := [.dead, .lst (v19.map D.i) 3 1]) [0] Tryz.call132 .r (.cons .r .nil) (m_nat_trimmed_ok hv19) rfl (.cons rfl .nil) rfl rfl rfl rfl rfl rfl rfl rfl) (zs (op_assignH .r) (zn (AW.freeze (f := D.i) (l := v19) 1 [4, 62] rfl rfl En.i ⟨rfl, rfl, trivial⟩ (AW.ret ?_))))
  obtain rfl := Option.some.inj hm
  exact EndQ.d (.tmp .r .nil) rfl rfl

theorem m_nat_trimmed_f2_ok {n : Nat} {a1 : (List Int)} {r : (List Int)} (hm : m_nat_trimmed_f2 n a1 = some r) : Fn Tryz.prog 132 [(.sl (a1.map D.i))] (.sl (r.map D.i)) := by
 unfold m_nat_trimmed_f2 at hm
 refine Fn.of_AW (fnn := Tryz.f132) Tryz.func132 rfl (Nat.le_of_ble_eq_true rfl) (fun g0 w0 hw0 => ?_)
 refine AW.reset 0 [(0, .d (.sl (a1.map D.i)))] [] (WOK.g0 hw0 (by simp)) ⟨[], rfl, rfl, rfl, ⟨(.d rfl), trivial⟩, trivial, .nil⟩ (zr (zs (op_assignN .r) (zn (AW.seq (AW.block ?_)))))
 obtain ⟨t_1, hI1, hk1⟩ := bindE hm
 refine AW.loopS (σ := (List Int)) (τ := (List Int)) 0 (fun x => [(0, .d (.sl (x.map D.i)))]) (fun x => []) hI1 (WOK.g0 hw0 (by simp)) ⟨[], rfl, rfl, rfl, ⟨(.d rfl), trivial⟩, trivial, .nil⟩ ?_
 rintro n1 s2 hI1
 obtain ⟨y_1, hm, hI1⟩ := iterS hI1
 replace hm : m_nat_trimmed_f2_L1 n s2 = some y_1 := hm
 unfold m_nat_trimmed_f2_L1 at hm
 try dsimp only at hm
 refine AW.seq (zr (zm rfl (zs (op_lenM (f := D.i) (.r rfl) sl125) (zs (op_gtr (.r rfl) (.r rfl)) (zm rfl (AL.sT rfl rfl rfl rfl (fun g => op_moveD .r) (AL.sT rfl rfl rfl rfl (fun g => op_moveD .r) (AL.sT rfl rfl rfl rfl (fun g => op_lenM (f := D.i) (.we g rfl rfl) sl125) (AL.sT rfl rfl rfl rfl (fun g => op_subw (.we g rfl rfl) (.r rfl)) ?_)))))))))
 obtain ⟨v3, hv3, hm⟩ := bindE hm
 refine AL.sT rfl rfl rfl rfl (fun g => op_indexAddrM (f := D.i) (.we g rfl rfl) (.we g rfl rfl) (iteT g hv3) En.i sl125) (AL.sT rfl rfl rfl rfl (fun g => op_load_vp1 (.we g rfl) rfl sc3) (AL.sT rfl rfl rfl rfl (fun g => op_eql (.we g rfl rfl) (.r rfl)) (zs (op_and (.r rfl) (fun h => (.we h rfl rfl)) rfl) (zn ?_))))
 refine AW.cond (b := _) rfl (fun hc1 => ?_) (fun hc1 => ?_)
 ·replace hm := iteT hc1 hm
  refine AW.skip (nq (AW.block (AW.region (zm rfl (zm rfl (zs (op_lenM (f := D.i) (.r rfl) sl125) (zs (op_subw (.r rfl) (.r rfl)) ?_)))))))
  obtain ⟨v4, hv4, hm⟩ := bindE hm
  refine zs (op_sliceM (f := D.i) (.r rfl) sl125 rfl (.r rfl) En.i hv4) (za rfl (zn (bq_n ?_)))
  obtain rfl := Option.some.inj hm
  exact nq ⟨_, hI1, ⟨[], rfl, rfl, rfl, ⟨(.d rfl), trivial⟩, trivial, .nil⟩⟩
 ·replace hm := iteF hc1 hm
  refine AW.exit (tq_exit (tq_exit ?_))
  obtain rfl := Option.some.inj hm
  obtain rfl := Option.some.inj hI1
  replace hm := hk1
  try dsimp only at hm
  refine bq_hit (nq (zr (zm rfl (za rfl (zn (AW.ret ?_))))))
  obtain rfl := Option.some.inj hm
  exact EndQ.d (.tmp .r .nil) rfl rfl

theorem m_nat_limited_ok {n : Nat} {a1 : (List Int)} {r : ((List Int) × Int)} (hm : m_nat_limited n a1 = some r) : Fn Tryz.prog 122 [(.sl (a1.map D.i))] (.tup [(.sl (r.1.map D.i)), (.int .i64 r.2)]) := by
 unfold m_nat_limited at hm
 refine Fn.of_AW (fnn := Tryz.f122) Tryz.func122 rfl (Nat.le_of_ble_eq_true rfl) (fun g0 w0 hw0 => ?_)
 refine zr (zs (op_assignN .r) (za rfl (zn (AW.seq (zr (zm rfl ?_))))))
 obtain ⟨v2, hv2, hm⟩ := bindE hm
 refine zs (op_fn Tryz.call132 .r (.cons (.r rfl) .nil) (m_nat_trimmed_f2_ok hv2)) (za rfl (zn (zr (zm rfl (zs (op_lenM (f := D.i) (.r rfl) sl125) (zs (op_gtr (.r rfl) (.r rfl)) (zn ?_)))))))
 refine AW.cond (b := _) rfl (fun hc1 => ?_) (fun hc1 => ?_)
 ·replace hm := iteT hc1 hm
  refine zr (zs (op_assignN .r) (za rfl (zn (AW.ret (tq_ret ?_)))))
  obtain rfl := Option.some.inj hm
  exact EndQ.d (.tmp .r (.tmp .r .nil)) rfl rfl
 ·replace hm := iteF hc1 hm
  refine AW.skip (nq (zr (zm rfl (za rfl (za rfl (zn (AW.ret ?_)))))))
  obtain rfl := Option.some.inj hm
  exact EndQ.d (.tmp .r (.tmp .r .nil)) rfl rfl

theorem m_nat_Mul_ok {n : Nat} {a1 : (List Int)} {a2 : (List Int)} {r : ((List Int) × Int)} (hm : m_nat_Mul n a1 a2 = some r) : Fn Tryz.prog 118 [(.sl (a1.map D.i)), (.sl (a2.map D.i))] (.tup [(.sl (r.1.map D.i)), (.int .i64 r.2)]) := by
 unfold m_nat_Mul at hm
 refine Fn.of_AW (fnn := Tryz.f118) Tryz.func118 rfl (Nat.le_of_ble_eq_true rfl) (fun g0 w0 hw0 => ?_)
 refine zr (zs (op_assignN .r) (za rfl (zn (AW.seq (zr (zm rfl ?_))))))
 obtain ⟨v3, hv3, hm⟩ := bindE hm
 refine zs (op_fn Tryz.call119 .r (.cons (.r rfl) .nil) (m_nat_Valid_ok hv3)) (zs (op_not (.r rfl)) (zm rfl (AL.sF rfl rfl rfl rfl (fun g => op_moveD .r) ?_)))
 obtain ⟨v4, hv4, hm⟩ := bindE hm
 refine AL.sF rfl rfl rfl rfl (fun g => op_fn Tryz.call119 .r (.cons (.we (nt g) rfl rfl) .nil) (m_nat_Valid_ok (iteT (nt g) hv4))) (AL.sF rfl rfl rfl rfl (fun g => op_not (.we (nt g) rfl rfl)) (zs (op_or (.r rfl) rfl (fun h => (.we (nt h) rfl rfl))) (zn ?_)))
 refine AW.cond (b := _) rfl (fun hc1 => ?_) (fun hc1 => ?_)
 ·replace hm := iteT hc1 hm
  refine zr (zs (op_assignN .r) (za rfl (zn (AW.ret (tq_ret ?_)))))
  obtain rfl := Option.some.inj hm
  exact EndQ.d (.tmp .r (.tmp .r .nil)) rfl rfl
 ·replace hm := iteF hc1 hm
  refine AW.skip (nq (zr (zm rfl (zm rfl ?_))))
  obtain ⟨v5, hv5, hm⟩ := bindE hm
  refine zs (op_fn Tryz.call121 .r (.cons (.r rfl) (.cons (.r rfl) .nil)) (m_nat_times_ok hv5)) ?_
  obtain ⟨v6, hv6, hm⟩ := bindE hm
  refine zs (op_fn Tryz.call122 .r (.cons (.r rfl) .nil) (m_nat_limited_ok hv6)) (zs (op_extractD .r rfl) (zs (op_extractD .r rfl) (za rfl (za rfl (zn (AW.ret ?_))))))
  obtain rfl := Option.some.inj hm
  exact EndQ.d (.tmp .r (.tmp .r .nil)) rfl rfl

theorem m_odds_times_ok {n : Nat} {a1 : (List Int)} {a2 : (List Int)} {r : (List Int)} (hm : m_odds_times n a1 a2 = some r) : Fn Tryz.prog 98 [(.sl (a1.map D.i)), (.sl (a2.map D.i))] (.sl (r.map D.i)) := by
 unfold m_odds_times at hm
 refine Fn.of_AW (fnn := Tryz.f98) Tryz.func98 rfl (Nat.le_of_ble_eq_true rfl) (fun g0 w0 hw0 => ?_)
 refine zr (zs (op_assignN .r) (zn (zr (zm rfl (zm rfl ?_)))))
 obtain ⟨v3, hv3, hm⟩ := bindE hm
 refine zs (op_fn Tryz.call118 .r (.cons (.r rfl) (.cons (.r rfl) .nil)) (m_nat_Mul_ok hv3)) (zm rfl (zs (op_extractD .r rfl) (zs (op_extractD .r rfl) (za rfl (za rfl (zn (zr (zm rfl (za rfl (zn (AW.ret ?_)))))))))))
 obtain rfl := Option.some.inj hm
 exact EndQ.d (.tmp .r .nil) rfl rfl

theorem m_odds_parts_ok {n : Nat} {a1 : (List SRatio)} {r : ((List Int) × (List Int))} (hm : m_odds_parts n a1 = some r) : Fn Tryz.prog 71 [(.sl (a1.map SRatio.e))] (.tup [(.sl (r.1.map D.i)), (.sl (r.2.map D.i))]) := by
 unfold m_odds_parts at hm
 refine Fn.of_AW (fnn := Tryz.f71) Tryz.func71 rfl (Nat.le_of_ble_eq_true rfl) (fun g0 w0 hw0 => ?_)
 refine AW.reset 0 [(0, .d (.sl (a1.map SRatio.e)))] [] (WOK.g0 hw0 (by simp)) ⟨[], rfl, rfl, rfl, ⟨(.d rfl), trivial⟩, trivial, .nil⟩ (zr (zs (op_assignN .r) (zs (op_assignN .r) (zn (zr ?_)))))
 obtain ⟨v2, hv2, hm⟩ := bindE hm
 refine zs (op_fn Tryz.call97 .r (.cons (.r rfl) .nil) (m_odds_number_ok hv2)) ?_
 obtain ⟨v3, hv3, hm⟩ := bindE hm
 refine zs (op_fn Tryz.call97 .r (.cons (.r rfl) .nil) (m_odds_number_ok hv3)) (za rfl (za rfl (zn (AW.seq (zr (zm rfl (zs (op_lenM (f := SRatio.e) (.r rfl) sl82) (zm rfl (zn (AW.block ?_))))))))))
 obtain ⟨t_1, hI1, hk1⟩ := bindE hm
 refine AW.loopS (σ := ((List Int) × (List Int) × Int)) (τ := ((List Int) × (List Int))) 0 (fun x => [(2, .d (.sl (x.1.map D.i))), (3, .d (.sl (x.2.1.map D.i))), (8, .d (.sl (a1.map SRatio.e))), (9, .d (.int .i64 (a1.length : Int))), (10, .d (.int .i64 x.2.2))]) (fun x => []) hI1 (WOK.g0 hw0 (by simp)) ⟨[], rfl, rfl, rfl, ⟨(.d rfl), (.d rfl), (.d rfl), (.d rfl), (.d rfl), trivial⟩, trivial, .nil⟩ ?_
 rintro n1 ⟨s4, s5, s6⟩ hI1
 obtain ⟨y_1, hm, hI1⟩ := iterS hI1
 replace hm : m_odds_parts_L1 n _ s4 s5 s6 = some y_1 := hm
 unfold m_odds_parts_L1 at hm
 try dsimp only at hm
 refine zr (zs (op_lss (.r rfl) (.r rfl)) (zn (AW.seq ?_)))
 refine AW.cond (b := _) rfl (fun hc1 => ?_) (fun hc1 => ?_)
 ·replace hm := iteT hc1 hm
  refine AW.skip (nq (AW.seq (AW.block (zr ?_))))
  obtain ⟨v7, hv7, hm⟩ := bindE hm
  refine zs (op_indexAddrM (f := SRatio.e) (.r rfl) (.r rfl) hv7 enSRatio sl82) (zs (op_loadA .r rfl ag49) (zs (op_alloc (n := 0) zr49 rfl) (zs (op_store .r .r rfl rfl rfl ⟨_, rfl, rfl⟩ rfl (Nat.le_of_ble_eq_true rfl)) (zn (AW.drawn [([], []), ([], []), ([0], []), ([], []), ([], []), ([], []), ([], []), ([0], []), ([], []), ([], []), ([], []), ([], [])] mo (by decide +kernel) (AD.s (ws := []) rfl rfl (fun H' _ hH => op_moveD .r) (AD.s (ws := []) rfl rfl (fun H' _ hH => op_field_ptr .r fd49_0) (AD.s (ws := []) rfl rfl (fun H' _ hH => op_load_ptr1 .r ((hH _ (by simp)).trans rfl) rfl sc3) ?_))))))))
  obtain ⟨v8, hv8, hm⟩ := bindE hm
  refine AD.s (ws := []) rfl rfl (fun H' _ hH => op_fn Tryz.call97 .r (.cons (.r rfl) .nil) (m_odds_number_ok hv8)) ?_
  obtain ⟨v9, hv9, hm⟩ := bindE hm
  refine AD.s (ws := []) rfl rfl (fun H' _ hH => op_fn Tryz.call98 .r (.cons (.r rfl) (.cons (.r rfl) .nil)) (m_odds_times_ok hv9)) (AD.s (ws := []) rfl rfl (fun H' _ hH => op_moveD .r) (AD.s (ws := []) rfl rfl (fun H' _ hH => op_field_ptr .r fd49_1) (AD.s (ws := []) rfl rfl (fun H' _ hH => op_load_ptr1 .r ((hH _ (by simp)).trans rfl) rfl sc3) ?_)))
  obtain ⟨v10, hv10, hm⟩ := bindE hm
  refine AD.s (ws := []) rfl rfl (fun H' _ hH => op_fn Tryz.call97 .r (.cons (.r rfl) .nil) (m_odds_number_ok hv10)) ?_
  obtain ⟨v11, hv11, hm⟩ := bindE hm
  refine AD.s (ws := []) rfl rfl (fun H' _ hH => op_fn Tryz.call98 .r (.cons (.r rfl) (.cons (.r rfl) .nil)) (m_odds_times_ok hv11)) (AD.s (ws := []) rfl rfl (fun H' _ hH => op_assignD .r) (AD.s (ws := []) rfl rfl (fun H' _ hH => op_assignD .r) (AD.nil (bq_n (nq (AW.region (zs (op_addw (.r rfl) (.r rfl)) (zm rfl (zn ?_)))))))))
  obtain rfl := Option.some.inj hm
  exact nq ⟨_, hI1, ⟨[], rfl, rfl, rfl, ⟨(.d rfl), (.d rfl), (.d rfl), (.d rfl), (.d rfl), trivial⟩, trivial, .nil⟩⟩
 ·replace hm := iteF hc1 hm
  refine AW.exit (tq_exit (tq_exit ?_))
  obtain rfl := Option.some.inj hm
  obtain rfl := Option.some.inj hI1
  replace hm := hk1
  try dsimp only at hm
  refine bq_hit (nq (zr (zm rfl (zm rfl (za rfl (za rfl (zn (AW.ret ?_))))))))
  obtain rfl := Option.some.inj hm
  exact EndQ.d (.tmp .r (.tmp .r .nil)) rfl rfl

theorem m_nat_Power_ok {n : Nat} {a1 : (List Int)} {a2 : Int} {r : ((List Int) × Int)} (hm : m_nat_Power n a1 a2 = some r) : Fn Tryz.prog 102 [(.sl (a1.map D.i)), (.int .i64 a2)] (.tup [(.sl (r.1.map D.i)), (.int .i64 r.2)]) := by
 unfold m_nat_Power at hm
 refine Fn.of_AW (fnn := Tryz.f102) Tryz.func102 rfl (Nat.le_of_ble_eq_true rfl) (fun g0 w0 hw0 => ?_)
 refine AW.reset 0 [(0, .d (.sl (a1.map D.i))), (1, .d (.int .i64 a2))] [] (WOK.g0 hw0 (by simp)) ⟨[], rfl, rfl, rfl, ⟨(.d rfl), (.d rfl), trivial⟩, trivial, .nil⟩ (zr (zs (op_assignN .r) (za rfl (zn (AW.seq (AW.block (zr (zm rfl ?_))))))))
 obtain ⟨v3, hv3, hm⟩ := bindE hm
 refine zs (op_fn Tryz.call119 .r (.cons (.r rfl) .nil) (m_nat_Valid_ok hv3)) (zs (op_not (.r rfl)) (za rfl (zn ?_)))
 refine AW.cond (b := _) rfl (fun hc1 => ?_) (fun hc1 => ?_)
 ·replace hm := iteT hc1 hm
  refine zr (zs (op_assignN .r) (za rfl (zn (AW.ret (bq_ret (tq_ret ?_))))))
  obtain rfl := Option.some.inj hm
  exact EndQ.d (.tmp .r (.tmp .r .nil)) rfl rfl
 ·replace hm := iteF hc1 hm
  refine zr (zm rfl (zs (op_lss (.r rfl) (.r rfl)) (zm rfl (AL.sF rfl rfl rfl rfl (fun g => op_moveD .r) (AL.sF rfl rfl rfl rfl (fun g => op_gtr (.we (nt g) rfl rfl) (.r rfl)) (zs (op_or (.r rfl) rfl (fun h => (.we (nt h) rfl rfl))) (za rfl (zn ?_))))))))
  refine AW.cond (b := _) rfl (fun hc2 => ?_) (fun hc2 => ?_)
  ·replace hm := iteT hc2 hm
   refine zr (zs (op_assignN .r) (za rfl (zn (AW.ret (bq_ret (tq_ret ?_))))))
   obtain rfl := Option.some.inj hm
   exact EndQ.d (.tmp .r (.tmp .r .nil)) rfl rfl
  ·replace hm := iteF hc2 hm
   refine AW.skip (bq_n (nq (zr (zs (op_buildSlice (ds := ([(1 : Int)] : List Int).map D.i) sl125 (.cons (.r rfl) rfl (En.i.one _) .nil) rfl (by decide)) (zs (op_assignE .r) (zn (AW.seq (zr (zm rfl (zm rfl (zn (AW.block ?_))))))))))))
   obtain ⟨t_1, hI1, hk1⟩ := bindE hm
   refine AW.loopS (σ := ((List Int) × Int)) (τ := (((List Int) × Int) ⊕ (List Int))) 0 (fun x => [(0, .d (.sl (a1.map D.i))), (6, .d (.sl (x.1.map D.i))), (19, .d (.int .i64 a2)), (20, .d (.int .i64 x.2))]) (fun x => []) hI1 (WOK.g0 hw0 (by simp)) ⟨[], rfl, rfl, rfl, ⟨(.d rfl), (.d rfl), (.d rfl), (.d rfl), trivial⟩, trivial, .nil⟩ ?_
   rintro n1 ⟨s4, s5⟩ hI1
   obtain ⟨y_1, hm, hI1⟩ := iterS hI1
   replace hm : m_nat_Power_L1 n _ _ s4 s5 = some y_1 := hm
   unfold m_nat_Power_L1 at hm
   try dsimp only at hm
   refine zr (zs (op_lss (.r rfl) (.r rfl)) (zn (AW.seq ?_)))
   refine AW.cond (b := _) rfl (fun hc3 => ?_) (fun hc3 => ?_)
   ·replace hm := iteT hc3 hm
    refine AW.skip (nq (AW.seq (AW.block (zr (zm rfl (zm rfl ?_))))))
    obtain ⟨v6, hv6, hm⟩ := bindE hm
    refine zs (op_fn Tryz.call121 .r (.cons (.r rfl) (.cons (.r rfl) .nil)) (m_nat_times_ok hv6)) (za rfl (zn (zr (zm rfl (zs (op_lenM (f := D.i) (.r rfl) sl125) (zs (op_gtr (.r rfl) (.r rfl)) (zn ?_)))))))
    refine AW.cond (b := _) rfl (fun hc4 => ?_) (fun hc4 => ?_)
    ·replace hm := iteT hc4 hm
     refine zr (zs (op_assignN .r) (za rfl (zn (AW.ret (bq_ret (tq_ret (tq_ret ?_)))))))
     obtain rfl := Option.some.inj hm
     obtain rfl := Option.some.inj hI1
     replace hm := hk1
     try dsimp only at hm
     refine bq_ret (tq_ret ?_)
     obtain rfl := Option.some.inj hm
     exact EndQ.d (.tmp .r (.tmp .r .nil)) rfl rfl
    ·replace hm := iteF hc4 hm
     refine AW.skip (bq_n (nq (AW.region (zs (op_addw (.r rfl) (.r rfl)) (zm rfl (zn ?_))))))
     obtain rfl := Option.some.inj hm
     exact nq ⟨_, hI1, ⟨[], rfl, rfl, rfl, ⟨(.d rfl), (.d rfl), (.d rfl), (.d rfl), trivial⟩, trivial, .nil⟩⟩
   ·replace hm := iteF hc3 hm
    refine AW.exit (tq_exit (tq_exit ?_))
    obtain rfl := Option.some.inj hm
    obtain rfl := Option.some.inj hI1
    replace hm := hk1
    try dsimp only at hm
    refine bq_hit (nq (zr (zm rfl (za rfl (za rfl (zn (AW.ret ?_)))))))
    obtain rfl := Option.some.inj hm
    exact EndQ.d (.tmp .r (.tmp .r .nil)) rfl rfl

end Go.Proofs.YtgcmhhcopeiomaaGreat.Ab
