/- The functions do what they are in plain Lean. Conditions: none. -/
import Derived.Test.YtgcmhhcopeiomaaGreatTy
import Derived.Test.YtgcmhhcopeiomaaGreatMi
import Derived.Test.YtgcmhhcopeiomaaGreatFg
set_option maxRecDepth 100000
set_option maxHeartbeats 20000000
namespace Go.Proofs.YtgcmhhcopeiomaaGreat.Ab
open Go
attribute [local irreducible] AL AD AW

theorem m_law31_MatchAll_ok {n : Nat} {a1 : A72} {a2 : (List SFeatures)} {a3 : (List SPair)} {r : Bool} (hm : m_law31_MatchAll n a1 a2 a3 = some r) : Fn Tryz.prog 4 [(A72.e a1), (.sl (a2.map SFeatures.e)), (.sl (a3.map SPair.e))] (.bool r) := by
 unfold m_law31_MatchAll at hm
 refine Fn.of_AW (fnn := Tryz.f4) Tryz.func4 rfl (Nat.le_of_ble_eq_true rfl) (fun g0 w0 hw0 => ?_)
 refine AW.reset 0 [(0, .d (A72.e a1)), (1, .d (.sl (a2.map SFeatures.e))), (2, .d (.sl (a3.map SPair.e)))] [] (WOK.g0 hw0 (by simp)) ⟨[], rfl, rfl, rfl, ⟨(.d rfl), (.d rfl), (.d rfl), trivial⟩, trivial, .nil⟩ (zr (zs (op_box (n := 0) .r rfl rfl rfl) (za rfl (zn (AW.seq (zr ?_))))))
 obtain ⟨v4, hv4, hm⟩ := bindE hm
 refine zs (op_fn Tryz.call5 .r .nil (m_law31_awake_ok hv4)) (zs (op_not (.r rfl)) (zm rfl (AL.sF rfl rfl rfl rfl (fun g => op_moveD .r) (AL.sF rfl rfl rfl rfl (fun g => op_lenM (f := SFeatures.e) (.we (nt g) rfl rfl) sl44) (AL.sF rfl rfl rfl rfl (fun g => op_gtr (.we (nt g) rfl rfl) (.r rfl)) (zs (op_or (.r rfl) rfl (fun h => (.we (nt h) rfl rfl))) (zm rfl (AL.sF rfl rfl rfl rfl (fun g => op_moveD .r) (AL.sF rfl rfl rfl rfl (fun g => op_lenM (f := SPair.e) (.we (nt g) rfl rfl) sl45) (AL.sF rfl rfl rfl rfl (fun g => op_gtr (.we (nt g) rfl rfl) (.r rfl)) (zs (op_or (.r rfl) rfl (fun h => (.we (nt h) rfl rfl))) (zn ?_))))))))))))
 refine AW.cond (b := _) rfl (fun hc1 => ?_) (fun hc1 => ?_)
 ·replace hm := iteT hc1 hm
  refine zr ?_
  obtain ⟨v5, hv5, hm⟩ := bindE hm
  refine zs (op_fn Tryz.call5 .r .nil (m_law31_awake_ok hv5)) (za rfl (zn (AW.ret (tq_ret ?_))))
  obtain rfl := Option.some.inj hm
  exact EndQ.d (.tmp .r .nil) rfl rfl
 ·replace hm := iteF hc1 hm
  refine AW.skip (nq (AW.seq (zr (zm rfl (zs (op_lenM (f := SFeatures.e) (.r rfl) sl44) (zm rfl (zn (AW.block ?_))))))))
  obtain ⟨t_1, hI1, hk1⟩ := bindE hm
  refine AW.loopS (σ := Int) (τ := (Bool ⊕ Unit)) 0 (fun x => [(1, .d (.sl (a2.map SFeatures.e))), (2, .d (.sl (a3.map SPair.e))), (3, .ptr 0 0), (27, .d (.sl (a2.map SFeatures.e))), (28, .d (.int .i64 (a2.length : Int))), (29, .d (.int .i64 x))]) (fun x => [.row ((A72.e a1).cells.map .d)]) hI1 (WOK.g0 hw0 (by simp)) ⟨[0], rfl, rfl, rfl, ⟨(.d rfl), (.d rfl), (.ptr rfl), (.d rfl), (.d rfl), (.d rfl), trivial⟩, trivial, (.row rfl (cd (A72.e a1).cells) .nil)⟩ ?_
  rintro n1 s6 hI1
  obtain ⟨y_1, hm, hI1⟩ := iterS hI1
  replace hm : m_law31_MatchAll_L1 n _ s6 = some y_1 := hm
  unfold m_law31_MatchAll_L1 at hm
  try dsimp only at hm
  refine zr (zs (op_lss (.r rfl) (.r rfl)) (zn (AW.seq ?_)))
  refine AW.cond (b := _) rfl (fun hc2 => ?_) (fun hc2 => ?_)
  ·replace hm := iteT hc2 hm
   refine AW.skip (nq (AW.seq (AW.block (zr ?_))))
   obtain ⟨v7, hv7, hm⟩ := bindE hm
   refine zs (op_indexAddrM (f := SFeatures.e) (.r rfl) (.r rfl) hv7 enSFeatures sl44) (zs (op_loadA .r rfl ag25) (zs (op_alloc (n := 1) zr25 rfl) (zs (op_store .r .r rfl rfl rfl ⟨_, rfl, rfl⟩ rfl (Nat.le_of_ble_eq_true rfl)) (zn (zr (zs (op_load_ptrA .r rfl rfl rfl ag25) ?_))))))
   obtain ⟨v8, hv8, hm⟩ := bindE hm
   refine zs (op_fn Tryz.call6 .r (.cons (.r rfl) .nil) (m_ref29_Few_ok hv8)) (zs (op_not (.r rfl)) (zn ?_))
   refine AW.cond (b := _) rfl (fun hc3 => ?_) (fun hc3 => ?_)
   ·replace hm := iteT hc3 hm
    refine zr (za rfl (zn (AW.ret (bq_ret (tq_ret (tq_ret ?_))))))
    obtain rfl := Option.some.inj hm
    obtain rfl := Option.some.inj hI1
    replace hm := hk1
    try dsimp only at hm
    refine bq_ret (tq_ret ?_)
    obtain rfl := Option.some.inj hm
    exact EndQ.d (.tmp .r .nil) rfl rfl
   ·replace hm := iteF hc3 hm
    refine AW.skip (bq_n (nq (AW.region (zs (op_addw (.r rfl) (.r rfl)) (zm rfl (zn ?_))))))
    obtain rfl := Option.some.inj hm
    exact nq ⟨_, hI1, ⟨[0], rfl, rfl, rfl, ⟨(.d rfl), (.d rfl), (.ptr rfl), (.d rfl), (.d rfl), (.d rfl), trivial⟩, trivial, (.row rfl (cd (A72.e a1).cells) .nil)⟩⟩
  ·replace hm := iteF hc2 hm
   refine AW.exit (tq_exit (tq_exit ?_))
   obtain rfl := Option.some.inj hm
   obtain rfl := Option.some.inj hI1
   replace hm := hk1
   try dsimp only at hm
   refine bq_hit (nq (zr (zs (op_load_ptrA .r rfl rfl rfl ag43) ?_)))
   obtain ⟨v9, hv9, hm⟩ := bindE hm
   refine zs (op_fn Tryz.call11 .r (.cons (.r rfl) .nil) (m_law31_Own_ok hv9)) (zm rfl ?_)
   obtain ⟨v10, hv10, hm⟩ := bindE hm
   refine zs (op_fn Tryz.call12 .r (.cons (.r rfl) .nil) (m_law29_Owns_ok hv10)) (zm rfl ?_)
   obtain ⟨v11, hv11, hm⟩ := bindE hm
   refine zs (op_fn Tryz.call10 .r (.cons (.r rfl) (.cons (.r rfl) (.cons (.r rfl) .nil))) (m_match_All_ok hv11)) (zm rfl (zs (op_extractD .r rfl) (zs (op_extractD .r rfl) (za rfl (za rfl (zn (zr (zs (op_load_ptrA .r rfl rfl rfl ag43) (zm rfl (zm rfl ?_))))))))))
   obtain ⟨v12, hv12, hm⟩ := bindE hm
   refine zs (op_fn Tryz.call13 .r (.cons (.r rfl) (.cons (.r rfl) (.cons (.r rfl) .nil))) (m_ref31_All_ok hv12)) (zm rfl (zs (op_extractD .r rfl) (zs (op_extractD .r rfl) (za rfl (za rfl (zn (AW.seq (zr (zm rfl (zm rfl (zs (op_neq (.r rfl) (.r rfl)) (zm rfl (AL.sF rfl rfl rfl rfl (fun g => op_moveD .r) (AL.sF rfl rfl rfl rfl (fun g => op_lenM (f := SWeighted.e) (.we (nt g) rfl rfl) sl46) (AL.sF rfl rfl rfl rfl (fun g => op_moveD .r) (AL.sF rfl rfl rfl rfl (fun g => op_lenM (f := SWeighted.e) (.we (nt g) rfl rfl) sl56) (AL.sF rfl rfl rfl rfl (fun g => op_neq (.we (nt g) rfl rfl) (.we (nt g) rfl rfl)) (zs (op_or (.r rfl) rfl (fun h => (.we (nt h) rfl rfl))) (zn ?_)))))))))))))))))))
   refine AW.cond (b := _) rfl (fun hc4 => ?_) (fun hc4 => ?_)
   ·replace hm := iteT hc4 hm
    refine AW.reset 0 [] [.row ((A72.e a1).cells.map .d)] (WOK.g0 hw0 (by simp)) ⟨[0], rfl, rfl, rfl, trivial, trivial, (.row rfl (cd (A72.e a1).cells) .nil)⟩ (zr (za rfl (zn (AW.ret (tq_ret ?_)))))
    obtain rfl := Option.some.inj hm
    exact EndQ.d (.tmp .r .nil) rfl rfl
   ·replace hm := iteF hc4 hm
    refine AW.skip (nq (AW.seq (zr (zm rfl (zs (op_lenM (f := SWeighted.e) (.r rfl) sl46) (zm rfl (zn (AW.block ?_))))))))
    obtain ⟨t_2, hI2, hk2⟩ := bindE hm
    refine AW.loopS (σ := Int) (τ := (Bool ⊕ Unit)) 0 (fun x => [(9, .d (.sl (v11.1.map SWeighted.e))), (11, .d (.sl (v12.1.map SWeighted.e))), (64, .d (.int .i64 (v11.1.length : Int))), (65, .d (.int .i64 x))]) (fun x => [.row ((A72.e a1).cells.map .d)]) hI2 (WOK.g0 hw0 (by simp)) ⟨[0], rfl, rfl, rfl, ⟨(.d rfl), (.d rfl), (.d rfl), (.d rfl), trivial⟩, trivial, (.row rfl (cd (A72.e a1).cells) .nil)⟩ ?_
    rintro n2 s13 hI2
    obtain ⟨y_2, hm, hI2⟩ := iterS hI2
    replace hm : m_law31_MatchAll_L2 n _ _ s13 = some y_2 := hm
    unfold m_law31_MatchAll_L2 at hm
    try dsimp only at hm
    refine zr (zs (op_lss (.r rfl) (.r rfl)) (zn (AW.seq ?_)))
    refine AW.cond (b := _) rfl (fun hc5 => ?_) (fun hc5 => ?_)
    ·replace hm := iteT hc5 hm
     refine AW.skip (nq (AW.seq (AW.block (zr (zm rfl (za rfl (zn (AW.seqD [([], []), ([], []), ([], []), ([], []), ([], []), ([], []), ([], []), ([], []), ([], [])] mo (by decide +kernel) (AD.s (ws := []) rfl rfl (fun H' _ hH => op_moveD .r) (AD.s (ws := []) rfl rfl (fun H' _ hH => op_moveD .r) ?_))))))))))
     obtain ⟨v14, hv14, hm⟩ := bindE hm
     refine AD.s (ws := []) rfl rfl (fun H' _ hH => op_indexAddrM (f := SWeighted.e) (.r rfl) (.r rfl) hv14 enSWeighted sl46) (AD.s (ws := []) rfl rfl (fun H' _ hH => op_loadA .r rfl ag63) (AD.s (ws := []) rfl rfl (fun H' _ hH => op_moveD .r) (AD.s (ws := []) rfl rfl (fun H' _ hH => op_moveD .r) ?_)))
     obtain ⟨v15, hv15, hm⟩ := bindE hm
     refine AD.s (ws := []) rfl rfl (fun H' _ hH => op_indexAddrM (f := SWeighted.e) (.r rfl) (.r rfl) hv15 enSWeighted sl56) (AD.s (ws := []) rfl rfl (fun H' _ hH => op_loadA .r rfl ag62) (AD.s (ws := []) rfl rfl (fun H' _ hH => op_neqSt (a := v14) (b := v15) es62 (.r rfl) (.r rfl)) (AD.nil ?_)))
     refine AW.cond (b := _) rfl (fun hc6 => ?_) (fun hc6 => ?_)
     ·replace hm := iteT hc6 hm
      refine zr (za rfl (zn (AW.ret (bq_ret (tq_ret (tq_ret ?_))))))
      obtain rfl := Option.some.inj hm
      obtain rfl := Option.some.inj hI2
      replace hm := hk2
      try dsimp only at hm
      refine bq_ret (tq_ret ?_)
      obtain rfl := Option.some.inj hm
      exact EndQ.d (.tmp .r .nil) rfl rfl
     ·replace hm := iteF hc6 hm
      refine AW.skip (bq_n (nq (AW.region (zs (op_addw (.r rfl) (.r rfl)) (zm rfl (zn ?_))))))
      obtain rfl := Option.some.inj hm
      exact nq ⟨_, hI2, ⟨[0], rfl, rfl, rfl, ⟨(.d rfl), (.d rfl), (.d rfl), (.d rfl), trivial⟩, trivial, (.row rfl (cd (A72.e a1).cells) .nil)⟩⟩
    ·replace hm := iteF hc5 hm
     refine AW.exit (tq_exit (tq_exit ?_))
     obtain rfl := Option.some.inj hm
     obtain rfl := Option.some.inj hI2
     replace hm := hk2
     try dsimp only at hm
     refine bq_hit (nq (zr (za rfl (zn (AW.ret ?_)))))
     obtain rfl := Option.some.inj hm
     exact EndQ.d (.tmp .r .nil) rfl rfl

end Go.Proofs.YtgcmhhcopeiomaaGreat.Ab
