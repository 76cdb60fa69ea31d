/- The functions do what they are in plain Lean. Conditions: none. -/
import Derived.Test.YtkdefjliknpliaaGreatDoorTy
import Derived.Test.YtkdefjliknpliaaGreatDoorMi
import Derived.Test.YtkdefjliknpliaaGreatDoorFd
set_option maxRecDepth 100000
set_option maxHeartbeats 20000000
namespace Go.Proofs.YtkdefjliknpliaaGreatDoor.Ab
open Go
attribute [local irreducible] AL AD AW nlO nlV nlD
theorem m_ref29_SameTexts_ok {n : Nat} {a1 : (List (List UInt8))} {a2 : (List (List UInt8))} {r : Bool} (hm : m_ref29_SameTexts n a1 a2 = some r) : Fn Tryz.prog 16 [(.sl (a1.map D.str)), (.sl (a2.map D.str))] (.bool r) := by
 unfold m_ref29_SameTexts at hm
 refine Fn.of_AW (fnn := Tryz.f16) Tryz.func16 rfl (Nat.le_of_ble_eq_true rfl) (fun g0 w0 hw0 => ?_)
 refine AW.reset 0 [(0, .d (.sl (a1.map D.str))), (1, .d (.sl (a2.map D.str)))] [] (WOK.g0 hw0 (by simp)) ⟨[], rfl, rfl, rfl, ⟨(.d rfl), (.d rfl), trivial⟩, trivial, .nil⟩ (zr (za rfl (zn (AW.seq (zr (zm rfl (zs (op_lenM (f := D.str) (.r rfl) sl37) (zm rfl (zs (op_lenM (f := D.str) (.r rfl) sl37) (zs (op_neq (.r rfl) (.r rfl)) (zn ?_)))))))))))
 refine AW.cond (b := _) rfl (fun hc1 => ?_) (fun hc1 => ?_)
 ·replace hm := iteT hc1 hm
  refine zr (za rfl (zn (AW.ret (tq_ret ?_))))
  obtain rfl := Option.some.inj hm
  exact EndQ.d (.tmp .r .nil) rfl rfl
 ·replace hm := iteF hc1 hm
  refine AW.skip (nq (AW.seq (zr (za rfl (zn (AW.block ?_))))))
  obtain ⟨t_1, hI1, hk1⟩ := bindE hm
  refine AW.loopS (σ := Int) (τ := (Bool ⊕ Unit)) 0 (fun x => [(0, .d (.sl (a1.map D.str))), (1, .d (.sl (a2.map D.str))), (5, .d (.int .i64 x))]) (fun x => []) hI1 (WOK.g0 hw0 (by simp)) ⟨[], rfl, rfl, rfl, ⟨(.d rfl), (.d rfl), (.d rfl), trivial⟩, trivial, .nil⟩ ?_
  rintro n1 s3 hI1
  obtain ⟨y_1, hm, hI1⟩ := iterS hI1
  replace hm : m_ref29_SameTexts_L1 n _ _ s3 = some y_1 := hm
  unfold m_ref29_SameTexts_L1 at hm
  try dsimp only at hm
  refine AW.seq (zr (zm rfl (zm rfl (zs (op_lenM (f := D.str) (.r rfl) sl37) (zs (op_lss (.r rfl) (.r rfl)) (zn ?_))))))
  refine AW.cond (b := _) rfl (fun hc2 => ?_) (fun hc2 => ?_)
  ·replace hm := iteT hc2 hm
   refine AW.skip (nq (AW.seq (AW.block (AW.seqD [([], []), ([], []), ([], []), ([], []), ([], []), ([], []), ([], []), ([], []), ([], [])] mo (by decide +kernel) (AD.s (ws := []) rfl rfl (fun H' _ hH => op_moveD .r) (AD.s (ws := []) rfl rfl (fun H' _ hH => op_moveD .r) ?_))))))
   obtain ⟨v4, hv4, hm⟩ := bindE hm
   refine AD.s (ws := []) rfl rfl (fun H' _ hH => op_indexAddrM (f := D.str) (.r rfl) (.r rfl) hv4 En.str sl37) (AD.s (ws := []) rfl rfl (fun H' _ hH => op_load_vp1 .r rfl sc9) (AD.s (ws := []) rfl rfl (fun H' _ hH => op_moveD .r) (AD.s (ws := []) rfl rfl (fun H' _ hH => op_moveD .r) ?_)))
   obtain ⟨v5, hv5, hm⟩ := bindE hm
   refine AD.s (ws := []) rfl rfl (fun H' _ hH => op_indexAddrM (f := D.str) (.r rfl) (.r rfl) hv5 En.str sl37) (AD.s (ws := []) rfl rfl (fun H' _ hH => op_load_vp1 .r rfl sc9) (AD.s (ws := []) rfl rfl (fun H' _ hH => op_neqS (.r rfl) (.r rfl)) (AD.nil ?_)))
   refine AW.cond (b := _) rfl (fun hc3 => ?_) (fun hc3 => ?_)
   ·replace hm := iteT hc3 hm
    refine zr (za rfl (zn (AW.ret (bq_ret (tq_ret (tq_ret ?_))))))
    obtain rfl := Option.some.inj hm
    obtain rfl := Option.some.inj hI1
    replace hm := hk1
    try dsimp only at hm
    refine bq_ret (tq_ret ?_)
    obtain rfl := Option.some.inj hm
    exact EndQ.d (.tmp .r .nil) rfl rfl
   ·replace hm := iteF hc3 hm
    refine AW.skip (bq_n (nq (AW.region (zm rfl (zs (op_addw (.r rfl) (.r rfl)) (za rfl (zn ?_)))))))
    obtain rfl := Option.some.inj hm
    exact nq ⟨_, hI1, ⟨[], rfl, rfl, rfl, ⟨(.d rfl), (.d rfl), (.d rfl), trivial⟩, trivial, .nil⟩⟩
  ·replace hm := iteF hc2 hm
   refine AW.exit (tq_exit (tq_exit ?_))
   obtain rfl := Option.some.inj hm
   obtain rfl := Option.some.inj hI1
   replace hm := hk1
   try dsimp only at hm
   refine bq_hit (nq (zr (za rfl (zn (AW.ret ?_)))))
   obtain rfl := Option.some.inj hm
   exact EndQ.d (.tmp .r .nil) rfl rfl
theorem m_law30_awake_ok {n : Nat} {r : Bool} (hm : m_law30_awake n  = some r) : Fn Tryz.prog 9 [] (.bool r) := by
 unfold m_law30_awake at hm
 refine Fn.of_AW (fnn := Tryz.f9) Tryz.func9 rfl (Nat.le_of_ble_eq_true rfl) (fun g0 w0 hw0 => ?_)
 refine zr (za rfl (zn (zr (zs (op_buildSlice (ds := ([([116, 104, 101] : List UInt8), ([111, 114, 105, 103, 105, 110] : List UInt8), ([111, 102] : List UInt8), ([115, 112, 101, 99, 105, 101, 115] : List UInt8)] : List (List UInt8)).map D.str) sl37 (.cons (.r rfl) rfl (En.str.one _) (.cons (.r rfl) rfl (En.str.one _) (.cons (.r rfl) rfl (En.str.one _) (.cons (.r rfl) rfl (En.str.one _) .nil)))) rfl (by decide)) (zs (op_buildSlice (ds := ([(1859 : Int)] : List Int).map D.i) sl38 (.cons (.r rfl) rfl (En.i.one _) .nil) rfl (by decide)) (zs (op_build bd43 (.cons .r rfl rfl rfl rfl (Nat.le_of_ble_eq_true rfl) (.cons .r rfl rfl rfl rfl (Nat.le_of_ble_eq_true rfl) (.cons .r rfl rfl rfl rfl (Nat.le_of_ble_eq_true rfl) (.cons .r rfl rfl rfl rfl (Nat.le_of_ble_eq_true rfl) .nil))))) (zs (op_alloc (n := 0) zr43 rfl) (zs (op_storeA .r .r rfl rfl ⟨_, rfl, rfl⟩ rfl (Nat.le_of_ble_eq_true rfl)) (zn (AW.reset 0 [(1, .ptr 0 0)] [.row [.d (.int .i64 (3 : Int)), .ex (([([116, 104, 101] : List UInt8), ([111, 114, 105, 103, 105, 110] : List UInt8), ([111, 102] : List UInt8), ([115, 112, 101, 99, 105, 101, 115] : List UInt8)] : List (List UInt8)).map D.str), .d (.str ([100, 97, 114, 119, 105, 110] : List UInt8)), .ex (([(1859 : Int)] : List Int).map D.i), .ex ([].map D.str), .ex ([].map D.str), .ex ([].map D.str), .ex ([].map D.str)]] (WOK.g0 hw0 (by simp)) ⟨[0], rfl, rfl, rfl, ⟨(.ptr rfl), trivial⟩, trivial, (.row rfl (.cons (.d rfl) (.cons .ex (.cons (.d rfl) (.cons .ex (.cons .ex (.cons .ex (.cons .ex (.cons .ex .nil)))))))) .nil)⟩ (zr (zs (op_load_ptrA .r rfl rfl rfl ag43) (zs (op_buildSlice (ds := ([(⟨(3 : Int), ([([116, 104, 101] : List UInt8), ([111, 114, 105, 103, 105, 110] : List UInt8), ([111, 102] : List UInt8), ([115, 112, 101, 99, 105, 101, 115] : List UInt8)] : List (List UInt8)), ([100, 97, 114, 119, 105, 110] : List UInt8), ([(1859 : Int)] : List Int), [], [], [], []⟩ : SFeatures)] : List SFeatures).map SFeatures.e) sl30 (.cons (.r rfl) rfl (enSFeatures.one _) .nil) rfl (by decide)) ?_)))))))))))))
 obtain ⟨v1, hv1, hm⟩ := bindE hm
 refine zs (op_fn Tryz.call11 .r (.cons (.r rfl) .nil) (m_block_Of_ok hv1)) (zm rfl (zs (op_extractD .r rfl) (zs (op_extractD .r rfl) (za rfl (za rfl (zn (zr (zm rfl (zs (op_eql (.r rfl) (.r rfl)) (zm rfl (AL.sT rfl rfl rfl rfl (fun g => op_moveD .r) (AL.sT rfl rfl rfl rfl (fun g => op_lenM (f := SBlock.e) (.we g rfl rfl) sl26) (AL.sT rfl rfl rfl rfl (fun g => op_eql (.we g rfl rfl) (.r rfl)) (zs (op_and (.r rfl) (fun h => (.we h rfl rfl)) rfl) (zm rfl (AL.sT rfl rfl rfl rfl (fun g => op_moveD .r) ?_))))))))))))))))
 obtain ⟨v2, hv2, hm⟩ := bindE hm
 refine AL.sT rfl rfl rfl rfl (fun g => op_indexAddrM (f := SBlock.e) (.we g rfl rfl) (.r rfl) (iteT g hv2) enSBlock sl26) (AL.sT rfl rfl rfl rfl (fun g => op_field_vp (.we g rfl) fd75_0) (AL.sT rfl rfl rfl rfl (fun g => op_load_vp1 (.we g rfl) rfl sc9) (AL.sT rfl rfl rfl rfl (fun g => op_eqlS (.we g rfl rfl) (.r rfl)) (zs (op_and (.r rfl) (fun h => (.we h rfl rfl)) rfl) (zm rfl (AL.sT rfl rfl rfl rfl (fun g => op_load_ptrA .r rfl rfl rfl ag43) ?_))))))
 obtain ⟨v3, hv3, hm⟩ := bindE hm
 refine AL.sT rfl rfl rfl rfl (fun g => op_fn Tryz.call17 .r (.cons (.we g rfl rfl) .nil) (m_block_Keys_ok (iteT g hv3))) (AL.sT rfl rfl rfl rfl (fun g => op_buildSlice (ds := ([([97, 32, 100, 97, 114, 119, 105, 110, 32, 116, 104, 101] : List UInt8), ([116, 32, 116, 104, 101, 32, 111, 114, 105, 103, 105, 110, 32, 111, 102] : List UInt8), ([121, 32, 49, 56, 53, 57, 32, 115, 112, 101, 99, 105, 101, 115] : List UInt8)] : List (List UInt8)).map D.str) sl37 (.cons (.r rfl) rfl (En.str.one _) (.cons (.r rfl) rfl (En.str.one _) (.cons (.r rfl) rfl (En.str.one _) .nil))) rfl (by decide)) ?_)
 obtain ⟨v4, hv4, hm⟩ := bindE hm
 refine AL.sT rfl rfl rfl rfl (fun g => op_fn Tryz.call16 .r (.cons (.we g rfl rfl) (.cons (.we g rfl rfl) .nil)) (m_ref29_SameTexts_ok (iteT g hv4))) (zs (op_and (.r rfl) (fun h => (.we h rfl rfl)) rfl) (zm rfl (AL.sT rfl rfl rfl rfl (fun g => op_moveD .r) ?_)))
 obtain ⟨v5, hv5, hm⟩ := bindE hm
 refine AL.sT rfl rfl rfl rfl (fun g => op_fn Tryz.call27 .r (.cons (.we g rfl rfl) .nil) (m_block_Valid_ok (iteT g hv5))) (zs (op_and (.r rfl) (fun h => (.we h rfl rfl)) rfl) (za rfl (zn (AW.ret ?_))))
 obtain rfl := Option.some.inj hm
 exact EndQ.d (.tmp .r .nil) rfl rfl
theorem m_ref29_Few_ok {n : Nat} {a1 : SFeatures} {r : Bool} (hm : m_ref29_Few n a1 = some r) : Fn Tryz.prog 21 [(SFeatures.e a1)] (.bool r) := by
 unfold m_ref29_Few at hm
 refine Fn.of_AW (fnn := Tryz.f21) Tryz.func21 rfl (Nat.le_of_ble_eq_true rfl) (fun g0 w0 hw0 => ?_)
 refine AW.reset 0 [(0, .d (SFeatures.e a1))] [] (WOK.g0 hw0 (by simp)) ⟨[], rfl, rfl, rfl, ⟨(.d rfl), trivial⟩, trivial, .nil⟩ (zr (zs (op_box (n := 0) .r rfl rfl rfl) (za rfl (zn (AW.free (AW.free (AW.free (AW.free (AW.free (AW.seqD [([], []), ([0], []), ([], []), ([], []), ([0], []), ([], [1]), ([], []), ([0], []), ([1], [1]), ([], []), ([0], []), ([1], [1]), ([], []), ([0], []), ([1], [1]), ([], []), ([0], []), ([1], [1]), ([], [])] mo (by decide +kernel) (AD.s (ws := []) rfl rfl (fun H' _ hH => op_field_ptr .r fd40_2) (AD.s (ws := []) rfl rfl (fun H' _ hH => op_load_ptr1 .r ((hH _ (by simp)).trans rfl) rfl sc9) (AD.s (ws := []) rfl rfl (fun H' _ hH => op_buildSlice (ds := ([a1.fAuthor] : List (List UInt8)).map D.str) sl37 (.cons (.r rfl) rfl (En.str.one _) .nil) rfl (by decide)) (AD.s (ws := []) rfl rfl (fun H' _ hH => op_field_ptr .r fd40_1) (AD.s (ws := []) rfl rfl (fun H' _ hH => op_load_ptr1 .r ((hH _ (by simp)).trans rfl) rfl sc37) ?_)))))))))))))))
 obtain ⟨v2, hv2, hm⟩ := bindE hm
 refine AD.s (ws := [(1, _)]) rfl rfl (fun H' _ hH => op_appendERM (res := 1) (f := D.str) (l := ([a1.fAuthor] : List (List UInt8))) (l' := a1.fTitle) sl37 .r (.r rfl) ((hH _ (by simp)).trans rfl) En.str hv2) (AD.s (ws := []) rfl rfl (fun H' _ hH => op_field_ptr .r fd40_4) (AD.s (ws := []) rfl rfl (fun H' _ hH => op_load_ptr1 .r ((hH _ (by simp)).trans rfl) rfl sc37) ?_))
 obtain ⟨v3, hv3, hm⟩ := bindE hm
 refine AD.s (ws := [(1, _)]) rfl rfl (fun H' _ hH => op_appendM (f := D.str) (l' := a1.fIsbns) sl37 .r (.r rfl) ((hH _ (by simp)).trans rfl) rfl En.str hv3) (AD.s (ws := []) rfl rfl (fun H' _ hH => op_field_ptr .r fd40_5) (AD.s (ws := []) rfl rfl (fun H' _ hH => op_load_ptr1 .r ((hH _ (by simp)).trans rfl) rfl sc37) ?_))
 obtain ⟨v4, hv4, hm⟩ := bindE hm
 refine AD.s (ws := [(1, _)]) rfl rfl (fun H' _ hH => op_appendM (f := D.str) (l' := a1.fLangs) sl37 .r (.r rfl) ((hH _ (by simp)).trans rfl) rfl En.str hv4) (AD.s (ws := []) rfl rfl (fun H' _ hH => op_field_ptr .r fd40_6) (AD.s (ws := []) rfl rfl (fun H' _ hH => op_load_ptr1 .r ((hH _ (by simp)).trans rfl) rfl sc37) ?_))
 obtain ⟨v5, hv5, hm⟩ := bindE hm
 refine AD.s (ws := [(1, _)]) rfl rfl (fun H' _ hH => op_appendM (f := D.str) (l' := a1.fPublisher) sl37 .r (.r rfl) ((hH _ (by simp)).trans rfl) rfl En.str hv5) (AD.s (ws := []) rfl rfl (fun H' _ hH => op_field_ptr .r fd40_7) (AD.s (ws := []) rfl rfl (fun H' _ hH => op_load_ptr1 .r ((hH _ (by simp)).trans rfl) rfl sc37) ?_))
 obtain ⟨v6, hv6, hm⟩ := bindE hm
 refine AD.s (ws := [(1, _)]) rfl rfl (fun H' _ hH => op_appendM (f := D.str) (l' := a1.fEdition) sl37 .r (.r rfl) ((hH _ (by simp)).trans rfl) rfl En.str hv6) (AD.s (ws := []) rfl rfl (fun H' _ hH => op_assignT .r) (AD.nil (zr (za rfl (zn (AW.seq (zr (za rfl (zn (AW.block ?_))))))))))
 obtain ⟨t_1, hI1, hk1⟩ := bindE hm
 refine AW.loopS (σ := (Int × Int)) (τ := (Bool ⊕ Int)) 0 (fun x => [(1, .ptr 0 0), (3, .tk 1 (v6.map D.str)), (4, .d (.int .i64 x.1)), (5, .d (.int .i64 x.2))]) (fun x => [.row [.d (.int .i64 a1.fID), .d (.sl (a1.fTitle.map D.str)), .d (.str a1.fAuthor), .d (.sl (a1.fYears.map D.i)), .d (.sl (a1.fIsbns.map D.str)), .d (.sl (a1.fLangs.map D.str)), .d (.sl (a1.fPublisher.map D.str)), .d (.sl (a1.fEdition.map D.str))], .tok v6.length 9 1, .dead, .dead, .dead, .dead]) hI1 (WOK.g0 hw0 (by simp)) ⟨[0, 1, 2, 3, 4, 5], rfl, rfl, rfl, ⟨(.ptr rfl), (.tk rfl), (.d rfl), (.d rfl), trivial⟩, trivial, (.row rfl (.cons (.d rfl) (.cons (.d rfl) (.cons (.d rfl) (.cons (.d rfl) (.cons (.d rfl) (.cons (.d rfl) (.cons (.d rfl) (.cons (.d rfl) .nil)))))))) (.tok rfl (.dead (.dead (.dead (.dead .nil))))))⟩ ?_
 rintro n1 ⟨s7, s8⟩ hI1
 obtain ⟨y_1, hm, hI1⟩ := iterS hI1
 replace hm : m_ref29_Few_L1 n _ s7 s8 = some y_1 := hm
 unfold m_ref29_Few_L1 at hm
 try dsimp only at hm
 refine AW.seq (zr (zm rfl (zs (op_moveT .r) (zs (op_lenM (f := D.str) (.r rfl) sl37) (zs (op_lss (.r rfl) (.r rfl)) (zm rfl (AL.sT rfl rfl rfl rfl (fun g => op_moveD .r) (AL.sT rfl rfl rfl rfl (fun g => op_lss (.we g rfl rfl) (.r rfl)) (zs (op_and (.r rfl) (fun h => (.we h rfl rfl)) rfl) (zn ?_))))))))))
 refine AW.cond (b := _) rfl (fun hc1 => ?_) (fun hc1 => ?_)
 ·replace hm := iteT hc1 hm
  refine AW.skip (nq (AW.seq (AW.block (AW.seq (zr (zs (op_moveT .r) (zm rfl ?_)))))))
  obtain ⟨v9, hv9, hm⟩ := bindE hm
  refine zs (op_indexAddrM (f := D.str) (.r rfl) (.r rfl) hv9 En.str sl37) (zs (op_load_vp1 .r rfl sc9) (zs (op_lenS (.r rfl) Tryz.underlying9) (zs (op_gtr (.r rfl) (.r rfl)) (zn ?_))))
  refine AW.cond (b := _) rfl (fun hc2 => ?_) (fun hc2 => ?_)
  ·replace hm := iteT hc2 hm
   refine zr (za rfl (zn (AW.ret (tq_ret (bq_ret (tq_ret (tq_ret ?_)))))))
   obtain rfl := Option.some.inj hm
   obtain rfl := Option.some.inj hI1
   replace hm := hk1
   try dsimp only at hm
   refine bq_ret (tq_ret ?_)
   obtain rfl := Option.some.inj hm
   exact EndQ.d (.tmp .r .nil) rfl rfl
  ·replace hm := iteF hc2 hm
   refine AW.skip (nq (AW.region (zm rfl (zs (op_moveT .r) (zm rfl ?_)))))
   obtain ⟨v10, hv10, hm⟩ := bindE hm
   refine zs (op_indexAddrM (f := D.str) (.r rfl) (.r rfl) hv10 En.str sl37) (zs (op_load_vp1 .r rfl sc9) (zs (op_lenS (.r rfl) Tryz.underlying9) (zs (op_addw (.r rfl) (.r rfl)) (za rfl (zn (bq_n (nq (AW.region (zm rfl (zs (op_addw (.r rfl) (.r rfl)) (za rfl (zn ?_))))))))))))
   obtain rfl := Option.some.inj hm
   exact nq ⟨_, hI1, ⟨[0, 1, 2, 3, 4, 5], rfl, rfl, rfl, ⟨(.ptr rfl), (.tk rfl), (.d rfl), (.d rfl), trivial⟩, trivial, (.row rfl (.cons (.d rfl) (.cons (.d rfl) (.cons (.d rfl) (.cons (.d rfl) (.cons (.d rfl) (.cons (.d rfl) (.cons (.d rfl) (.cons (.d rfl) .nil)))))))) (.tok rfl (.dead (.dead (.dead (.dead .nil))))))⟩⟩
 ·replace hm := iteF hc1 hm
  refine AW.exit (tq_exit (tq_exit ?_))
  obtain rfl := Option.some.inj hm
  obtain rfl := Option.some.inj hI1
  replace hm := hk1
  try dsimp only at hm
  refine bq_hit (nq (zr (zs (op_moveT .r) (zs (op_lenM (f := D.str) (.r rfl) sl37) (zs (op_leq (.r rfl) (.r rfl)) (zm rfl (AL.sF rfl rfl rfl rfl (fun g => op_moveT .r) (AL.sF rfl rfl rfl rfl (fun g => op_lenM (f := D.str) (.we (nt g) rfl rfl) sl37) (AL.sF rfl rfl rfl rfl (fun g => op_geq (.we (nt g) rfl rfl) (.r rfl)) (AL.sF rfl rfl rfl rfl (fun g => op_moveD (.we (nt g) rfl)) (AL.sTT rfl rfl rfl rfl (fun gp g => op_moveT .r) (AL.sTT rfl rfl rfl rfl (fun gp g => op_lenM (f := D.str) (.we (an gp g) rfl rfl) sl37) (AL.sTT rfl rfl rfl rfl (fun gp g => op_leq (.we (an gp g) rfl rfl) (.r rfl)) (AL.sF rfl rfl rfl rfl (fun g => op_and (.we (nt g) rfl rfl) (fun h => (.we (an (nt g) h) rfl rfl)) rfl) (zs (op_or (.r rfl) rfl (fun h => (.we (nt h) rfl rfl))) (zm rfl (AL.sT rfl rfl rfl rfl (fun g => op_moveD .r) (AL.sT rfl rfl rfl rfl (fun g => op_leq (.we g rfl rfl) (.r rfl)) (zs (op_and (.r rfl) (fun h => (.we h rfl rfl)) rfl) (zm rfl (AL.sT rfl rfl rfl rfl (fun g => op_field_ptr .r fd40_3) (AL.sT rfl rfl rfl rfl (fun g => op_load_ptr1 (.we g rfl) rfl rfl sc38) (AL.sT rfl rfl rfl rfl (fun g => op_lenM (f := D.i) (.we g rfl rfl) sl38) (AL.sT rfl rfl rfl rfl (fun g => op_leq (.we g rfl rfl) (.r rfl)) (zs (op_and (.r rfl) (fun h => (.we h rfl rfl)) rfl) (za rfl (zn (AW.ret ?_))))))))))))))))))))))))))))
  obtain rfl := Option.some.inj hm
  exact EndQ.d (.tmp .r .nil) rfl rfl
theorem m_law30_few_ok {n : Nat} {a1 : (List SFeatures)} {r : Bool} (hm : m_law30_few n a1 = some r) : Fn Tryz.prog 10 [(.sl (a1.map SFeatures.e))] (.bool r) := by
 unfold m_law30_few at hm
 refine Fn.of_AW (fnn := Tryz.f10) Tryz.func10 rfl (Nat.le_of_ble_eq_true rfl) (fun g0 w0 hw0 => ?_)
 refine AW.reset 0 [(0, .d (.sl (a1.map SFeatures.e)))] [] (WOK.g0 hw0 (by simp)) ⟨[], rfl, rfl, rfl, ⟨(.d rfl), trivial⟩, trivial, .nil⟩ (zr (za rfl (zn (AW.seq (zr (zm rfl (zs (op_lenM (f := SFeatures.e) (.r rfl) sl22) (zm rfl (zn (AW.block ?_))))))))))
 obtain ⟨t_1, hI1, hk1⟩ := bindE hm
 refine AW.loopS (σ := Int) (τ := (Bool ⊕ Unit)) 0 (fun x => [(0, .d (.sl (a1.map SFeatures.e))), (5, .d (.sl (a1.map SFeatures.e))), (6, .d (.int .i64 (a1.length : Int))), (7, .d (.int .i64 x))]) (fun x => []) hI1 (WOK.g0 hw0 (by simp)) ⟨[], rfl, rfl, rfl, ⟨(.d rfl), (.d rfl), (.d rfl), (.d rfl), trivial⟩, trivial, .nil⟩ ?_
 rintro n1 s2 hI1
 obtain ⟨y_1, hm, hI1⟩ := iterS hI1
 replace hm : m_law30_few_L1 n _ s2 = some y_1 := hm
 unfold m_law30_few_L1 at hm
 try dsimp only at hm
 refine zr (zs (op_lss (.r rfl) (.r rfl)) (zn (AW.seq ?_)))
 refine AW.cond (b := _) rfl (fun hc1 => ?_) (fun hc1 => ?_)
 ·replace hm := iteT hc1 hm
  refine AW.skip (nq (AW.seq (AW.block (zr ?_))))
  obtain ⟨v3, hv3, hm⟩ := bindE hm
  refine zs (op_indexAddrM (f := SFeatures.e) (.r rfl) (.r rfl) hv3 enSFeatures sl22) (zs (op_loadA .r rfl ag40) (zs (op_alloc (n := 0) zr40 rfl) (zs (op_store .r .r rfl rfl rfl ⟨_, rfl, rfl⟩ rfl (Nat.le_of_ble_eq_true rfl)) (zn (zr (zs (op_load_ptrA .r rfl rfl rfl ag40) ?_))))))
  obtain ⟨v4, hv4, hm⟩ := bindE hm
  refine zs (op_fn Tryz.call21 .r (.cons (.r rfl) .nil) (m_ref29_Few_ok hv4)) (zs (op_not (.r rfl)) (zn ?_))
  refine AW.cond (b := _) rfl (fun hc2 => ?_) (fun hc2 => ?_)
  ·replace hm := iteT hc2 hm
   refine zr (za rfl (zn (AW.ret (bq_ret (tq_ret (tq_ret ?_))))))
   obtain rfl := Option.some.inj hm
   obtain rfl := Option.some.inj hI1
   replace hm := hk1
   try dsimp only at hm
   refine bq_ret (tq_ret ?_)
   obtain rfl := Option.some.inj hm
   exact EndQ.d (.tmp .r .nil) rfl rfl
  ·replace hm := iteF hc2 hm
   refine AW.skip (bq_n (nq (AW.region (zs (op_addw (.r rfl) (.r rfl)) (zm rfl (zn ?_))))))
   obtain rfl := Option.some.inj hm
   exact nq ⟨_, hI1, ⟨[], rfl, rfl, rfl, ⟨(.d rfl), (.d rfl), (.d rfl), (.d rfl), trivial⟩, trivial, .nil⟩⟩
 ·replace hm := iteF hc1 hm
  refine AW.exit (tq_exit (tq_exit ?_))
  obtain rfl := Option.some.inj hm
  obtain rfl := Option.some.inj hI1
  replace hm := hk1
  try dsimp only at hm
  refine bq_hit (nq (zr (zm rfl (zs (op_lenM (f := SFeatures.e) (.r rfl) sl22) (zs (op_leq (.r rfl) (.r rfl)) (za rfl (zn (AW.ret ?_))))))))
  obtain rfl := Option.some.inj hm
  exact EndQ.d (.tmp .r .nil) rfl rfl
theorem m_law29_Own_ok {n : Nat} {a1 : SFeatures} {r : SFeatures} (hm : m_law29_Own n a1 = some r) : Fn Tryz.prog 18 [(SFeatures.e a1)] (SFeatures.e r) := by
 unfold m_law29_Own at hm
 refine Fn.of_AW (fnn := Tryz.f18) Tryz.func18 rfl (Nat.le_of_ble_eq_true rfl) (fun g0 w0 hw0 => ?_)
 refine zr (zs (op_box (n := 0) .r rfl rfl rfl) (zs (op_alloc (n := 1) zr43 rfl) (zn (zr (zs (op_load_ptrA .r rfl rfl rfl ag40) (zs (op_storeA .r .r rfl rfl ⟨_, rfl, rfl⟩ rfl (Nat.le_of_ble_eq_true rfl)) (zn (AW.ret ?_))))))))
 obtain rfl := Option.some.inj hm
 exact EndQ.d (.cellA .r rfl rfl rfl ag43 .nil) rfl rfl
theorem m_law29_Owns_ok {n : Nat} {a1 : (List SFeatures)} {r : (List SFeatures)} (hm : m_law29_Owns n a1 = some r) : Fn Tryz.prog 12 [(.sl (a1.map SFeatures.e))] (.sl (r.map SFeatures.e)) := by
 unfold m_law29_Owns at hm
 refine Fn.of_AW (fnn := Tryz.f12) Tryz.func12 rfl (Nat.le_of_ble_eq_true rfl) (fun g0 w0 hw0 => ?_)
 refine AW.reset 0 [(0, .d (.sl (a1.map SFeatures.e)))] [] (WOK.g0 hw0 (by simp)) ⟨[], rfl, rfl, rfl, ⟨(.d rfl), trivial⟩, trivial, .nil⟩ (zr (zs (op_assignN .r) (zn (zr (zs (op_assignN .r) (zn (AW.seq (zr (zm rfl (zs (op_lenM (f := SFeatures.e) (.r rfl) sl22) (zm rfl (zn (AW.block (AW.tokenize (n := 0) 3 43 8 rfl rfl (by simp) ?_))))))))))))))
 obtain ⟨t_1, hI1, hk1⟩ := bindE hm
 refine AW.loopS (σ := ((List SFeatures) × Int)) (τ := (List SFeatures)) 0 (fun x => [(3, .tk 0 (x.1.map SFeatures.e)), (6, .d (.sl (a1.map SFeatures.e))), (7, .d (.int .i64 (a1.length : Int))), (8, .d (.int .i64 x.2))]) (fun x => [.tok x.1.length 43 8]) hI1 (WOK.g0 hw0 (by simp)) ⟨[0], rfl, rfl, rfl, ⟨(.tk rfl), (.d rfl), (.d rfl), (.d rfl), trivial⟩, trivial, (.tok rfl .nil)⟩ ?_
 rintro n1 ⟨s2, s3⟩ hI1
 obtain ⟨y_1, hm, hI1⟩ := iterS hI1
 replace hm : m_law29_Owns_L1 n _ s2 s3 = some y_1 := hm
 unfold m_law29_Owns_L1 at hm
 try dsimp only at hm
 refine zr (zs (op_lss (.r rfl) (.r rfl)) (zn (AW.seq ?_)))
 refine AW.cond (b := _) rfl (fun hc1 => ?_) (fun hc1 => ?_)
 ·replace hm := iteT hc1 hm
  refine AW.skip (nq (AW.seq (AW.block (zr ?_))))
  obtain ⟨v4, hv4, hm⟩ := bindE hm
  refine zs (op_indexAddrM (f := SFeatures.e) (.r rfl) (.r rfl) hv4 enSFeatures sl22) (zs (op_loadA .r rfl ag40) (zs (op_alloc (n := 1) zr40 rfl) (zs (op_store .r .r rfl rfl rfl ⟨_, rfl, rfl⟩ rfl (Nat.le_of_ble_eq_true rfl)) (zn (AW.region (zs (op_moveT .r) (zs (op_load_ptrA .r rfl rfl rfl ag40) ?_)))))))
  obtain ⟨v5, hv5, hm⟩ := bindE hm
  refine zs (op_fn Tryz.call18 .r (.cons (.r rfl) .nil) (m_law29_Own_ok hv5)) (zs (op_buildSlice (ds := ([v5] : List SFeatures).map SFeatures.e) sl30 (.cons (.r rfl) rfl (enSFeatures.one _) .nil) rfl (by decide)) ?_)
  obtain ⟨v6, hv6, hm⟩ := bindE hm
  refine zs (op_appendM (f := SFeatures.e) (l' := ([v5] : List SFeatures)) sl30 .r (.r rfl) rfl rfl enSFeatures hv6) (zs (op_assignT .r) (zn (bq_n (nq (AW.region (zs (op_addw (.r rfl) (.r rfl)) (zm rfl (zn ?_))))))))
  obtain rfl := Option.some.inj hm
  exact nq ⟨_, hI1, ⟨[0], rfl, rfl, rfl, ⟨(.tk rfl), (.d rfl), (.d rfl), (.d rfl), trivial⟩, trivial, (.tok rfl .nil)⟩⟩
 ·replace hm := iteF hc1 hm
  refine AW.exit (tq_exit (tq_exit ?_))
  obtain rfl := Option.some.inj hm
  obtain rfl := Option.some.inj hI1
  replace hm := hk1
  try dsimp only at hm
  refine bq_hit (nq (zr (zs (op_moveT .r) (zs (op_assignT .r) (zn (AW.ret ?_))))))
  obtain rfl := Option.some.inj hm
  exact EndQ.d (.tmp .r .nil) rfl rfl
theorem m_law30_table_ok {n : Nat} {a1 : (List SFeatures)} {r : ((List SBlock) × Bool)} (hm : m_law30_table n a1 = some r) : Fn Tryz.prog 30 [(.sl (a1.map SFeatures.e))] (.tup [(.sl (r.1.map SBlock.e)), (.bool r.2)]) := by
 unfold m_law30_table at hm
 refine Fn.of_AW (fnn := Tryz.f30) Tryz.func30 rfl (Nat.le_of_ble_eq_true rfl) (fun g0 w0 hw0 => ?_)
 refine zr (zs (op_assignN .r) (za rfl (zn (AW.seq (zr (zm rfl ?_))))))
 obtain ⟨v2, hv2, hm⟩ := bindE hm
 refine zs (op_fn Tryz.call10 .r (.cons (.r rfl) .nil) (m_law30_few_ok hv2)) (zs (op_not (.r rfl)) (zn ?_))
 refine AW.cond (b := _) rfl (fun hc1 => ?_) (fun hc1 => ?_)
 ·replace hm := iteT hc1 hm
  refine zr (zs (op_assignN .r) (za rfl (zn (AW.ret (tq_ret ?_)))))
  obtain rfl := Option.some.inj hm
  exact EndQ.d (.tmp .r (.tmp .r .nil)) rfl rfl
 ·replace hm := iteF hc1 hm
  refine AW.skip (nq (AW.seq (zr (zm rfl ?_))))
  obtain ⟨v3, hv3, hm⟩ := bindE hm
  refine zs (op_fn Tryz.call13 .r (.cons (.r rfl) .nil) (m_ref30_Of_ok hv3)) (zm rfl (zs (op_extractD .r rfl) (zs (op_extractD .r rfl) (za rfl (za rfl (zn (AW.reset 0 [(0, .d (.sl (a1.map SFeatures.e))), (5, .d (.int .i64 v3.2))] [] (WOK.g0 hw0 (by simp)) ⟨[], rfl, rfl, rfl, ⟨(.d rfl), (.d rfl), trivial⟩, trivial, .nil⟩ (zr (zm rfl (zs (op_neq (.r rfl) (.r rfl)) (zn ?_)))))))))))
  refine AW.cond (b := _) rfl (fun hc2 => ?_) (fun hc2 => ?_)
  ·replace hm := iteT hc2 hm
   refine zr (zs (op_assignN .r) (za rfl (zn (AW.ret (tq_ret ?_)))))
   obtain rfl := Option.some.inj hm
   exact EndQ.d (.tmp .r (.tmp .r .nil)) rfl rfl
  ·replace hm := iteF hc2 hm
   refine AW.skip (nq (zr (zm rfl ?_)))
   obtain ⟨v4, hv4, hm⟩ := bindE hm
   refine zs (op_fn Tryz.call12 .r (.cons (.r rfl) .nil) (m_law29_Owns_ok hv4)) ?_
   obtain ⟨v5, hv5, hm⟩ := bindE hm
   refine zs (op_fn Tryz.call11 .r (.cons (.r rfl) .nil) (m_block_Of_ok hv5)) (zm rfl (zs (op_extractD .r rfl) (zs (op_extractD .r rfl) (za rfl (za rfl (zn (zr (zm rfl (zm rfl (zs (op_eql (.r rfl) (.r rfl)) (za rfl (za rfl (zn (AW.ret ?_))))))))))))))
   obtain rfl := Option.some.inj hm
   exact EndQ.d (.tmp .r (.tmp .r .nil)) rfl rfl
theorem m_law30_good_ok {n : Nat} {a1 : (List SFeatures)} {r : Bool} (hm : m_law30_good n a1 = some r) : Fn Tryz.prog 29 [(.sl (a1.map SFeatures.e))] (.bool r) := by
 unfold m_law30_good at hm
 refine Fn.of_AW (fnn := Tryz.f29) Tryz.func29 rfl (Nat.le_of_ble_eq_true rfl) (fun g0 w0 hw0 => ?_)
 refine zr (za rfl (zn (AW.seq (zr (zm rfl ?_)))))
 obtain ⟨v2, hv2, hm⟩ := bindE hm
 refine zs (op_fn Tryz.call10 .r (.cons (.r rfl) .nil) (m_law30_few_ok hv2)) (zs (op_not (.r rfl)) (zn ?_))
 refine AW.cond (b := _) rfl (fun hc1 => ?_) (fun hc1 => ?_)
 ·replace hm := iteT hc1 hm
  refine zr (za rfl (zn (AW.ret (tq_ret ?_))))
  obtain rfl := Option.some.inj hm
  exact EndQ.d (.tmp .r .nil) rfl rfl
 ·replace hm := iteF hc1 hm
  refine AW.skip (nq (zr (zm rfl ?_)))
  obtain ⟨v3, hv3, hm⟩ := bindE hm
  refine zs (op_fn Tryz.call13 .r (.cons (.r rfl) .nil) (m_ref30_Of_ok hv3)) (zm rfl (zs (op_extractD .r rfl) (zs (op_extractD .r rfl) (za rfl (za rfl (zn (zr (zm rfl (zs (op_eql (.r rfl) (.r rfl)) (za rfl (zn (AW.ret ?_))))))))))))
  obtain rfl := Option.some.inj hm
  exact EndQ.d (.tmp .r .nil) rfl rfl
theorem m_law30_BlockGrows_1_ok {n : Nat} {a1 : (List SPair)} {a2 : SPair} {r : Bool} (hm : m_law30_BlockGrows_1 n a1 a2 = some r) : Fn Tryz.prog 39 [(.sl (a1.map SPair.e)), (SPair.e a2)] (.bool r) := by
 unfold m_law30_BlockGrows_1 at hm
 refine Fn.of_AW (fnn := Tryz.f39) Tryz.func39 rfl (Nat.le_of_ble_eq_true rfl) (fun g0 w0 hw0 => ?_)
 refine AW.reset 0 [(0, .d (.sl (a1.map SPair.e))), (1, .d (SPair.e a2))] [] (WOK.g0 hw0 (by simp)) ⟨[], rfl, rfl, rfl, ⟨(.d rfl), (.d rfl), trivial⟩, trivial, .nil⟩ (zr (zs (op_box (n := 0) .r rfl rfl rfl) (za rfl (zn (AW.seq (zr (zm rfl (zs (op_lenM (f := SPair.e) (.r rfl) sl59) (zm rfl (zn (AW.block ?_)))))))))))
 obtain ⟨t_1, hI1, hk1⟩ := bindE hm
 refine AW.loopS (σ := Int) (τ := (Bool ⊕ Unit)) 0 (fun x => [(3, .ptr 0 0), (7, .d (.sl (a1.map SPair.e))), (8, .d (.int .i64 (a1.length : Int))), (9, .d (.int .i64 x))]) (fun x => [.row [.d (.int .i64 a2.fA), .d (.int .i64 a2.fB)]]) hI1 (WOK.g0 hw0 (by simp)) ⟨[0], rfl, rfl, rfl, ⟨(.ptr rfl), (.d rfl), (.d rfl), (.d rfl), trivial⟩, trivial, (.row rfl (.cons (.d rfl) (.cons (.d rfl) .nil)) .nil)⟩ ?_
 rintro n1 s3 hI1
 obtain ⟨y_1, hm, hI1⟩ := iterS hI1
 replace hm : m_law30_BlockGrows_1_L1 n _ _ s3 = some y_1 := hm
 unfold m_law30_BlockGrows_1_L1 at hm
 try dsimp only at hm
 refine zr (zs (op_lss (.r rfl) (.r rfl)) (zn (AW.seq ?_)))
 refine AW.cond (b := _) rfl (fun hc1 => ?_) (fun hc1 => ?_)
 ·replace hm := iteT hc1 hm
  refine AW.skip (nq (AW.seq (AW.block (zr ?_))))
  obtain ⟨v4, hv4, hm⟩ := bindE hm
  refine zs (op_indexAddrM (f := SPair.e) (.r rfl) (.r rfl) hv4 enSPair sl59) (zs (op_loadA .r rfl ag64) (zs (op_alloc (n := 1) zr64 rfl) (zs (op_store .r .r rfl rfl rfl ⟨_, rfl, rfl⟩ rfl (Nat.le_of_ble_eq_true rfl)) (zn (zr (zs (op_load_ptrA .r rfl rfl rfl ag64) (zs (op_load_ptrA .r rfl rfl rfl ag64) (zs (op_eqlSt (a := (⟨v4.fA, v4.fB⟩ : SPair)) (b := (⟨a2.fA, a2.fB⟩ : SPair)) es64 (.r rfl) (.r rfl)) (zn ?_)))))))))
  refine AW.cond (b := _) rfl (fun hc2 => ?_) (fun hc2 => ?_)
  ·replace hm := iteT hc2 hm
   refine zr (za rfl (zn (AW.ret (bq_ret (tq_ret (tq_ret ?_))))))
   obtain rfl := Option.some.inj hm
   obtain rfl := Option.some.inj hI1
   replace hm := hk1
   try dsimp only at hm
   refine bq_ret (tq_ret ?_)
   obtain rfl := Option.some.inj hm
   exact EndQ.d (.tmp .r .nil) rfl rfl
  ·replace hm := iteF hc2 hm
   refine AW.skip (bq_n (nq (AW.region (zs (op_addw (.r rfl) (.r rfl)) (zm rfl (zn ?_))))))
   obtain rfl := Option.some.inj hm
   exact nq ⟨_, hI1, ⟨[0], rfl, rfl, rfl, ⟨(.ptr rfl), (.d rfl), (.d rfl), (.d rfl), trivial⟩, trivial, (.row rfl (.cons (.d rfl) (.cons (.d rfl) .nil)) .nil)⟩⟩
 ·replace hm := iteF hc1 hm
  refine AW.exit (tq_exit (tq_exit ?_))
  obtain rfl := Option.some.inj hm
  obtain rfl := Option.some.inj hI1
  replace hm := hk1
  try dsimp only at hm
  refine bq_hit (nq (zr (za rfl (zn (AW.ret ?_)))))
  obtain rfl := Option.some.inj hm
  exact EndQ.d (.tmp .r .nil) rfl rfl
end Go.Proofs.YtkdefjliknpliaaGreatDoor.Ab
