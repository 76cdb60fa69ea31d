/- The functions do what they are in plain Lean. Conditions: none. -/
import Derived.Test.YtkdefjliknpliaaGreatDoorTy
import Derived.Test.YtkdefjliknpliaaGreatDoorMi
import Derived.Test.YtkdefjliknpliaaGreatDoorFc
set_option maxRecDepth 100000
set_option maxHeartbeats 20000000
namespace Go.Proofs.YtkdefjliknpliaaGreatDoor.Ab
open Go
attribute [local irreducible] AL AD AW nlO nlV nlD
theorem m_ref29_Words_ok {n : Nat} {a1 : (List (List UInt8))} {r : Bool} (hm : m_ref29_Words n a1 = some r) : Fn Tryz.prog 81 [(.sl (a1.map D.str))] (.bool r) := by
 unfold m_ref29_Words at hm
 refine Fn.of_AW (fnn := Tryz.f81) Tryz.func81 rfl (Nat.le_of_ble_eq_true rfl) (fun g0 w0 hw0 => ?_)
 refine AW.reset 0 [(0, .d (.sl (a1.map D.str)))] [] (WOK.g0 hw0 (by simp)) ⟨[], rfl, rfl, rfl, ⟨(.d rfl), trivial⟩, trivial, .nil⟩ (zr (za rfl (zn (AW.seq (zr (za rfl (zn (AW.block ?_))))))))
 obtain ⟨t_1, hI1, hk1⟩ := bindE hm
 refine AW.loopS (σ := Int) (τ := (Bool ⊕ Unit)) 0 (fun x => [(0, .d (.sl (a1.map D.str))), (3, .d (.int .i64 x))]) (fun x => []) hI1 (WOK.g0 hw0 (by simp)) ⟨[], rfl, rfl, rfl, ⟨(.d rfl), (.d rfl), trivial⟩, trivial, .nil⟩ ?_
 rintro n1 s2 hI1
 obtain ⟨y_1, hm, hI1⟩ := iterS hI1
 replace hm : m_ref29_Words_L1 n _ s2 = some y_1 := hm
 unfold m_ref29_Words_L1 at hm
 try dsimp only at hm
 refine AW.seq (zr (zm rfl (zm rfl (zs (op_lenM (f := D.str) (.r rfl) sl37) (zs (op_lss (.r rfl) (.r rfl)) (zn ?_))))))
 refine AW.cond (b := _) rfl (fun hc1 => ?_) (fun hc1 => ?_)
 ·replace hm := iteT hc1 hm
  refine AW.skip (nq (AW.seq (AW.block (zr (zm rfl (zm rfl ?_))))))
  obtain ⟨v3, hv3, hm⟩ := bindE hm
  refine zs (op_indexAddrM (f := D.str) (.r rfl) (.r rfl) hv3 En.str sl37) (zs (op_load_vp1 .r rfl sc9) ?_)
  obtain ⟨v4, hv4, hm⟩ := bindE hm
  refine zs (op_fn Tryz.call111 .r (.cons (.r rfl) .nil) (m_ref29_word_ok hv4)) (zs (op_not (.r rfl)) (zn ?_))
  refine AW.cond (b := _) rfl (fun hc2 => ?_) (fun hc2 => ?_)
  ·replace hm := iteT hc2 hm
   refine zr (za rfl (zn (AW.ret (bq_ret (tq_ret (tq_ret ?_))))))
   obtain rfl := Option.some.inj hm
   obtain rfl := Option.some.inj hI1
   replace hm := hk1
   try dsimp only at hm
   refine bq_ret (tq_ret ?_)
   obtain rfl := Option.some.inj hm
   exact EndQ.d (.tmp .r .nil) rfl rfl
  ·replace hm := iteF hc2 hm
   refine AW.skip (bq_n (nq (AW.region (zm rfl (zs (op_addw (.r rfl) (.r rfl)) (za rfl (zn ?_)))))))
   obtain rfl := Option.some.inj hm
   exact nq ⟨_, hI1, ⟨[], rfl, rfl, rfl, ⟨(.d rfl), (.d rfl), trivial⟩, trivial, .nil⟩⟩
 ·replace hm := iteF hc1 hm
  refine AW.exit (tq_exit (tq_exit ?_))
  obtain rfl := Option.some.inj hm
  obtain rfl := Option.some.inj hI1
  replace hm := hk1
  try dsimp only at hm
  refine bq_hit (nq (zr (zm rfl (zs (op_lenM (f := D.str) (.r rfl) sl37) (zs (op_leq (.r rfl) (.r rfl)) (za rfl (zn (AW.ret ?_))))))))
  obtain rfl := Option.some.inj hm
  exact EndQ.d (.tmp .r .nil) rfl rfl
theorem m_ref29_key_ok {n : Nat} {a1 : (List UInt8)} {r : Bool} (hm : m_ref29_key n a1 = some r) : Fn Tryz.prog 82 [(.str a1)] (.bool r) := by
 unfold m_ref29_key at hm
 refine Fn.of_AW (fnn := Tryz.f82) Tryz.func82 rfl (Nat.le_of_ble_eq_true rfl) (fun g0 w0 hw0 => ?_)
 refine AW.reset 0 [(0, .d (.str a1))] [] (WOK.g0 hw0 (by simp)) ⟨[], rfl, rfl, rfl, ⟨(.d rfl), trivial⟩, trivial, .nil⟩ (zr (za rfl (zn (AW.seq (zr (za rfl (zn (AW.block ?_))))))))
 obtain ⟨t_1, hI1, hk1⟩ := bindE hm
 refine AW.loopS (σ := Int) (τ := (Bool ⊕ Unit)) 0 (fun x => [(0, .d (.str a1)), (3, .d (.int .i64 x))]) (fun x => []) hI1 (WOK.g0 hw0 (by simp)) ⟨[], rfl, rfl, rfl, ⟨(.d rfl), (.d rfl), trivial⟩, trivial, .nil⟩ ?_
 rintro n1 s2 hI1
 obtain ⟨y_1, hm, hI1⟩ := iterS hI1
 replace hm : m_ref29_key_L1 n _ s2 = some y_1 := hm
 unfold m_ref29_key_L1 at hm
 try dsimp only at hm
 refine AW.seq (zr (zm rfl (zm rfl (zs (op_lenS (.r rfl) Tryz.underlying9) (zs (op_lss (.r rfl) (.r rfl)) (zn ?_))))))
 refine AW.cond (b := _) rfl (fun hc1 => ?_) (fun hc1 => ?_)
 ·replace hm := iteT hc1 hm
  refine AW.skip (nq (AW.seq (AW.block (zr (zm rfl (zm rfl ?_))))))
  obtain ⟨v3, hv3, hm⟩ := bindE hm
  refine zs (op_indexSM (.r rfl) (.r rfl) hv3 Tryz.underlying9) (zs (op_lss (.r rfl) (.r rfl)) (zn ?_))
  refine AW.cond (b := _) rfl (fun hc2 => ?_) (fun hc2 => ?_)
  ·replace hm := iteT hc2 hm
   refine zr (za rfl (zn (AW.ret (bq_ret (tq_ret (tq_ret ?_))))))
   obtain rfl := Option.some.inj hm
   obtain rfl := Option.some.inj hI1
   replace hm := hk1
   try dsimp only at hm
   refine bq_ret (tq_ret ?_)
   obtain rfl := Option.some.inj hm
   exact EndQ.d (.tmp .r .nil) rfl rfl
  ·replace hm := iteF hc2 hm
   refine AW.skip (bq_n (nq (AW.region (zm rfl (zs (op_addw (.r rfl) (.r rfl)) (za rfl (zn ?_)))))))
   obtain rfl := Option.some.inj hm
   exact nq ⟨_, hI1, ⟨[], rfl, rfl, rfl, ⟨(.d rfl), (.d rfl), trivial⟩, trivial, .nil⟩⟩
 ·replace hm := iteF hc1 hm
  refine AW.exit (tq_exit (tq_exit ?_))
  obtain rfl := Option.some.inj hm
  obtain rfl := Option.some.inj hI1
  replace hm := hk1
  try dsimp only at hm
  refine bq_hit (nq (zr (zm rfl (zs (op_lenS (.r rfl) Tryz.underlying9) (zs (op_leq (.r rfl) (.r rfl)) (zm rfl (AL.sT rfl rfl rfl rfl (fun g => op_moveD .r) (AL.sT rfl rfl rfl rfl (fun g => op_eqlS (.we g rfl rfl) (.r rfl)) (AL.sT rfl rfl rfl rfl (fun g => op_moveD (.we g rfl)) (AL.sFF rfl rfl rfl rfl (fun gp g => op_moveD .r) ?_))))))))))
  obtain ⟨v4, hv4, hm⟩ := bindE hm
  refine AL.sFF rfl rfl rfl rfl (fun gp g => op_indexSM (.we (an gp (nt g)) rfl rfl) (.r rfl) (iteT (an gp (nt g)) hv4) Tryz.underlying9) (AL.sFF rfl rfl rfl rfl (fun gp g => op_neq (.we (an gp (nt g)) rfl rfl) (.r rfl)) (AL.sFF rfl rfl rfl rfl (fun gp g => op_moveD (.we (an gp (nt g)) rfl)) (AL.sTT rfl rfl rfl rfl (fun gp g => op_moveD .r) (AL.sTT rfl rfl rfl rfl (fun gp g => op_moveD .r) (AL.sTT rfl rfl rfl rfl (fun gp g => op_lenS (.we (an gp g) rfl rfl) Tryz.underlying9) (AL.sTT rfl rfl rfl rfl (fun gp g => op_subw (.we (an gp g) rfl rfl) (.r rfl)) ?_))))))
  obtain ⟨v5, hv5, hm⟩ := bindE hm
  refine AL.sTT rfl rfl rfl rfl (fun gp g => op_indexSM (.we (an gp g) rfl rfl) (.we (an gp g) rfl rfl) (iteT (an gp g) hv5) Tryz.underlying9) (AL.sTT rfl rfl rfl rfl (fun gp g => op_neq (.we (an gp g) rfl rfl) (.r rfl)) (AL.sFF rfl rfl rfl rfl (fun gp g => op_and (.we (an gp (nt g)) rfl rfl) (fun h => (.we (an (an gp (nt g)) h) rfl rfl)) rfl) (AL.sT rfl rfl rfl rfl (fun g => op_or (.we g rfl rfl) rfl (fun h => (.we (an g (nt h)) rfl rfl))) (zs (op_and (.r rfl) (fun h => (.we h rfl rfl)) rfl) (za rfl (zn (AW.ret ?_)))))))
  obtain rfl := Option.some.inj hm
  exact EndQ.d (.tmp .r .nil) rfl rfl
theorem m_ref29_Ascending_ok {n : Nat} {a1 : (List (List UInt8))} {r : Bool} (hm : m_ref29_Ascending n a1 = some r) : Fn Tryz.prog 83 [(.sl (a1.map D.str))] (.bool r) := by
 unfold m_ref29_Ascending at hm
 refine Fn.of_AW (fnn := Tryz.f83) Tryz.func83 rfl (Nat.le_of_ble_eq_true rfl) (fun g0 w0 hw0 => ?_)
 refine AW.reset 0 [(0, .d (.sl (a1.map D.str)))] [] (WOK.g0 hw0 (by simp)) ⟨[], rfl, rfl, rfl, ⟨(.d rfl), trivial⟩, trivial, .nil⟩ (zr (za rfl (zn (AW.seq (zr (za rfl (zn (AW.block ?_))))))))
 obtain ⟨t_1, hI1, hk1⟩ := bindE hm
 refine AW.loopS (σ := Int) (τ := (Bool ⊕ Unit)) 0 (fun x => [(0, .d (.sl (a1.map D.str))), (3, .d (.int .i64 x))]) (fun x => []) hI1 (WOK.g0 hw0 (by simp)) ⟨[], rfl, rfl, rfl, ⟨(.d rfl), (.d rfl), trivial⟩, trivial, .nil⟩ ?_
 rintro n1 s2 hI1
 obtain ⟨y_1, hm, hI1⟩ := iterS hI1
 replace hm : m_ref29_Ascending_L1 n _ s2 = some y_1 := hm
 unfold m_ref29_Ascending_L1 at hm
 try dsimp only at hm
 refine AW.seq (zr (zm rfl (zm rfl (zs (op_lenM (f := D.str) (.r rfl) sl37) (zs (op_lss (.r rfl) (.r rfl)) (zn ?_))))))
 refine AW.cond (b := _) rfl (fun hc1 => ?_) (fun hc1 => ?_)
 ·replace hm := iteT hc1 hm
  refine AW.skip (nq (AW.seq (AW.block (AW.seqD [([], []), ([], []), ([], []), ([], []), ([], []), ([], []), ([], []), ([], []), ([], []), ([], [])] mo (by decide +kernel) (AD.s (ws := []) rfl rfl (fun H' _ hH => op_moveD .r) (AD.s (ws := []) rfl rfl (fun H' _ hH => op_moveD .r) (AD.s (ws := []) rfl rfl (fun H' _ hH => op_subw (.r rfl) (.r rfl)) ?_)))))))
  obtain ⟨v3, hv3, hm⟩ := bindE hm
  refine AD.s (ws := []) rfl rfl (fun H' _ hH => op_indexAddrM (f := D.str) (.r rfl) (.r rfl) hv3 En.str sl37) (AD.s (ws := []) rfl rfl (fun H' _ hH => op_load_vp1 .r rfl sc9) (AD.s (ws := []) rfl rfl (fun H' _ hH => op_moveD .r) (AD.s (ws := []) rfl rfl (fun H' _ hH => op_moveD .r) ?_)))
  obtain ⟨v4, hv4, hm⟩ := bindE hm
  refine AD.s (ws := []) rfl rfl (fun H' _ hH => op_indexAddrM (f := D.str) (.r rfl) (.r rfl) hv4 En.str sl37) (AD.s (ws := []) rfl rfl (fun H' _ hH => op_load_vp1 .r rfl sc9) (AD.s (ws := []) rfl rfl (fun H' _ hH => op_geqS (.r rfl) (.r rfl)) (AD.nil ?_)))
  refine AW.cond (b := _) rfl (fun hc2 => ?_) (fun hc2 => ?_)
  ·replace hm := iteT hc2 hm
   refine zr (za rfl (zn (AW.ret (bq_ret (tq_ret (tq_ret ?_))))))
   obtain rfl := Option.some.inj hm
   obtain rfl := Option.some.inj hI1
   replace hm := hk1
   try dsimp only at hm
   refine bq_ret (tq_ret ?_)
   obtain rfl := Option.some.inj hm
   exact EndQ.d (.tmp .r .nil) rfl rfl
  ·replace hm := iteF hc2 hm
   refine AW.skip (bq_n (nq (AW.region (zm rfl (zs (op_addw (.r rfl) (.r rfl)) (za rfl (zn ?_)))))))
   obtain rfl := Option.some.inj hm
   exact nq ⟨_, hI1, ⟨[], rfl, rfl, rfl, ⟨(.d rfl), (.d rfl), trivial⟩, trivial, .nil⟩⟩
 ·replace hm := iteF hc1 hm
  refine AW.exit (tq_exit (tq_exit ?_))
  obtain rfl := Option.some.inj hm
  obtain rfl := Option.some.inj hI1
  replace hm := hk1
  try dsimp only at hm
  refine bq_hit (nq (zr (za rfl (zn (AW.ret ?_)))))
  obtain rfl := Option.some.inj hm
  exact EndQ.d (.tmp .r .nil) rfl rfl
theorem m_ref29_Valid_ok {n : Nat} {a1 : SFeatures} {r : Bool} (hm : m_ref29_Valid n a1 = some r) : Fn Tryz.prog 44 [(SFeatures.e a1)] (.bool r) := by
 unfold m_ref29_Valid at hm
 refine Fn.of_AW (fnn := Tryz.f44) Tryz.func44 rfl (Nat.le_of_ble_eq_true rfl) (fun g0 w0 hw0 => ?_)
 refine AW.reset 0 [(0, .d (SFeatures.e a1))] [] (WOK.g0 hw0 (by simp)) ⟨[], rfl, rfl, rfl, ⟨(.d rfl), trivial⟩, trivial, .nil⟩ (zr (zs (op_box (n := 0) .r rfl rfl rfl) (za rfl (zn (AW.seq (zr (za rfl (zn (AW.block ?_)))))))))
 obtain ⟨t_1, hI1, hk1⟩ := bindE hm
 refine AW.loopS (σ := Int) (τ := (Bool ⊕ Unit)) 0 (fun x => [(1, .ptr 0 0), (3, .d (.int .i64 x))]) (fun x => [.row [.d (.int .i64 a1.fID), .d (.sl (a1.fTitle.map D.str)), .d (.str a1.fAuthor), .d (.sl (a1.fYears.map D.i)), .d (.sl (a1.fIsbns.map D.str)), .d (.sl (a1.fLangs.map D.str)), .d (.sl (a1.fPublisher.map D.str)), .d (.sl (a1.fEdition.map D.str))]]) hI1 (WOK.g0 hw0 (by simp)) ⟨[0], rfl, rfl, rfl, ⟨(.ptr rfl), (.d rfl), trivial⟩, trivial, (.row rfl (.cons (.d rfl) (.cons (.d rfl) (.cons (.d rfl) (.cons (.d rfl) (.cons (.d rfl) (.cons (.d rfl) (.cons (.d rfl) (.cons (.d rfl) .nil)))))))) .nil)⟩ ?_
 rintro n1 s2 hI1
 obtain ⟨y_1, hm, hI1⟩ := iterS hI1
 replace hm : m_ref29_Valid_L1 n _ s2 = some y_1 := hm
 unfold m_ref29_Valid_L1 at hm
 try dsimp only at hm
 refine AW.seq (zr (zm rfl (zs (op_field_ptr .r fd40_3) (zs (op_load_ptr1 .r rfl rfl sc38) (zs (op_lenM (f := D.i) (.r rfl) sl38) (zs (op_lss (.r rfl) (.r rfl)) (zn ?_)))))))
 refine AW.cond (b := _) rfl (fun hc1 => ?_) (fun hc1 => ?_)
 ·replace hm := iteT hc1 hm
  refine AW.skip (nq (AW.seq (AW.block (AW.seqD [([], []), ([0], []), ([], []), ([], []), ([], []), ([], []), ([], []), ([], []), ([0], []), ([], []), ([], []), ([], []), ([], []), ([], []), ([], []), ([], []), ([], []), ([], []), ([], []), ([0], []), ([], []), ([], []), ([], []), ([], []), ([], []), ([0], []), ([], []), ([], []), ([], []), ([], []), ([], []), ([], [])] mo (by decide +kernel) (AD.s (ws := []) rfl rfl (fun H' _ hH => op_field_ptr .r fd40_3) (AD.s (ws := []) rfl rfl (fun H' _ hH => op_load_ptr1 .r ((hH _ (by simp)).trans rfl) rfl sc38) (AD.s (ws := []) rfl rfl (fun H' _ hH => op_moveD .r) ?_)))))))
  obtain ⟨v3, hv3, hm⟩ := bindE hm
  refine AD.s (ws := []) rfl rfl (fun H' _ hH => op_indexAddrM (f := D.i) (.r rfl) (.r rfl) hv3 En.i sl38) (AD.s (ws := []) rfl rfl (fun H' _ hH => op_load_vp1 .r rfl sc3) (AD.s (ws := []) rfl rfl (fun H' _ hH => op_lss (.r rfl) (.r rfl)) (AD.s (ws := []) rfl rfl (fun H' _ hH => op_moveD .r) (AD.sF rfl rfl rfl rfl (fun g H' _ hH => op_field_ptr .r fd40_3) (AD.sF rfl rfl rfl rfl (fun g H' _ hH => op_load_ptr1 (.we (nt g) rfl) ((hH _ (by simp)).trans rfl) rfl sc38) (AD.sF rfl rfl rfl rfl (fun g H' _ hH => op_moveD .r) ?_))))))
  obtain ⟨v4, hv4, hm⟩ := bindE hm
  refine AD.sF rfl rfl rfl rfl (fun g H' _ hH => op_indexAddrM (f := D.i) (.we (nt g) rfl rfl) (.we (nt g) rfl rfl) (iteT (nt g) hv4) En.i sl38) (AD.sF rfl rfl rfl rfl (fun g H' _ hH => op_load_vp1 (.we (nt g) rfl) rfl sc3) (AD.sF rfl rfl rfl rfl (fun g H' _ hH => op_gtr (.we (nt g) rfl rfl) (.r rfl)) (AD.s (ws := []) rfl rfl (fun H' _ hH => op_or (.r rfl) rfl (fun h => (.we (nt h) rfl rfl))) (AD.s (ws := []) rfl rfl (fun H' _ hH => op_moveD .r) (AD.sF rfl rfl rfl rfl (fun g H' _ hH => op_moveD .r) (AD.sF rfl rfl rfl rfl (fun g H' _ hH => op_gtr (.we (nt g) rfl rfl) (.r rfl)) (AD.sF rfl rfl rfl rfl (fun g H' _ hH => op_moveD (.we (nt g) rfl)) (AD.sTT rfl rfl rfl rfl (fun gp g H' _ hH => op_field_ptr .r fd40_3) (AD.sTT rfl rfl rfl rfl (fun gp g H' _ hH => op_load_ptr1 (.we (an gp g) rfl) ((hH _ (by simp)).trans rfl) rfl sc38) (AD.sTT rfl rfl rfl rfl (fun gp g H' _ hH => op_moveD .r) (AD.sTT rfl rfl rfl rfl (fun gp g H' _ hH => op_subw (.we (an gp g) rfl rfl) (.r rfl)) ?_)))))))))))
  obtain ⟨v5, hv5, hm⟩ := bindE hm
  refine AD.sTT rfl rfl rfl rfl (fun gp g H' _ hH => op_indexAddrM (f := D.i) (.we (an gp g) rfl rfl) (.we (an gp g) rfl rfl) (iteT (an gp g) hv5) En.i sl38) (AD.sTT rfl rfl rfl rfl (fun gp g H' _ hH => op_load_vp1 (.we (an gp g) rfl) rfl sc3) (AD.sTT rfl rfl rfl rfl (fun gp g H' _ hH => op_field_ptr .r fd40_3) (AD.sTT rfl rfl rfl rfl (fun gp g H' _ hH => op_load_ptr1 (.we (an gp g) rfl) ((hH _ (by simp)).trans rfl) rfl sc38) (AD.sTT rfl rfl rfl rfl (fun gp g H' _ hH => op_moveD .r) ?_))))
  obtain ⟨v6, hv6, hm⟩ := bindE hm
  refine AD.sTT rfl rfl rfl rfl (fun gp g H' _ hH => op_indexAddrM (f := D.i) (.we (an gp g) rfl rfl) (.we (an gp g) rfl rfl) (iteT (an gp g) hv6) En.i sl38) (AD.sTT rfl rfl rfl rfl (fun gp g H' _ hH => op_load_vp1 (.we (an gp g) rfl) rfl sc3) (AD.sTT rfl rfl rfl rfl (fun gp g H' _ hH => op_geq (.we (an gp g) rfl rfl) (.we (an gp g) rfl rfl)) (AD.sF rfl rfl rfl rfl (fun g H' _ hH => op_and (.we (nt g) rfl rfl) (fun h => (.we (an (nt g) h) rfl rfl)) rfl) (AD.s (ws := []) rfl rfl (fun H' _ hH => op_or (.r rfl) rfl (fun h => (.we (nt h) rfl rfl))) (AD.nil ?_)))))
  refine AW.cond (b := _) rfl (fun hc2 => ?_) (fun hc2 => ?_)
  ·replace hm := iteT hc2 hm
   refine zr (za rfl (zn (AW.ret (bq_ret (tq_ret (tq_ret ?_))))))
   obtain rfl := Option.some.inj hm
   obtain rfl := Option.some.inj hI1
   replace hm := hk1
   try dsimp only at hm
   refine bq_ret (tq_ret ?_)
   obtain rfl := Option.some.inj hm
   exact EndQ.d (.tmp .r .nil) rfl rfl
  ·replace hm := iteF hc2 hm
   refine AW.skip (bq_n (nq (AW.region (zm rfl (zs (op_addw (.r rfl) (.r rfl)) (za rfl (zn ?_)))))))
   obtain rfl := Option.some.inj hm
   exact nq ⟨_, hI1, ⟨[0], rfl, rfl, rfl, ⟨(.ptr rfl), (.d rfl), trivial⟩, trivial, (.row rfl (.cons (.d rfl) (.cons (.d rfl) (.cons (.d rfl) (.cons (.d rfl) (.cons (.d rfl) (.cons (.d rfl) (.cons (.d rfl) (.cons (.d rfl) .nil)))))))) .nil)⟩⟩
 ·replace hm := iteF hc1 hm
  refine AW.exit (tq_exit (tq_exit ?_))
  obtain rfl := Option.some.inj hm
  obtain rfl := Option.some.inj hI1
  replace hm := hk1
  try dsimp only at hm
  refine bq_hit (nq (AW.seq (AW.reset 0 [(1, .ptr 0 0)] [.row [.d (.int .i64 a1.fID), .d (.sl (a1.fTitle.map D.str)), .d (.str a1.fAuthor), .d (.sl (a1.fYears.map D.i)), .d (.sl (a1.fIsbns.map D.str)), .d (.sl (a1.fLangs.map D.str)), .d (.sl (a1.fPublisher.map D.str)), .d (.sl (a1.fEdition.map D.str))]] (WOK.g0 hw0 (by simp)) ⟨[0], rfl, rfl, rfl, ⟨(.ptr rfl), trivial⟩, trivial, (.row rfl (.cons (.d rfl) (.cons (.d rfl) (.cons (.d rfl) (.cons (.d rfl) (.cons (.d rfl) (.cons (.d rfl) (.cons (.d rfl) (.cons (.d rfl) .nil)))))))) .nil)⟩ (zr (za rfl (zn (AW.block ?_)))))))
  obtain ⟨t_2, hI2, hk2⟩ := bindE hm
  refine AW.loopS (σ := Int) (τ := (Bool ⊕ Unit)) 0 (fun x => [(1, .ptr 0 0), (4, .d (.int .i64 x))]) (fun x => [.row [.d (.int .i64 a1.fID), .d (.sl (a1.fTitle.map D.str)), .d (.str a1.fAuthor), .d (.sl (a1.fYears.map D.i)), .d (.sl (a1.fIsbns.map D.str)), .d (.sl (a1.fLangs.map D.str)), .d (.sl (a1.fPublisher.map D.str)), .d (.sl (a1.fEdition.map D.str))]]) hI2 (WOK.g0 hw0 (by simp)) ⟨[0], rfl, rfl, rfl, ⟨(.ptr rfl), (.d rfl), trivial⟩, trivial, (.row rfl (.cons (.d rfl) (.cons (.d rfl) (.cons (.d rfl) (.cons (.d rfl) (.cons (.d rfl) (.cons (.d rfl) (.cons (.d rfl) (.cons (.d rfl) .nil)))))))) .nil)⟩ ?_
  rintro n2 s7 hI2
  obtain ⟨y_2, hm, hI2⟩ := iterS hI2
  replace hm : m_ref29_Valid_L2 n _ s7 = some y_2 := hm
  unfold m_ref29_Valid_L2 at hm
  try dsimp only at hm
  refine AW.seq (zr (zm rfl (zs (op_field_ptr .r fd40_4) (zs (op_load_ptr1 .r rfl rfl sc37) (zs (op_lenM (f := D.str) (.r rfl) sl37) (zs (op_lss (.r rfl) (.r rfl)) (zn ?_)))))))
  refine AW.cond (b := _) rfl (fun hc3 => ?_) (fun hc3 => ?_)
  ·replace hm := iteT hc3 hm
   refine AW.skip (nq (AW.seq (AW.block (zr (zs (op_field_ptr .r fd40_4) (zs (op_load_ptr1 .r rfl rfl sc37) (zm rfl ?_)))))))
   obtain ⟨v8, hv8, hm⟩ := bindE hm
   refine zs (op_indexAddrM (f := D.str) (.r rfl) (.r rfl) hv8 En.str sl37) (zs (op_load_vp1 .r rfl sc9) ?_)
   obtain ⟨v9, hv9, hm⟩ := bindE hm
   refine zs (op_fn Tryz.call80 .r (.cons (.r rfl) (.cons (.r rfl) (.cons (.r rfl) (.cons (.r rfl) .nil)))) (m_ref29_made_ok hv9)) (zs (op_not (.r rfl)) (zn ?_))
   refine AW.cond (b := _) rfl (fun hc4 => ?_) (fun hc4 => ?_)
   ·replace hm := iteT hc4 hm
    refine zr (za rfl (zn (AW.ret (bq_ret (tq_ret (tq_ret ?_))))))
    obtain rfl := Option.some.inj hm
    obtain rfl := Option.some.inj hI2
    replace hm := hk2
    try dsimp only at hm
    refine bq_ret (tq_ret ?_)
    obtain rfl := Option.some.inj hm
    exact EndQ.d (.tmp .r .nil) rfl rfl
   ·replace hm := iteF hc4 hm
    refine AW.skip (bq_n (nq (AW.region (zm rfl (zs (op_addw (.r rfl) (.r rfl)) (za rfl (zn ?_)))))))
    obtain rfl := Option.some.inj hm
    exact nq ⟨_, hI2, ⟨[0], rfl, rfl, rfl, ⟨(.ptr rfl), (.d rfl), trivial⟩, trivial, (.row rfl (.cons (.d rfl) (.cons (.d rfl) (.cons (.d rfl) (.cons (.d rfl) (.cons (.d rfl) (.cons (.d rfl) (.cons (.d rfl) (.cons (.d rfl) .nil)))))))) .nil)⟩⟩
  ·replace hm := iteF hc3 hm
   refine AW.exit (tq_exit (tq_exit ?_))
   obtain rfl := Option.some.inj hm
   obtain rfl := Option.some.inj hI2
   replace hm := hk2
   try dsimp only at hm
   refine bq_hit (nq (AW.seq (zr (za rfl (zn (AW.block ?_))))))
   obtain ⟨t_3, hI3, hk3⟩ := bindE hm
   refine AW.loopS (σ := Int) (τ := (Bool ⊕ Unit)) 0 (fun x => [(1, .ptr 0 0), (5, .d (.int .i64 x))]) (fun x => [.row [.d (.int .i64 a1.fID), .d (.sl (a1.fTitle.map D.str)), .d (.str a1.fAuthor), .d (.sl (a1.fYears.map D.i)), .d (.sl (a1.fIsbns.map D.str)), .d (.sl (a1.fLangs.map D.str)), .d (.sl (a1.fPublisher.map D.str)), .d (.sl (a1.fEdition.map D.str))]]) hI3 (WOK.g0 hw0 (by simp)) ⟨[0], rfl, rfl, rfl, ⟨(.ptr rfl), (.d rfl), trivial⟩, trivial, (.row rfl (.cons (.d rfl) (.cons (.d rfl) (.cons (.d rfl) (.cons (.d rfl) (.cons (.d rfl) (.cons (.d rfl) (.cons (.d rfl) (.cons (.d rfl) .nil)))))))) .nil)⟩ ?_
   rintro n3 s10 hI3
   obtain ⟨y_3, hm, hI3⟩ := iterS hI3
   replace hm : m_ref29_Valid_L3 n _ s10 = some y_3 := hm
   unfold m_ref29_Valid_L3 at hm
   try dsimp only at hm
   refine AW.seq (zr (zm rfl (zs (op_field_ptr .r fd40_5) (zs (op_load_ptr1 .r rfl rfl sc37) (zs (op_lenM (f := D.str) (.r rfl) sl37) (zs (op_lss (.r rfl) (.r rfl)) (zn ?_)))))))
   refine AW.cond (b := _) rfl (fun hc5 => ?_) (fun hc5 => ?_)
   ·replace hm := iteT hc5 hm
    refine AW.skip (nq (AW.seq (AW.block (zr (zs (op_field_ptr .r fd40_5) (zs (op_load_ptr1 .r rfl rfl sc37) (zm rfl ?_)))))))
    obtain ⟨v11, hv11, hm⟩ := bindE hm
    refine zs (op_indexAddrM (f := D.str) (.r rfl) (.r rfl) hv11 En.str sl37) (zs (op_load_vp1 .r rfl sc9) ?_)
    obtain ⟨v12, hv12, hm⟩ := bindE hm
    refine zs (op_fn Tryz.call80 .r (.cons (.r rfl) (.cons (.r rfl) (.cons (.r rfl) (.cons (.r rfl) .nil)))) (m_ref29_made_ok hv12)) (zs (op_not (.r rfl)) (zn ?_))
    refine AW.cond (b := _) rfl (fun hc6 => ?_) (fun hc6 => ?_)
    ·replace hm := iteT hc6 hm
     refine zr (za rfl (zn (AW.ret (bq_ret (tq_ret (tq_ret ?_))))))
     obtain rfl := Option.some.inj hm
     obtain rfl := Option.some.inj hI3
     replace hm := hk3
     try dsimp only at hm
     refine bq_ret (tq_ret ?_)
     obtain rfl := Option.some.inj hm
     exact EndQ.d (.tmp .r .nil) rfl rfl
    ·replace hm := iteF hc6 hm
     refine AW.skip (bq_n (nq (AW.region (zm rfl (zs (op_addw (.r rfl) (.r rfl)) (za rfl (zn ?_)))))))
     obtain rfl := Option.some.inj hm
     exact nq ⟨_, hI3, ⟨[0], rfl, rfl, rfl, ⟨(.ptr rfl), (.d rfl), trivial⟩, trivial, (.row rfl (.cons (.d rfl) (.cons (.d rfl) (.cons (.d rfl) (.cons (.d rfl) (.cons (.d rfl) (.cons (.d rfl) (.cons (.d rfl) (.cons (.d rfl) .nil)))))))) .nil)⟩⟩
   ·replace hm := iteF hc5 hm
    refine AW.exit (tq_exit (tq_exit ?_))
    obtain rfl := Option.some.inj hm
    obtain rfl := Option.some.inj hI3
    replace hm := hk3
    try dsimp only at hm
    refine bq_hit (nq (AW.seq (zr (zs (op_field_ptr .r fd40_3) (zs (op_load_ptr1 .r rfl rfl sc38) (zs (op_lenM (f := D.i) (.r rfl) sl38) (zs (op_gtr (.r rfl) (.r rfl)) (zm rfl (AL.sF rfl rfl rfl rfl (fun g => op_field_ptr .r fd40_4) (AL.sF rfl rfl rfl rfl (fun g => op_load_ptr1 (.we (nt g) rfl) rfl rfl sc37) (AL.sF rfl rfl rfl rfl (fun g => op_lenM (f := D.str) (.we (nt g) rfl rfl) sl37) (AL.sF rfl rfl rfl rfl (fun g => op_gtr (.we (nt g) rfl rfl) (.r rfl)) (zs (op_or (.r rfl) rfl (fun h => (.we (nt h) rfl rfl))) (zm rfl (AL.sF rfl rfl rfl rfl (fun g => op_field_ptr .r fd40_5) (AL.sF rfl rfl rfl rfl (fun g => op_load_ptr1 (.we (nt g) rfl) rfl rfl sc37) (AL.sF rfl rfl rfl rfl (fun g => op_lenM (f := D.str) (.we (nt g) rfl rfl) sl37) (AL.sF rfl rfl rfl rfl (fun g => op_gtr (.we (nt g) rfl rfl) (.r rfl)) (zs (op_or (.r rfl) rfl (fun h => (.we (nt h) rfl rfl))) (zm rfl (AL.sF rfl rfl rfl rfl (fun g => op_field_ptr .r fd40_0) (AL.sF rfl rfl rfl rfl (fun g => op_load_ptr1 (.we (nt g) rfl) rfl rfl sc3) (AL.sF rfl rfl rfl rfl (fun g => op_lss (.we (nt g) rfl rfl) (.r rfl)) (zs (op_or (.r rfl) rfl (fun h => (.we (nt h) rfl rfl))) (zm rfl (AL.sF rfl rfl rfl rfl (fun g => op_field_ptr .r fd40_0) (AL.sF rfl rfl rfl rfl (fun g => op_load_ptr1 (.we (nt g) rfl) rfl rfl sc3) (AL.sF rfl rfl rfl rfl (fun g => op_gtr (.we (nt g) rfl rfl) (.r rfl)) (zs (op_or (.r rfl) rfl (fun h => (.we (nt h) rfl rfl))) (zn ?_))))))))))))))))))))))))))))))
    refine AW.cond (b := _) rfl (fun hc7 => ?_) (fun hc7 => ?_)
    ·replace hm := iteT hc7 hm
     refine AW.reset 0 [] [.row [.d (.int .i64 a1.fID), .d (.sl (a1.fTitle.map D.str)), .d (.str a1.fAuthor), .d (.sl (a1.fYears.map D.i)), .d (.sl (a1.fIsbns.map D.str)), .d (.sl (a1.fLangs.map D.str)), .d (.sl (a1.fPublisher.map D.str)), .d (.sl (a1.fEdition.map D.str))]] (WOK.g0 hw0 (by simp)) ⟨[0], rfl, rfl, rfl, trivial, trivial, (.row rfl (.cons (.d rfl) (.cons (.d rfl) (.cons (.d rfl) (.cons (.d rfl) (.cons (.d rfl) (.cons (.d rfl) (.cons (.d rfl) (.cons (.d rfl) .nil)))))))) .nil)⟩ (zr (za rfl (zn (AW.ret (tq_ret ?_)))))
     obtain rfl := Option.some.inj hm
     exact EndQ.d (.tmp .r .nil) rfl rfl
    ·replace hm := iteF hc7 hm
     refine AW.skip (nq (zr (zs (op_field_ptr .r fd40_1) (zs (op_load_ptr1 .r rfl rfl sc37) ?_))))
     obtain ⟨v13, hv13, hm⟩ := bindE hm
     refine zs (op_fn Tryz.call81 .r (.cons (.r rfl) .nil) (m_ref29_Words_ok hv13)) (zm rfl (AL.sT rfl rfl rfl rfl (fun g => op_field_ptr .r fd40_6) (AL.sT rfl rfl rfl rfl (fun g => op_load_ptr1 (.we g rfl) rfl rfl sc37) ?_)))
     obtain ⟨v14, hv14, hm⟩ := bindE hm
     refine AL.sT rfl rfl rfl rfl (fun g => op_fn Tryz.call81 .r (.cons (.we g rfl rfl) .nil) (m_ref29_Words_ok (iteT g hv14))) (zs (op_and (.r rfl) (fun h => (.we h rfl rfl)) rfl) (zm rfl (AL.sT rfl rfl rfl rfl (fun g => op_field_ptr .r fd40_7) (AL.sT rfl rfl rfl rfl (fun g => op_load_ptr1 (.we g rfl) rfl rfl sc37) ?_))))
     obtain ⟨v15, hv15, hm⟩ := bindE hm
     refine AL.sT rfl rfl rfl rfl (fun g => op_fn Tryz.call81 .r (.cons (.we g rfl rfl) .nil) (m_ref29_Words_ok (iteT g hv15))) (zs (op_and (.r rfl) (fun h => (.we h rfl rfl)) rfl) (zm rfl (AL.sT rfl rfl rfl rfl (fun g => op_field_ptr .r fd40_2) (AL.sT rfl rfl rfl rfl (fun g => op_load_ptr1 (.we g rfl) rfl rfl sc9) ?_))))
     obtain ⟨v16, hv16, hm⟩ := bindE hm
     refine AL.sT rfl rfl rfl rfl (fun g => op_fn Tryz.call82 .r (.cons (.we g rfl rfl) .nil) (m_ref29_key_ok (iteT g hv16))) (zs (op_and (.r rfl) (fun h => (.we h rfl rfl)) rfl) (zm rfl (AL.sT rfl rfl rfl rfl (fun g => op_field_ptr .r fd40_4) (AL.sT rfl rfl rfl rfl (fun g => op_load_ptr1 (.we g rfl) rfl rfl sc37) ?_))))
     obtain ⟨v17, hv17, hm⟩ := bindE hm
     refine AL.sT rfl rfl rfl rfl (fun g => op_fn Tryz.call83 .r (.cons (.we g rfl rfl) .nil) (m_ref29_Ascending_ok (iteT g hv17))) (zs (op_and (.r rfl) (fun h => (.we h rfl rfl)) rfl) (zm rfl (AL.sT rfl rfl rfl rfl (fun g => op_field_ptr .r fd40_5) (AL.sT rfl rfl rfl rfl (fun g => op_load_ptr1 (.we g rfl) rfl rfl sc37) ?_))))
     obtain ⟨v18, hv18, hm⟩ := bindE hm
     refine AL.sT rfl rfl rfl rfl (fun g => op_fn Tryz.call83 .r (.cons (.we g rfl rfl) .nil) (m_ref29_Ascending_ok (iteT g hv18))) (zs (op_and (.r rfl) (fun h => (.we h rfl rfl)) rfl) (zm rfl (AL.sT rfl rfl rfl rfl (fun g => op_field_ptr .r fd40_6) (AL.sT rfl rfl rfl rfl (fun g => op_load_ptr1 (.we g rfl) rfl rfl sc37) ?_))))
     obtain ⟨v19, hv19, hm⟩ := bindE hm
     refine AL.sT rfl rfl rfl rfl (fun g => op_fn Tryz.call83 .r (.cons (.we g rfl rfl) .nil) (m_ref29_Ascending_ok (iteT g hv19))) (zs (op_and (.r rfl) (fun h => (.we h rfl rfl)) rfl) (zm rfl (AL.sT rfl rfl rfl rfl (fun g => op_field_ptr .r fd40_7) (AL.sT rfl rfl rfl rfl (fun g => op_load_ptr1 (.we g rfl) rfl rfl sc37) ?_))))
     obtain ⟨v20, hv20, hm⟩ := bindE hm
     refine AL.sT rfl rfl rfl rfl (fun g => op_fn Tryz.call83 .r (.cons (.we g rfl rfl) .nil) (m_ref29_Ascending_ok (iteT g hv20))) (zs (op_and (.r rfl) (fun h => (.we h rfl rfl)) rfl) (za rfl (zn (AW.ret ?_))))
     obtain rfl := Option.some.inj hm
     exact EndQ.d (.tmp .r .nil) rfl rfl
theorem m_ref30_insert_ok {n : Nat} {a1 : (List (List UInt8))} {a2 : (List UInt8)} {r : (List (List UInt8))} (hm : m_ref30_insert n a1 a2 = some r) : Fn Tryz.prog 50 [(.sl (a1.map D.str)), (.str a2)] (.sl (r.map D.str)) := by
 unfold m_ref30_insert at hm
 refine Fn.of_AW (fnn := Tryz.f50) Tryz.func50 rfl (Nat.le_of_ble_eq_true rfl) (fun g0 w0 hw0 => ?_)
 refine AW.reset 0 [(0, .d (.sl (a1.map D.str))), (1, .d (.str a2))] [] (WOK.g0 hw0 (by simp)) ⟨[], rfl, rfl, rfl, ⟨(.d rfl), (.d rfl), trivial⟩, trivial, .nil⟩ (zr (zs (op_assignN .r) (zn (zr (za rfl (zn (AW.seq (AW.block ?_))))))))
 obtain ⟨t_1, hI1, hk1⟩ := bindE hm
 refine AW.loopS (σ := Int) (τ := Int) 0 (fun x => [(0, .d (.sl (a1.map D.str))), (1, .d (.str a2)), (5, .d (.int .i64 x))]) (fun x => []) hI1 (WOK.g0 hw0 (by simp)) ⟨[], rfl, rfl, rfl, ⟨(.d rfl), (.d rfl), (.d rfl), trivial⟩, trivial, .nil⟩ ?_
 rintro n1 s3 hI1
 obtain ⟨y_1, hm, hI1⟩ := iterS hI1
 replace hm : m_ref30_insert_L1 n _ _ s3 = some y_1 := hm
 unfold m_ref30_insert_L1 at hm
 try dsimp only at hm
 refine AW.seq (zr (zm rfl (zm rfl (zs (op_lenM (f := D.str) (.r rfl) sl37) (zs (op_lss (.r rfl) (.r rfl)) (zm rfl (AL.sT rfl rfl rfl rfl (fun g => op_moveD .r) (AL.sT rfl rfl rfl rfl (fun g => op_moveD .r) ?_))))))))
 obtain ⟨v4, hv4, hm⟩ := bindE hm
 refine AL.sT rfl rfl rfl rfl (fun g => op_indexAddrM (f := D.str) (.we g rfl rfl) (.we g rfl rfl) (iteT g hv4) En.str sl37) (AL.sT rfl rfl rfl rfl (fun g => op_load_vp1 (.we g rfl) rfl sc9) (AL.sT rfl rfl rfl rfl (fun g => op_moveD .r) (AL.sT rfl rfl rfl rfl (fun g => op_lssS (.we g rfl rfl) (.we g rfl rfl)) (zs (op_and (.r rfl) (fun h => (.we h rfl rfl)) rfl) (zn ?_)))))
 refine AW.cond (b := _) rfl (fun hc1 => ?_) (fun hc1 => ?_)
 ·replace hm := iteT hc1 hm
  refine AW.skip (nq (AW.block (AW.region (zm rfl (zs (op_addw (.r rfl) (.r rfl)) (za rfl (zn (bq_n ?_))))))))
  obtain rfl := Option.some.inj hm
  exact nq ⟨_, hI1, ⟨[], rfl, rfl, rfl, ⟨(.d rfl), (.d rfl), (.d rfl), trivial⟩, trivial, .nil⟩⟩
 ·replace hm := iteF hc1 hm
  refine AW.exit (tq_exit (tq_exit ?_))
  obtain rfl := Option.some.inj hm
  obtain rfl := Option.some.inj hI1
  replace hm := hk1
  try dsimp only at hm
  refine bq_hit (nq (AW.seq (zr (zm rfl (zm rfl (zs (op_lenM (f := D.str) (.r rfl) sl37) (zs (op_lss (.r rfl) (.r rfl)) (zm rfl (AL.sT rfl rfl rfl rfl (fun g => op_moveD .r) (AL.sT rfl rfl rfl rfl (fun g => op_moveD .r) ?_))))))))))
  obtain ⟨v5, hv5, hm⟩ := bindE hm
  refine AL.sT rfl rfl rfl rfl (fun g => op_indexAddrM (f := D.str) (.we g rfl rfl) (.we g rfl rfl) (iteT g hv5) En.str sl37) (AL.sT rfl rfl rfl rfl (fun g => op_load_vp1 (.we g rfl) rfl sc9) (AL.sT rfl rfl rfl rfl (fun g => op_moveD .r) (AL.sT rfl rfl rfl rfl (fun g => op_eqlS (.we g rfl rfl) (.we g rfl rfl)) (zs (op_and (.r rfl) (fun h => (.we h rfl rfl)) rfl) (zn ?_)))))
  refine AW.cond (b := _) rfl (fun hc2 => ?_) (fun hc2 => ?_)
  ·replace hm := iteT hc2 hm
   refine zr (zm rfl (za rfl (zn (AW.ret (tq_ret ?_)))))
   obtain rfl := Option.some.inj hm
   exact EndQ.d (.tmp .r .nil) rfl rfl
  ·replace hm := iteF hc2 hm
   refine AW.skip (nq (AW.free (AW.free (AW.seqD [([], []), ([], []), ([], []), ([], []), ([], []), ([], []), ([], []), ([], []), ([], []), ([], [0]), ([], [1]), ([], [])] mo (by decide +kernel) (AD.s (ws := []) rfl rfl (fun H' _ hH => op_moveD .r) (AD.s (ws := []) rfl rfl (fun H' _ hH => op_moveD .r) (AD.s (ws := []) rfl rfl (fun H' _ hH => op_moveD .r) ?_)))))))
   obtain ⟨v6, hv6, hm⟩ := bindE hm
   refine AD.s (ws := []) rfl rfl (fun H' _ hH => op_slice3 (f := D.str) (.r rfl) sl37 (.r rfl) (.r rfl) hv6) (AD.s (ws := []) rfl rfl (fun H' _ hH => op_moveD .r) (AD.s (ws := []) rfl rfl (fun H' _ hH => op_buildSlice (ds := ([a2] : List (List UInt8)).map D.str) sl37 (.cons (.r rfl) rfl (En.str.one _) .nil) rfl (by decide)) (AD.s (ws := []) rfl rfl (fun H' _ hH => op_moveD .r) (AD.s (ws := []) rfl rfl (fun H' _ hH => op_moveD .r) ?_))))
   obtain ⟨v7, hv7, hm⟩ := bindE hm
   refine AD.s (ws := []) rfl rfl (fun H' _ hH => op_sliceM (f := D.str) (.r rfl) sl37 (.r rfl) rfl En.str hv7) ?_
   obtain ⟨v8, hv8, hm⟩ := bindE hm
   refine AD.s (ws := [(0, _)]) rfl rfl (fun H' _ hH => op_appendERM (res := 0) (f := D.str) (l := ([a2] : List (List UInt8))) (l' := v7) sl37 .r (.r rfl) ((hH _ (by simp)).trans rfl) En.str hv8) ?_
   obtain ⟨v9, hv9, hm⟩ := bindE hm
   refine AD.s (ws := [(1, _)]) rfl rfl (fun H' _ hH => op_appendERM (res := 1) (f := D.str) (l := v6) (l' := v8) sl37 .r (.r rfl) ((hH _ (by simp)).trans rfl) En.str hv9) (AD.s (ws := []) rfl rfl (fun H' _ hH => op_assignT .r) (AD.nil (AW.ret ?_)))
   obtain rfl := Option.some.inj hm
   exact EndQ.d (.tmp .r .nil) rfl rfl
theorem m_ref30_year_ok {n : Nat} {a1 : Int} {r : (List UInt8)} (hm : m_ref30_year n a1 = some r) : Fn Tryz.prog 51 [(.int .i64 a1)] (.str r) := by
 unfold m_ref30_year at hm
 refine Fn.of_AW (fnn := Tryz.f51) Tryz.func51 rfl (Nat.le_of_ble_eq_true rfl) (fun g0 w0 hw0 => ?_)
 refine zr (za rfl (zn (zr (zm rfl ?_))))
 obtain ⟨v2, hv2, hm⟩ := bindE hm
 refine zs (op_quoM (.r rfl) (.r rfl) hv2) (zs (op_addw (.r rfl) (.r rfl)) (zs (op_conv_int (.r rfl) ⟨_, Tryz.underlying3⟩ Tryz.underlying5) (zm rfl ?_)))
 obtain ⟨v3, hv3, hm⟩ := bindE hm
 refine zs (op_quoM (.r rfl) (.r rfl) hv3) ?_
 obtain ⟨v4, hv4, hm⟩ := bindE hm
 refine zs (op_remM (.r rfl) (.r rfl) hv4) (zs (op_addw (.r rfl) (.r rfl)) (zs (op_conv_int (.r rfl) ⟨_, Tryz.underlying3⟩ Tryz.underlying5) (zm rfl ?_)))
 obtain ⟨v5, hv5, hm⟩ := bindE hm
 refine zs (op_quoM (.r rfl) (.r rfl) hv5) ?_
 obtain ⟨v6, hv6, hm⟩ := bindE hm
 refine zs (op_remM (.r rfl) (.r rfl) hv6) (zs (op_addw (.r rfl) (.r rfl)) (zs (op_conv_int (.r rfl) ⟨_, Tryz.underlying3⟩ Tryz.underlying5) (zm rfl ?_)))
 obtain ⟨v7, hv7, hm⟩ := bindE hm
 refine zs (op_remM (.r rfl) (.r rfl) hv7) (zs (op_addw (.r rfl) (.r rfl)) (zs (op_conv_int (.r rfl) ⟨_, Tryz.underlying3⟩ Tryz.underlying5) (zs (op_buildSlice (ds := ([(IntKind.u8.wrap (IntKind.i64.wrap ((48 : Int) + v2))), (IntKind.u8.wrap (IntKind.i64.wrap ((48 : Int) + v4))), (IntKind.u8.wrap (IntKind.i64.wrap ((48 : Int) + v6))), (IntKind.u8.wrap (IntKind.i64.wrap ((48 : Int) + v7)))] : List Int).map (D.int .u8)) sl116 (.cons (.r rfl) rfl (En.int.one _) (.cons (.r rfl) rfl (En.int.one _) (.cons (.r rfl) rfl (En.int.one _) (.cons (.r rfl) rfl (En.int.one _) .nil)))) rfl (by decide)) (zs (op_textM (.r rfl) Tryz.underlying116 Tryz.underlying9 Tryz.underlying5) (za rfl (zn (AW.ret ?_)))))))
 obtain rfl := Option.some.inj hm
 exact EndQ.d (.tmp .r .nil) rfl rfl
theorem m_ref30_Keys_ok {n : Nat} {a1 : SFeatures} {r : (List (List UInt8))} (hm : m_ref30_Keys n a1 = some r) : Fn Tryz.prog 19 [(SFeatures.e a1)] (.sl (r.map D.str)) := by
 unfold m_ref30_Keys at hm
 refine Fn.of_AW (fnn := Tryz.f19) Tryz.func19 rfl (Nat.le_of_ble_eq_true rfl) (fun g0 w0 hw0 => ?_)
 refine AW.reset 0 [(0, .d (SFeatures.e a1))] [] (WOK.g0 hw0 (by simp)) ⟨[], rfl, rfl, rfl, ⟨(.d rfl), trivial⟩, trivial, .nil⟩ (zr (zs (op_box (n := 0) .r rfl rfl rfl) (zs (op_assignN .r) (zn (zr (zs (op_assignN .r) (zn (AW.seq (zr (zs (op_load_ptrA .r rfl rfl rfl ag40) ?_))))))))))
 obtain ⟨v2, hv2, hm⟩ := bindE hm
 refine zs (op_fn Tryz.call44 .r (.cons (.r rfl) .nil) (m_ref29_Valid_ok hv2)) (zs (op_not (.r rfl)) (zn ?_))
 refine AW.cond (b := _) rfl (fun hc1 => ?_) (fun hc1 => ?_)
 ·replace hm := iteT hc1 hm
  refine zr (zs (op_moveE .r) (zs (op_assignE .r) (zn (AW.ret (tq_ret ?_)))))
  obtain rfl := Option.some.inj hm
  exact EndQ.d (.tmp .r .nil) rfl rfl
 ·replace hm := iteF hc1 hm
  refine AW.skip (nq (AW.seq (zr (za rfl (zn (AW.block ?_))))))
  obtain ⟨t_1, hI1, hk1⟩ := bindE hm
  refine AW.loopS (σ := ((List (List UInt8)) × Int)) (τ := (List (List UInt8))) 0 (fun x => [(1, .ptr 0 0), (3, .d (.sl (x.1.map D.str))), (4, .d (.int .i64 x.2))]) (fun x => [.row [.d (.int .i64 a1.fID), .d (.sl (a1.fTitle.map D.str)), .d (.str a1.fAuthor), .d (.sl (a1.fYears.map D.i)), .d (.sl (a1.fIsbns.map D.str)), .d (.sl (a1.fLangs.map D.str)), .d (.sl (a1.fPublisher.map D.str)), .d (.sl (a1.fEdition.map D.str))]]) hI1 (WOK.g0 hw0 (by simp)) ⟨[0], rfl, rfl, rfl, ⟨(.ptr rfl), (.d rfl), (.d rfl), trivial⟩, trivial, (.row rfl (.cons (.d rfl) (.cons (.d rfl) (.cons (.d rfl) (.cons (.d rfl) (.cons (.d rfl) (.cons (.d rfl) (.cons (.d rfl) (.cons (.d rfl) .nil)))))))) .nil)⟩ ?_
  rintro n1 ⟨s3, s4⟩ hI1
  obtain ⟨y_1, hm, hI1⟩ := iterS hI1
  replace hm : m_ref30_Keys_L1 n _ s3 s4 = some y_1 := hm
  unfold m_ref30_Keys_L1 at hm
  try dsimp only at hm
  refine AW.seq (zr (zm rfl (zs (op_field_ptr .r fd40_4) (zs (op_load_ptr1 .r rfl rfl sc37) (zs (op_lenM (f := D.str) (.r rfl) sl37) (zs (op_lss (.r rfl) (.r rfl)) (zn ?_)))))))
  refine AW.cond (b := _) rfl (fun hc2 => ?_) (fun hc2 => ?_)
  ·replace hm := iteT hc2 hm
   refine AW.skip (nq (AW.seq (AW.block (AW.region (zm rfl (zs (op_field_ptr .r fd40_4) (zs (op_load_ptr1 .r rfl rfl sc37) (zm rfl ?_))))))))
   obtain ⟨v5, hv5, hm⟩ := bindE hm
   refine zs (op_indexAddrM (f := D.str) (.r rfl) (.r rfl) hv5 En.str sl37) (zs (op_load_vp1 .r rfl sc9) ?_)
   obtain ⟨v6, hv6, hm⟩ := bindE hm
   refine zs (op_addSM (.r rfl) (.r rfl) hv6) ?_
   obtain ⟨v7, hv7, hm⟩ := bindE hm
   refine zs (op_fn Tryz.call50 .r (.cons (.r rfl) (.cons (.r rfl) .nil)) (m_ref30_insert_ok hv7)) (za rfl (zn (bq_n (nq (AW.region (zm rfl (zs (op_addw (.r rfl) (.r rfl)) (za rfl (zn ?_)))))))))
   obtain rfl := Option.some.inj hm
   exact nq ⟨_, hI1, ⟨[0], rfl, rfl, rfl, ⟨(.ptr rfl), (.d rfl), (.d rfl), trivial⟩, trivial, (.row rfl (.cons (.d rfl) (.cons (.d rfl) (.cons (.d rfl) (.cons (.d rfl) (.cons (.d rfl) (.cons (.d rfl) (.cons (.d rfl) (.cons (.d rfl) .nil)))))))) .nil)⟩⟩
  ·replace hm := iteF hc2 hm
   refine AW.exit (tq_exit (tq_exit ?_))
   obtain rfl := Option.some.inj hm
   obtain rfl := Option.some.inj hI1
   replace hm := hk1
   try dsimp only at hm
   refine bq_hit (nq (AW.seq (zr (zs (op_field_ptr .r fd40_1) (zs (op_load_ptr1 .r rfl rfl sc37) (zs (op_lenM (f := D.str) (.r rfl) sl37) (zs (op_eql (.r rfl) (.r rfl)) (zn ?_))))))))
   refine AW.cond (b := _) rfl (fun hc3 => ?_) (fun hc3 => ?_)
   ·replace hm := iteT hc3 hm
    refine zr (zm rfl (za rfl (zn (AW.ret (tq_ret ?_)))))
    obtain rfl := Option.some.inj hm
    exact EndQ.d (.tmp .r .nil) rfl rfl
   ·replace hm := iteF hc3 hm
    refine AW.skip (nq (AW.seqD [([], []), ([0], []), ([], []), ([], []), ([], []), ([], [])] mo (by decide +kernel) (AD.s (ws := []) rfl rfl (fun H' _ hH => op_field_ptr .r fd40_1) (AD.s (ws := []) rfl rfl (fun H' _ hH => op_load_ptr1 .r ((hH _ (by simp)).trans rfl) rfl sc37) ?_))))
    obtain ⟨v8, hv8, hm⟩ := bindE hm
    refine AD.s (ws := []) rfl rfl (fun H' _ hH => op_indexAddrM (f := D.str) (.r rfl) (.r rfl) hv8 En.str sl37) (AD.s (ws := []) rfl rfl (fun H' _ hH => op_load_vp1 .r rfl sc9) (AD.s (ws := []) rfl rfl (fun H' _ hH => op_assignD .r) (AD.s (ws := []) rfl rfl (fun H' _ hH => op_assignD .r) (AD.nil (AW.seq (zr (za rfl (zn (AW.block ?_)))))))))
    obtain ⟨t_2, hI2, hk2⟩ := bindE hm
    refine AW.loopS (σ := ((List UInt8) × (List UInt8) × Int)) (τ := ((List UInt8) × (List UInt8))) 0 (fun x => [(1, .ptr 0 0), (3, .d (.sl (s3.map D.str))), (5, .d (.str x.1)), (6, .d (.str x.2.1)), (7, .d (.int .i64 x.2.2))]) (fun x => [.row [.d (.int .i64 a1.fID), .d (.sl (a1.fTitle.map D.str)), .d (.str a1.fAuthor), .d (.sl (a1.fYears.map D.i)), .d (.sl (a1.fIsbns.map D.str)), .d (.sl (a1.fLangs.map D.str)), .d (.sl (a1.fPublisher.map D.str)), .d (.sl (a1.fEdition.map D.str))]]) hI2 (WOK.g0 hw0 (by simp)) ⟨[0], rfl, rfl, rfl, ⟨(.ptr rfl), (.d rfl), (.d rfl), (.d rfl), (.d rfl), trivial⟩, trivial, (.row rfl (.cons (.d rfl) (.cons (.d rfl) (.cons (.d rfl) (.cons (.d rfl) (.cons (.d rfl) (.cons (.d rfl) (.cons (.d rfl) (.cons (.d rfl) .nil)))))))) .nil)⟩ ?_
    rintro n2 ⟨s9, s10, s11⟩ hI2
    obtain ⟨y_2, hm, hI2⟩ := iterS hI2
    replace hm : m_ref30_Keys_L2 n _ s9 s10 s11 = some y_2 := hm
    unfold m_ref30_Keys_L2 at hm
    try dsimp only at hm
    refine AW.seq (zr (zm rfl (zs (op_field_ptr .r fd40_1) (zs (op_load_ptr1 .r rfl rfl sc37) (zs (op_lenM (f := D.str) (.r rfl) sl37) (zs (op_lss (.r rfl) (.r rfl)) (zn ?_)))))))
    refine AW.cond (b := _) rfl (fun hc4 => ?_) (fun hc4 => ?_)
    ·replace hm := iteT hc4 hm
     refine AW.skip (nq ?_)
     obtain ⟨t_j1, hm, hkj1⟩ := bindE hm
     refine AW.cutS (α := ((List UInt8) × (List UInt8))) 0 (fun x => x = t_j1) (fun x => [(1, .ptr 0 0), (3, .d (.sl (s3.map D.str))), (5, .d (.str x.1)), (6, .d (.str x.2)), (7, .d (.int .i64 s11))]) (fun x => [.row [.d (.int .i64 a1.fID), .d (.sl (a1.fTitle.map D.str)), .d (.str a1.fAuthor), .d (.sl (a1.fYears.map D.i)), .d (.sl (a1.fIsbns.map D.str)), .d (.sl (a1.fLangs.map D.str)), .d (.sl (a1.fPublisher.map D.str)), .d (.sl (a1.fEdition.map D.str))]]) (WOK.g0 hw0 (by simp)) ?_ ?_
     ·skip
      refine AW.block ?_
      obtain ⟨t_j2, hm, hkj2⟩ := bindE hm
      refine AW.cutS (α := (List UInt8)) 0 (fun x => x = t_j2) (fun x => [(1, .ptr 0 0), (3, .d (.sl (s3.map D.str))), (5, .d (.str x)), (6, .d (.str s10)), (7, .d (.int .i64 s11))]) (fun x => [.row [.d (.int .i64 a1.fID), .d (.sl (a1.fTitle.map D.str)), .d (.str a1.fAuthor), .d (.sl (a1.fYears.map D.i)), .d (.sl (a1.fIsbns.map D.str)), .d (.sl (a1.fLangs.map D.str)), .d (.sl (a1.fPublisher.map D.str)), .d (.sl (a1.fEdition.map D.str))]]) (WOK.g0 hw0 (by simp)) ?_ ?_
      ·skip
       refine AW.reset 0 [(1, .ptr 0 0), (3, .d (.sl (s3.map D.str))), (5, .d (.str s9)), (6, .d (.str s10)), (7, .d (.int .i64 s11))] [.row [.d (.int .i64 a1.fID), .d (.sl (a1.fTitle.map D.str)), .d (.str a1.fAuthor), .d (.sl (a1.fYears.map D.i)), .d (.sl (a1.fIsbns.map D.str)), .d (.sl (a1.fLangs.map D.str)), .d (.sl (a1.fPublisher.map D.str)), .d (.sl (a1.fEdition.map D.str))]] (WOK.g0 hw0 (by simp)) ⟨[0], rfl, rfl, rfl, ⟨(.ptr rfl), (.d rfl), (.d rfl), (.d rfl), (.d rfl), trivial⟩, trivial, (.row rfl (.cons (.d rfl) (.cons (.d rfl) (.cons (.d rfl) (.cons (.d rfl) (.cons (.d rfl) (.cons (.d rfl) (.cons (.d rfl) (.cons (.d rfl) .nil)))))))) .nil)⟩ (zr (zm rfl (zs (op_lss (.r rfl) (.r rfl)) (zn ?_))))
       refine AW.cond (b := _) rfl (fun hc5 => ?_) (fun hc5 => ?_)
       ·replace hm := iteT hc5 hm
        refine AW.region (zm rfl (zs (op_field_ptr .r fd40_1) (zs (op_load_ptr1 .r rfl rfl sc37) (zm rfl ?_))))
        obtain ⟨v12, hv12, hm⟩ := bindE hm
        refine zs (op_indexAddrM (f := D.str) (.r rfl) (.r rfl) hv12 En.str sl37) (zs (op_load_vp1 .r rfl sc9) ?_)
        obtain ⟨v13, hv13, hm⟩ := bindE hm
        refine zs (op_addSM (.r rfl) (.r rfl) hv13) ?_
        obtain ⟨v14, hv14, hm⟩ := bindE hm
        refine zs (op_addSM (.r rfl) (.r rfl) hv14) (za rfl (zn ?_))
        obtain rfl := Option.some.inj hm
        exact nq ⟨_, rfl, ⟨[0], rfl, rfl, rfl, ⟨(.ptr rfl), (.d rfl), (.d rfl), (.d rfl), (.d rfl), trivial⟩, trivial, (.row rfl (.cons (.d rfl) (.cons (.d rfl) (.cons (.d rfl) (.cons (.d rfl) (.cons (.d rfl) (.cons (.d rfl) (.cons (.d rfl) (.cons (.d rfl) .nil)))))))) .nil)⟩⟩
       ·replace hm := iteF hc5 hm
        refine AW.skip ?_
        obtain rfl := Option.some.inj hm
        exact nq ⟨_, rfl, ⟨[0], rfl, rfl, rfl, ⟨(.ptr rfl), (.d rfl), (.d rfl), (.d rfl), (.d rfl), trivial⟩, trivial, (.row rfl (.cons (.d rfl) (.cons (.d rfl) (.cons (.d rfl) (.cons (.d rfl) (.cons (.d rfl) (.cons (.d rfl) (.cons (.d rfl) (.cons (.d rfl) .nil)))))))) .nil)⟩⟩
      ·rintro s15 rfl
       replace hm := hkj2
       try dsimp only at hm
       refine zr (zs (op_field_ptr .r fd40_1) (zs (op_load_ptr1 .r rfl rfl sc37) (zm rfl ?_)))
       obtain ⟨v16, hv16, hm⟩ := bindE hm
       refine zs (op_indexAddrM (f := D.str) (.r rfl) (.r rfl) hv16 En.str sl37) (zs (op_load_vp1 .r rfl sc9) (zs (op_lenS (.r rfl) Tryz.underlying9) (zm rfl (zs (op_lenS (.r rfl) Tryz.underlying9) (zs (op_gtr (.r rfl) (.r rfl)) (zn ?_))))))
       refine AW.cond (b := _) rfl (fun hc6 => ?_) (fun hc6 => ?_)
       ·replace hm := iteT hc6 hm
        refine AW.region (zs (op_field_ptr .r fd40_1) (zs (op_load_ptr1 .r rfl rfl sc37) (zm rfl ?_)))
        obtain ⟨v17, hv17, hm⟩ := bindE hm
        refine zs (op_indexAddrM (f := D.str) (.r rfl) (.r rfl) hv17 En.str sl37) (zs (op_load_vp1 .r rfl sc9) (za rfl (zn (bq_n ?_))))
        obtain rfl := Option.some.inj hm
        exact nq ⟨_, rfl, ⟨[0], rfl, rfl, rfl, ⟨(.ptr rfl), (.d rfl), (.d rfl), (.d rfl), (.d rfl), trivial⟩, trivial, (.row rfl (.cons (.d rfl) (.cons (.d rfl) (.cons (.d rfl) (.cons (.d rfl) (.cons (.d rfl) (.cons (.d rfl) (.cons (.d rfl) (.cons (.d rfl) .nil)))))))) .nil)⟩⟩
       ·replace hm := iteF hc6 hm
        refine AW.skip (bq_n ?_)
        obtain rfl := Option.some.inj hm
        exact nq ⟨_, rfl, ⟨[0], rfl, rfl, rfl, ⟨(.ptr rfl), (.d rfl), (.d rfl), (.d rfl), (.d rfl), trivial⟩, trivial, (.row rfl (.cons (.d rfl) (.cons (.d rfl) (.cons (.d rfl) (.cons (.d rfl) (.cons (.d rfl) (.cons (.d rfl) (.cons (.d rfl) (.cons (.d rfl) .nil)))))))) .nil)⟩⟩
     ·rintro ⟨s18, s19⟩ rfl
      replace hm := hkj1
      try dsimp only at hm
      refine AW.region (zm rfl (zs (op_addw (.r rfl) (.r rfl)) (za rfl (zn ?_))))
      obtain rfl := Option.some.inj hm
      exact nq ⟨_, hI2, ⟨[0], rfl, rfl, rfl, ⟨(.ptr rfl), (.d rfl), (.d rfl), (.d rfl), (.d rfl), trivial⟩, trivial, (.row rfl (.cons (.d rfl) (.cons (.d rfl) (.cons (.d rfl) (.cons (.d rfl) (.cons (.d rfl) (.cons (.d rfl) (.cons (.d rfl) (.cons (.d rfl) .nil)))))))) .nil)⟩⟩
    ·replace hm := iteF hc4 hm
     refine AW.exit (tq_exit (tq_exit ?_))
     obtain rfl := Option.some.inj hm
     obtain rfl := Option.some.inj hI2
     replace hm := hk2
     try dsimp only at hm
     refine bq_hit (nq (zr (zm rfl (zm rfl ?_))))
     obtain ⟨v20, hv20, hm⟩ := bindE hm
     refine zs (op_fn Tryz.call50 .r (.cons (.r rfl) (.cons (.r rfl) .nil)) (m_ref30_insert_ok hv20)) (za rfl (zn ?_))
     obtain ⟨t_j3, hm, hkj3⟩ := bindE hm
     refine AW.cutS (α := (List (List UInt8))) 0 (fun x => x = t_j3) (fun x => [(1, .ptr 0 0), (3, .d (.sl (x.map D.str))), (6, .d (.str s10))]) (fun x => [.row [.d (.int .i64 a1.fID), .d (.sl (a1.fTitle.map D.str)), .d (.str a1.fAuthor), .d (.sl (a1.fYears.map D.i)), .d (.sl (a1.fIsbns.map D.str)), .d (.sl (a1.fLangs.map D.str)), .d (.sl (a1.fPublisher.map D.str)), .d (.sl (a1.fEdition.map D.str))]]) (WOK.g0 hw0 (by simp)) ?_ ?_
     ·skip
      refine zr (zs (op_field_ptr .r fd40_2) (zs (op_load_ptr1 .r rfl rfl sc9) (zs (op_neqS (.r rfl) (.r rfl)) (zn ?_))))
      refine AW.cond (b := _) rfl (fun hc7 => ?_) (fun hc7 => ?_)
      ·replace hm := iteT hc7 hm
       refine AW.drawn [([], []), ([], []), ([0], []), ([], []), ([], []), ([], []), ([0], []), ([], []), ([], []), ([], []), ([], []), ([], [])] mo (by decide +kernel) (AD.s (ws := []) rfl rfl (fun H' _ hH => op_moveD .r) (AD.s (ws := []) rfl rfl (fun H' _ hH => op_field_ptr .r fd40_2) (AD.s (ws := []) rfl rfl (fun H' _ hH => op_load_ptr1 .r ((hH _ (by simp)).trans rfl) rfl sc9) ?_)))
       obtain ⟨v21, hv21, hm⟩ := bindE hm
       refine AD.s (ws := []) rfl rfl (fun H' _ hH => op_addSM (.r rfl) (.r rfl) hv21) ?_
       obtain ⟨v22, hv22, hm⟩ := bindE hm
       refine AD.s (ws := []) rfl rfl (fun H' _ hH => op_addSM (.r rfl) (.r rfl) hv22) (AD.s (ws := []) rfl rfl (fun H' _ hH => op_field_ptr .r fd40_1) (AD.s (ws := []) rfl rfl (fun H' _ hH => op_load_ptr1 .r ((hH _ (by simp)).trans rfl) rfl sc37) ?_))
       obtain ⟨v23, hv23, hm⟩ := bindE hm
       refine AD.s (ws := []) rfl rfl (fun H' _ hH => op_indexAddrM (f := D.str) (.r rfl) (.r rfl) hv23 En.str sl37) (AD.s (ws := []) rfl rfl (fun H' _ hH => op_load_vp1 .r rfl sc9) ?_)
       obtain ⟨v24, hv24, hm⟩ := bindE hm
       refine AD.s (ws := []) rfl rfl (fun H' _ hH => op_addSM (.r rfl) (.r rfl) hv24) ?_
       obtain ⟨v25, hv25, hm⟩ := bindE hm
       refine AD.s (ws := []) rfl rfl (fun H' _ hH => op_fn Tryz.call50 .r (.cons (.r rfl) (.cons (.r rfl) .nil)) (m_ref30_insert_ok hv25)) (AD.s (ws := []) rfl rfl (fun H' _ hH => op_assignD .r) (AD.nil ?_))
       obtain rfl := Option.some.inj hm
       exact nq ⟨_, rfl, ⟨[0], rfl, rfl, rfl, ⟨(.ptr rfl), (.d rfl), (.d rfl), trivial⟩, trivial, (.row rfl (.cons (.d rfl) (.cons (.d rfl) (.cons (.d rfl) (.cons (.d rfl) (.cons (.d rfl) (.cons (.d rfl) (.cons (.d rfl) (.cons (.d rfl) .nil)))))))) .nil)⟩⟩
      ·replace hm := iteF hc7 hm
       refine AW.skip ?_
       obtain rfl := Option.some.inj hm
       exact nq ⟨_, rfl, ⟨[0], rfl, rfl, rfl, ⟨(.ptr rfl), (.d rfl), (.d rfl), trivial⟩, trivial, (.row rfl (.cons (.d rfl) (.cons (.d rfl) (.cons (.d rfl) (.cons (.d rfl) (.cons (.d rfl) (.cons (.d rfl) (.cons (.d rfl) (.cons (.d rfl) .nil)))))))) .nil)⟩⟩
     ·rintro s26 rfl
      replace hm := hkj3
      try dsimp only at hm
      refine AW.seq (zr (za rfl (zn (AW.block ?_))))
      obtain ⟨t_3, hI3, hk3⟩ := bindE hm
      refine AW.loopS (σ := ((List (List UInt8)) × Int)) (τ := (List (List UInt8))) 0 (fun x => [(1, .ptr 0 0), (3, .d (.sl (x.1.map D.str))), (6, .d (.str s10)), (8, .d (.int .i64 x.2))]) (fun x => [.row [.d (.int .i64 a1.fID), .d (.sl (a1.fTitle.map D.str)), .d (.str a1.fAuthor), .d (.sl (a1.fYears.map D.i)), .d (.sl (a1.fIsbns.map D.str)), .d (.sl (a1.fLangs.map D.str)), .d (.sl (a1.fPublisher.map D.str)), .d (.sl (a1.fEdition.map D.str))]]) hI3 (WOK.g0 hw0 (by simp)) ⟨[0], rfl, rfl, rfl, ⟨(.ptr rfl), (.d rfl), (.d rfl), (.d rfl), trivial⟩, trivial, (.row rfl (.cons (.d rfl) (.cons (.d rfl) (.cons (.d rfl) (.cons (.d rfl) (.cons (.d rfl) (.cons (.d rfl) (.cons (.d rfl) (.cons (.d rfl) .nil)))))))) .nil)⟩ ?_
      rintro n3 ⟨s27, s28⟩ hI3
      obtain ⟨y_3, hm, hI3⟩ := iterS hI3
      replace hm : m_ref30_Keys_L3 n _ _ s27 s28 = some y_3 := hm
      unfold m_ref30_Keys_L3 at hm
      try dsimp only at hm
      refine AW.seq (zr (zm rfl (zs (op_field_ptr .r fd40_3) (zs (op_load_ptr1 .r rfl rfl sc38) (zs (op_lenM (f := D.i) (.r rfl) sl38) (zs (op_lss (.r rfl) (.r rfl)) (zn ?_)))))))
      refine AW.cond (b := _) rfl (fun hc8 => ?_) (fun hc8 => ?_)
      ·replace hm := iteT hc8 hm
       refine AW.skip (nq (AW.seq (AW.block (AW.region (zm rfl (zs (op_field_ptr .r fd40_3) (zs (op_load_ptr1 .r rfl rfl sc38) (zm rfl ?_))))))))
       obtain ⟨v29, hv29, hm⟩ := bindE hm
       refine zs (op_indexAddrM (f := D.i) (.r rfl) (.r rfl) hv29 En.i sl38) (zs (op_load_vp1 .r rfl sc3) ?_)
       obtain ⟨v30, hv30, hm⟩ := bindE hm
       refine zs (op_fn Tryz.call51 .r (.cons (.r rfl) .nil) (m_ref30_year_ok hv30)) ?_
       obtain ⟨v31, hv31, hm⟩ := bindE hm
       refine zs (op_addSM (.r rfl) (.r rfl) hv31) ?_
       obtain ⟨v32, hv32, hm⟩ := bindE hm
       refine zs (op_addSM (.r rfl) (.r rfl) hv32) (zm rfl ?_)
       obtain ⟨v33, hv33, hm⟩ := bindE hm
       refine zs (op_addSM (.r rfl) (.r rfl) hv33) ?_
       obtain ⟨v34, hv34, hm⟩ := bindE hm
       refine zs (op_fn Tryz.call50 .r (.cons (.r rfl) (.cons (.r rfl) .nil)) (m_ref30_insert_ok hv34)) (za rfl (zn (bq_n (nq (AW.region (zm rfl (zs (op_addw (.r rfl) (.r rfl)) (za rfl (zn ?_)))))))))
       obtain rfl := Option.some.inj hm
       exact nq ⟨_, hI3, ⟨[0], rfl, rfl, rfl, ⟨(.ptr rfl), (.d rfl), (.d rfl), (.d rfl), trivial⟩, trivial, (.row rfl (.cons (.d rfl) (.cons (.d rfl) (.cons (.d rfl) (.cons (.d rfl) (.cons (.d rfl) (.cons (.d rfl) (.cons (.d rfl) (.cons (.d rfl) .nil)))))))) .nil)⟩⟩
      ·replace hm := iteF hc8 hm
       refine AW.exit (tq_exit (tq_exit ?_))
       obtain rfl := Option.some.inj hm
       obtain rfl := Option.some.inj hI3
       replace hm := hk3
       try dsimp only at hm
       refine bq_hit (nq (zr (zm rfl (za rfl (zn (AW.ret ?_))))))
       obtain rfl := Option.some.inj hm
       exact EndQ.d (.tmp .r .nil) rfl rfl
theorem m_ref30_has_ok {n : Nat} {a1 : (List Int)} {a2 : Int} {r : Bool} (hm : m_ref30_has n a1 a2 = some r) : Fn Tryz.prog 45 [(.sl (a1.map D.i)), (.int .i64 a2)] (.bool r) := by
 unfold m_ref30_has at hm
 refine Fn.of_AW (fnn := Tryz.f45) Tryz.func45 rfl (Nat.le_of_ble_eq_true rfl) (fun g0 w0 hw0 => ?_)
 refine AW.reset 0 [(0, .d (.sl (a1.map D.i))), (1, .d (.int .i64 a2))] [] (WOK.g0 hw0 (by simp)) ⟨[], rfl, rfl, rfl, ⟨(.d rfl), (.d rfl), trivial⟩, trivial, .nil⟩ (zr (za rfl (zn (AW.seq (zr (za rfl (zn (AW.block ?_))))))))
 obtain ⟨t_1, hI1, hk1⟩ := bindE hm
 refine AW.loopS (σ := Int) (τ := (Bool ⊕ Unit)) 0 (fun x => [(0, .d (.sl (a1.map D.i))), (1, .d (.int .i64 a2)), (5, .d (.int .i64 x))]) (fun x => []) hI1 (WOK.g0 hw0 (by simp)) ⟨[], rfl, rfl, rfl, ⟨(.d rfl), (.d rfl), (.d rfl), trivial⟩, trivial, .nil⟩ ?_
 rintro n1 s3 hI1
 obtain ⟨y_1, hm, hI1⟩ := iterS hI1
 replace hm : m_ref30_has_L1 n _ _ s3 = some y_1 := hm
 unfold m_ref30_has_L1 at hm
 try dsimp only at hm
 refine AW.seq (zr (zm rfl (zm rfl (zs (op_lenM (f := D.i) (.r rfl) sl38) (zs (op_lss (.r rfl) (.r rfl)) (zn ?_))))))
 refine AW.cond (b := _) rfl (fun hc1 => ?_) (fun hc1 => ?_)
 ·replace hm := iteT hc1 hm
  refine AW.skip (nq (AW.seq (AW.block (zr (zm rfl (zm rfl ?_))))))
  obtain ⟨v4, hv4, hm⟩ := bindE hm
  refine zs (op_indexAddrM (f := D.i) (.r rfl) (.r rfl) hv4 En.i sl38) (zs (op_load_vp1 .r rfl sc3) (zm rfl (zs (op_eql (.r rfl) (.r rfl)) (zn ?_))))
  refine AW.cond (b := _) rfl (fun hc2 => ?_) (fun hc2 => ?_)
  ·replace hm := iteT hc2 hm
   refine zr (za rfl (zn (AW.ret (bq_ret (tq_ret (tq_ret ?_))))))
   obtain rfl := Option.some.inj hm
   obtain rfl := Option.some.inj hI1
   replace hm := hk1
   try dsimp only at hm
   refine bq_ret (tq_ret ?_)
   obtain rfl := Option.some.inj hm
   exact EndQ.d (.tmp .r .nil) rfl rfl
  ·replace hm := iteF hc2 hm
   refine AW.skip (bq_n (nq (AW.region (zm rfl (zs (op_addw (.r rfl) (.r rfl)) (za rfl (zn ?_)))))))
   obtain rfl := Option.some.inj hm
   exact nq ⟨_, hI1, ⟨[], rfl, rfl, rfl, ⟨(.d rfl), (.d rfl), (.d rfl), trivial⟩, trivial, .nil⟩⟩
 ·replace hm := iteF hc1 hm
  refine AW.exit (tq_exit (tq_exit ?_))
  obtain rfl := Option.some.inj hm
  obtain rfl := Option.some.inj hI1
  replace hm := hk1
  try dsimp only at hm
  refine bq_hit (nq (zr (za rfl (zn (AW.ret ?_)))))
  obtain rfl := Option.some.inj hm
  exact EndQ.d (.tmp .r .nil) rfl rfl
theorem m_ref30_In_ok {n : Nat} {a1 : (List SBlock)} {a2 : Int} {r : Bool} (hm : m_ref30_In n a1 a2 = some r) : Fn Tryz.prog 54 [(.sl (a1.map SBlock.e)), (.int .i64 a2)] (.bool r) := by
 unfold m_ref30_In at hm
 refine Fn.of_AW (fnn := Tryz.f54) Tryz.func54 rfl (Nat.le_of_ble_eq_true rfl) (fun g0 w0 hw0 => ?_)
 refine AW.reset 0 [(0, .d (.sl (a1.map SBlock.e))), (1, .d (.int .i64 a2))] [] (WOK.g0 hw0 (by simp)) ⟨[], rfl, rfl, rfl, ⟨(.d rfl), (.d rfl), trivial⟩, trivial, .nil⟩ (zr (za rfl (zn (AW.seq (zr (za rfl (zn (AW.block ?_))))))))
 obtain ⟨t_1, hI1, hk1⟩ := bindE hm
 refine AW.loopS (σ := Int) (τ := (Bool ⊕ Unit)) 0 (fun x => [(0, .d (.sl (a1.map SBlock.e))), (1, .d (.int .i64 a2)), (5, .d (.int .i64 x))]) (fun x => []) hI1 (WOK.g0 hw0 (by simp)) ⟨[], rfl, rfl, rfl, ⟨(.d rfl), (.d rfl), (.d rfl), trivial⟩, trivial, .nil⟩ ?_
 rintro n1 s3 hI1
 obtain ⟨y_1, hm, hI1⟩ := iterS hI1
 replace hm : m_ref30_In_L1 n _ _ s3 = some y_1 := hm
 unfold m_ref30_In_L1 at hm
 try dsimp only at hm
 refine AW.seq (zr (zm rfl (zm rfl (zs (op_lenM (f := SBlock.e) (.r rfl) sl32) (zs (op_lss (.r rfl) (.r rfl)) (zn ?_))))))
 refine AW.cond (b := _) rfl (fun hc1 => ?_) (fun hc1 => ?_)
 ·replace hm := iteT hc1 hm
  refine AW.skip (nq (AW.seq (AW.block (zr (zm rfl (zm rfl ?_))))))
  obtain ⟨v4, hv4, hm⟩ := bindE hm
  refine zs (op_indexAddrM (f := SBlock.e) (.r rfl) (.r rfl) hv4 enSBlock sl32) (zs (op_field_vp .r fd81_1) (zs (op_load_vp1 .r rfl sc38) (zm rfl ?_)))
  obtain ⟨v5, hv5, hm⟩ := bindE hm
  refine zs (op_fn Tryz.call45 .r (.cons (.r rfl) (.cons (.r rfl) .nil)) (m_ref30_has_ok hv5)) (zn ?_)
  refine AW.cond (b := _) rfl (fun hc2 => ?_) (fun hc2 => ?_)
  ·replace hm := iteT hc2 hm
   refine zr (za rfl (zn (AW.ret (bq_ret (tq_ret (tq_ret ?_))))))
   obtain rfl := Option.some.inj hm
   obtain rfl := Option.some.inj hI1
   replace hm := hk1
   try dsimp only at hm
   refine bq_ret (tq_ret ?_)
   obtain rfl := Option.some.inj hm
   exact EndQ.d (.tmp .r .nil) rfl rfl
  ·replace hm := iteF hc2 hm
   refine AW.skip (bq_n (nq (AW.region (zm rfl (zs (op_addw (.r rfl) (.r rfl)) (za rfl (zn ?_)))))))
   obtain rfl := Option.some.inj hm
   exact nq ⟨_, hI1, ⟨[], rfl, rfl, rfl, ⟨(.d rfl), (.d rfl), (.d rfl), trivial⟩, trivial, .nil⟩⟩
 ·replace hm := iteF hc1 hm
  refine AW.exit (tq_exit (tq_exit ?_))
  obtain rfl := Option.some.inj hm
  obtain rfl := Option.some.inj hI1
  replace hm := hk1
  try dsimp only at hm
  refine bq_hit (nq (zr (za rfl (zn (AW.ret ?_)))))
  obtain rfl := Option.some.inj hm
  exact EndQ.d (.tmp .r .nil) rfl rfl
theorem m_ref30_add_ok {n : Nat} {a1 : (List Int)} {a2 : Int} {r : (List Int)} (hm : m_ref30_add n a1 a2 = some r) : Fn Tryz.prog 55 [(.sl (a1.map D.i)), (.int .i64 a2)] (.sl (r.map D.i)) := by
 unfold m_ref30_add at hm
 refine Fn.of_AW (fnn := Tryz.f55) Tryz.func55 rfl (Nat.le_of_ble_eq_true rfl) (fun g0 w0 hw0 => ?_)
 refine AW.reset 0 [(0, .d (.sl (a1.map D.i))), (1, .d (.int .i64 a2))] [] (WOK.g0 hw0 (by simp)) ⟨[], rfl, rfl, rfl, ⟨(.d rfl), (.d rfl), trivial⟩, trivial, .nil⟩ (zr (zs (op_assignN .r) (zn (zr (za rfl (zn (AW.seq (AW.block ?_))))))))
 obtain ⟨t_1, hI1, hk1⟩ := bindE hm
 refine AW.loopS (σ := Int) (τ := Int) 0 (fun x => [(0, .d (.sl (a1.map D.i))), (1, .d (.int .i64 a2)), (5, .d (.int .i64 x))]) (fun x => []) hI1 (WOK.g0 hw0 (by simp)) ⟨[], rfl, rfl, rfl, ⟨(.d rfl), (.d rfl), (.d rfl), trivial⟩, trivial, .nil⟩ ?_
 rintro n1 s3 hI1
 obtain ⟨y_1, hm, hI1⟩ := iterS hI1
 replace hm : m_ref30_add_L1 n _ _ s3 = some y_1 := hm
 unfold m_ref30_add_L1 at hm
 try dsimp only at hm
 refine AW.seq (zr (zm rfl (zm rfl (zs (op_lenM (f := D.i) (.r rfl) sl38) (zs (op_lss (.r rfl) (.r rfl)) (zm rfl (AL.sT rfl rfl rfl rfl (fun g => op_moveD .r) (AL.sT rfl rfl rfl rfl (fun g => op_moveD .r) ?_))))))))
 obtain ⟨v4, hv4, hm⟩ := bindE hm
 refine AL.sT rfl rfl rfl rfl (fun g => op_indexAddrM (f := D.i) (.we g rfl rfl) (.we g rfl rfl) (iteT g hv4) En.i sl38) (AL.sT rfl rfl rfl rfl (fun g => op_load_vp1 (.we g rfl) rfl sc3) (AL.sT rfl rfl rfl rfl (fun g => op_moveD .r) (AL.sT rfl rfl rfl rfl (fun g => op_lss (.we g rfl rfl) (.we g rfl rfl)) (zs (op_and (.r rfl) (fun h => (.we h rfl rfl)) rfl) (zn ?_)))))
 refine AW.cond (b := _) rfl (fun hc1 => ?_) (fun hc1 => ?_)
 ·replace hm := iteT hc1 hm
  refine AW.skip (nq (AW.block (AW.region (zm rfl (zs (op_addw (.r rfl) (.r rfl)) (za rfl (zn (bq_n ?_))))))))
  obtain rfl := Option.some.inj hm
  exact nq ⟨_, hI1, ⟨[], rfl, rfl, rfl, ⟨(.d rfl), (.d rfl), (.d rfl), trivial⟩, trivial, .nil⟩⟩
 ·replace hm := iteF hc1 hm
  refine AW.exit (tq_exit (tq_exit ?_))
  obtain rfl := Option.some.inj hm
  obtain rfl := Option.some.inj hI1
  replace hm := hk1
  try dsimp only at hm
  refine bq_hit (nq (AW.free (AW.free (AW.free (AW.seqD [([], []), ([], []), ([], []), ([], []), ([], [0]), ([], []), ([], []), ([0], [0]), ([], []), ([], []), ([], []), ([0], [0]), ([], [])] mo (by decide +kernel) (AD.s (ws := []) rfl rfl (fun H' _ hH => op_buildSlice (ds := ([] : List Int).map D.i) sl38 .nil rfl (by decide)) (AD.s (ws := []) rfl rfl (fun H' _ hH => op_moveD .r) (AD.s (ws := []) rfl rfl (fun H' _ hH => op_moveD .r) ?_))))))))
  obtain ⟨v5, hv5, hm⟩ := bindE hm
  refine AD.s (ws := []) rfl rfl (fun H' _ hH => op_sliceM (f := D.i) (.r rfl) sl38 rfl (.r rfl) En.i hv5) ?_
  obtain ⟨v6, hv6, hm⟩ := bindE hm
  refine AD.s (ws := [(0, _)]) rfl rfl (fun H' _ hH => op_appendERM (res := 0) (f := D.i) (l := ([] : List Int)) (l' := v5) sl38 .r (.r rfl) ((hH _ (by simp)).trans rfl) En.i hv6) (AD.s (ws := []) rfl rfl (fun H' _ hH => op_moveD .r) (AD.s (ws := []) rfl rfl (fun H' _ hH => op_buildSlice (ds := ([a2] : List Int).map D.i) sl38 (.cons (.r rfl) rfl (En.i.one _) .nil) rfl (by decide)) ?_))
  obtain ⟨v7, hv7, hm⟩ := bindE hm
  refine AD.s (ws := [(0, _)]) rfl rfl (fun H' _ hH => op_appendM (f := D.i) (l' := ([a2] : List Int)) sl38 .r (.r rfl) ((hH _ (by simp)).trans rfl) rfl En.i hv7) (AD.s (ws := []) rfl rfl (fun H' _ hH => op_moveD .r) (AD.s (ws := []) rfl rfl (fun H' _ hH => op_moveD .r) ?_))
  obtain ⟨v8, hv8, hm⟩ := bindE hm
  refine AD.s (ws := []) rfl rfl (fun H' _ hH => op_sliceM (f := D.i) (.r rfl) sl38 (.r rfl) rfl En.i hv8) ?_
  obtain ⟨v9, hv9, hm⟩ := bindE hm
  refine AD.s (ws := [(0, _)]) rfl rfl (fun H' _ hH => op_appendM (f := D.i) (l' := v8) sl38 .r (.r rfl) ((hH _ (by simp)).trans rfl) rfl En.i hv9) (AD.s (ws := []) rfl rfl (fun H' _ hH => op_assignT .r) (AD.nil (AW.ret ?_)))
  obtain rfl := Option.some.inj hm
  exact EndQ.d (.tmp .r .nil) rfl rfl
theorem m_ref30_Put_ok {n : Nat} {a1 : (List SBlock)} {a2 : SFeatures} {r : ((List SBlock) × Int)} (hm : m_ref30_Put n a1 a2 = some r) : Fn Tryz.prog 24 [(.sl (a1.map SBlock.e)), (SFeatures.e a2)] (.tup [(.sl (r.1.map SBlock.e)), (.int .i64 r.2)]) := by
 unfold m_ref30_Put at hm
 refine Fn.of_AW (fnn := Tryz.f24) Tryz.func24 rfl (Nat.le_of_ble_eq_true rfl) (fun g0 w0 hw0 => ?_)
 refine AW.reset 0 [(0, .d (.sl (a1.map SBlock.e))), (1, .d (SFeatures.e a2))] [] (WOK.g0 hw0 (by simp)) ⟨[], rfl, rfl, rfl, ⟨(.d rfl), (.d rfl), trivial⟩, trivial, .nil⟩ (zr (zs (op_box (n := 0) .r rfl rfl rfl) (zs (op_assignN .r) (za rfl (zn (AW.seq (AW.block (zr (zm rfl ?_)))))))))
 obtain ⟨v3, hv3, hm⟩ := bindE hm
 refine zs (op_fn Tryz.call28 .r (.cons (.r rfl) .nil) (m_ref30_Valid_ok hv3)) (zs (op_not (.r rfl)) (zm rfl (AL.sF rfl rfl rfl rfl (fun g => op_load_ptrA .r rfl rfl rfl ag40) ?_)))
 obtain ⟨v4, hv4, hm⟩ := bindE hm
 refine AL.sF rfl rfl rfl rfl (fun g => op_fn Tryz.call44 .r (.cons (.we (nt g) rfl rfl) .nil) (m_ref29_Valid_ok (iteT (nt g) hv4))) (AL.sF rfl rfl rfl rfl (fun g => op_not (.we (nt g) rfl rfl)) (zs (op_or (.r rfl) rfl (fun h => (.we (nt h) rfl rfl))) (za rfl (zn ?_))))
 refine AW.cond (b := _) rfl (fun hc1 => ?_) (fun hc1 => ?_)
 ·replace hm := iteT hc1 hm
  refine zr (zs (op_assignN .r) (za rfl (zn (AW.ret (bq_ret (tq_ret ?_))))))
  obtain rfl := Option.some.inj hm
  exact EndQ.d (.tmp .r (.tmp .r .nil)) rfl rfl
 ·replace hm := iteF hc1 hm
  refine zr (zm rfl (zs (op_field_ptr .r fd40_0) (zs (op_load_ptr1 .r rfl rfl sc3) ?_)))
  obtain ⟨v5, hv5, hm⟩ := bindE hm
  refine zs (op_fn Tryz.call54 .r (.cons (.r rfl) (.cons (.r rfl) .nil)) (m_ref30_In_ok hv5)) (za rfl (zn ?_))
  refine AW.cond (b := _) rfl (fun hc2 => ?_) (fun hc2 => ?_)
  ·replace hm := iteT hc2 hm
   refine zr (zs (op_assignN .r) (za rfl (zn (AW.ret (bq_ret (tq_ret ?_))))))
   obtain rfl := Option.some.inj hm
   exact EndQ.d (.tmp .r (.tmp .r .nil)) rfl rfl
  ·replace hm := iteF hc2 hm
   refine AW.skip (bq_n (nq (zr (zs (op_load_ptrA .r rfl rfl rfl ag40) ?_))))
   obtain ⟨v6, hv6, hm⟩ := bindE hm
   refine zs (op_fn Tryz.call19 .r (.cons (.r rfl) .nil) (m_ref30_Keys_ok hv6)) (za rfl (zn (zr (zs (op_assignN .r) (zn (zr (za rfl (zn (AW.seq (zr (za rfl (zn (AW.block (AW.tokenize (n := 1) 7 81 2 rfl rfl (by simp) ?_))))))))))))))
   obtain ⟨t_1, hI1, hk1⟩ := bindE hm
   refine AW.loopS (σ := ((List SBlock) × Int × Int)) (τ := ((List SBlock) × Int)) 0 (fun x => [(0, .d (.sl (a1.map SBlock.e))), (3, .ptr 0 0), (6, .d (.sl (v6.map D.str))), (7, .tk 1 (x.1.map SBlock.e)), (8, .d (.int .i64 x.2.1)), (9, .d (.int .i64 x.2.2))]) (fun x => [.row [.d (.int .i64 a2.fID), .d (.sl (a2.fTitle.map D.str)), .d (.str a2.fAuthor), .d (.sl (a2.fYears.map D.i)), .d (.sl (a2.fIsbns.map D.str)), .d (.sl (a2.fLangs.map D.str)), .d (.sl (a2.fPublisher.map D.str)), .d (.sl (a2.fEdition.map D.str))], .tok x.1.length 81 2]) hI1 (WOK.g0 hw0 (by simp)) ⟨[0, 1], rfl, rfl, rfl, ⟨(.d rfl), (.ptr rfl), (.d rfl), (.tk rfl), (.d rfl), (.d rfl), trivial⟩, trivial, (.row rfl (.cons (.d rfl) (.cons (.d rfl) (.cons (.d rfl) (.cons (.d rfl) (.cons (.d rfl) (.cons (.d rfl) (.cons (.d rfl) (.cons (.d rfl) .nil)))))))) (.tok rfl .nil))⟩ ?_
   rintro n1 ⟨s7, s8, s9⟩ hI1
   obtain ⟨y_1, hm, hI1⟩ := iterS hI1
   replace hm : m_ref30_Put_L1 n _ _ _ s7 s8 s9 = some y_1 := hm
   unfold m_ref30_Put_L1 at hm
   try dsimp only at hm
   refine AW.seq (zr (zm rfl (zm rfl (zs (op_lenM (f := SBlock.e) (.r rfl) sl32) (zs (op_lss (.r rfl) (.r rfl)) (zn ?_))))))
   refine AW.cond (b := _) rfl (fun hc3 => ?_) (fun hc3 => ?_)
   ·replace hm := iteT hc3 hm
    refine AW.skip (nq (AW.seq (AW.block (AW.seq (AW.block ?_)))))
    obtain ⟨t_2, hI2, hk2⟩ := bindE hm
    refine AW.loopS (σ := ((List SBlock) × Int)) (τ := ((List SBlock) × Int)) 0 (fun x => [(0, .d (.sl (a1.map SBlock.e))), (3, .ptr 0 0), (6, .d (.sl (v6.map D.str))), (7, .tk 1 (x.1.map SBlock.e)), (8, .d (.int .i64 x.2)), (9, .d (.int .i64 s9))]) (fun x => [.row [.d (.int .i64 a2.fID), .d (.sl (a2.fTitle.map D.str)), .d (.str a2.fAuthor), .d (.sl (a2.fYears.map D.i)), .d (.sl (a2.fIsbns.map D.str)), .d (.sl (a2.fLangs.map D.str)), .d (.sl (a2.fPublisher.map D.str)), .d (.sl (a2.fEdition.map D.str))], .tok x.1.length 81 2]) hI2 (WOK.g0 hw0 (by simp)) ⟨[0, 1], rfl, rfl, rfl, ⟨(.d rfl), (.ptr rfl), (.d rfl), (.tk rfl), (.d rfl), (.d rfl), trivial⟩, trivial, (.row rfl (.cons (.d rfl) (.cons (.d rfl) (.cons (.d rfl) (.cons (.d rfl) (.cons (.d rfl) (.cons (.d rfl) (.cons (.d rfl) (.cons (.d rfl) .nil)))))))) (.tok rfl .nil))⟩ ?_
    rintro n2 ⟨s10, s11⟩ hI2
    obtain ⟨y_2, hm, hI2⟩ := iterS hI2
    replace hm : m_ref30_Put_L2 n _ _ _ _ s10 s11 = some y_2 := hm
    unfold m_ref30_Put_L2 at hm
    try dsimp only at hm
    refine AW.seq (AW.seqD [([], []), ([], []), ([], []), ([], []), ([], []), ([], []), ([], []), ([], []), ([], []), ([], []), ([], []), ([], []), ([], []), ([], []), ([], []), ([], [])] mo (by decide +kernel) (AD.s (ws := []) rfl rfl (fun H' _ hH => op_moveD .r) (AD.s (ws := []) rfl rfl (fun H' _ hH => op_moveD .r) (AD.s (ws := []) rfl rfl (fun H' _ hH => op_lenM (f := D.str) (.r rfl) sl37) (AD.s (ws := []) rfl rfl (fun H' _ hH => op_lss (.r rfl) (.r rfl)) (AD.s (ws := []) rfl rfl (fun H' _ hH => op_moveD .r) (AD.sT rfl rfl rfl rfl (fun g H' _ hH => op_moveD .r) (AD.sT rfl rfl rfl rfl (fun g H' _ hH => op_moveD .r) ?_))))))))
    obtain ⟨v12, hv12, hm⟩ := bindE hm
    refine AD.sT rfl rfl rfl rfl (fun g H' _ hH => op_indexAddrM (f := D.str) (.we g rfl rfl) (.we g rfl rfl) (iteT g hv12) En.str sl37) (AD.sT rfl rfl rfl rfl (fun g H' _ hH => op_load_vp1 (.we g rfl) rfl sc9) (AD.sT rfl rfl rfl rfl (fun g H' _ hH => op_moveD .r) (AD.sT rfl rfl rfl rfl (fun g H' _ hH => op_moveD .r) ?_)))
    obtain ⟨v13, hv13, hm⟩ := bindE hm
    refine AD.sT rfl rfl rfl rfl (fun g H' _ hH => op_indexAddrM (f := SBlock.e) (.we g rfl rfl) (.we g rfl rfl) (iteT g hv13) enSBlock sl32) (AD.sT rfl rfl rfl rfl (fun g H' _ hH => op_field_vp (.we g rfl) fd81_0) (AD.sT rfl rfl rfl rfl (fun g H' _ hH => op_load_vp1 (.we g rfl) rfl sc9) (AD.sT rfl rfl rfl rfl (fun g H' _ hH => op_lssS (.we g rfl rfl) (.we g rfl rfl)) (AD.s (ws := []) rfl rfl (fun H' _ hH => op_and (.r rfl) (fun h => (.we h rfl rfl)) rfl) (AD.nil ?_)))))
    refine AW.cond (b := _) rfl (fun hc4 => ?_) (fun hc4 => ?_)
    ·replace hm := iteT hc4 hm
     refine AW.skip (nq (AW.block (AW.free (AW.seqD [([], []), ([], []), ([], []), ([], []), ([], []), ([], []), ([0], []), ([], []), ([], []), ([], []), ([1], [1]), ([], [])] mo (by decide +kernel) (AD.s (ws := []) rfl rfl (fun H' _ hH => op_moveT .r) (AD.s (ws := []) rfl rfl (fun H' _ hH => op_moveD .r) (AD.s (ws := []) rfl rfl (fun H' _ hH => op_moveD .r) ?_)))))))
     obtain ⟨v14, hv14, hm⟩ := bindE hm
     refine AD.s (ws := []) rfl rfl (fun H' _ hH => op_indexAddrM (f := D.str) (.r rfl) (.r rfl) hv14 En.str sl37) (AD.s (ws := []) rfl rfl (fun H' _ hH => op_load_vp1 .r rfl sc9) (AD.s (ws := []) rfl rfl (fun H' _ hH => op_field_ptr .r fd40_0) (AD.s (ws := []) rfl rfl (fun H' _ hH => op_load_ptr1 .r ((hH _ (by simp)).trans rfl) rfl sc3) (AD.s (ws := []) rfl rfl (fun H' _ hH => op_buildSlice (ds := ([a2.fID] : List Int).map D.i) sl38 (.cons (.r rfl) rfl (En.i.one _) .nil) rfl (by decide)) (AD.s (ws := []) rfl rfl (fun H' _ hH => op_build bd81 (.cons .r rfl rfl rfl rfl (Nat.le_of_ble_eq_true rfl) (.cons .r rfl rfl rfl rfl (Nat.le_of_ble_eq_true rfl) .nil))) (AD.s (ws := []) rfl rfl (fun H' _ hH => op_buildSlice (ds := ([(⟨v14, ([a2.fID] : List Int)⟩ : SBlock)] : List SBlock).map SBlock.e) sl32 (.cons (.r rfl) rfl (enSBlock.one _) .nil) rfl (by decide)) ?_))))))
     obtain ⟨v15, hv15, hm⟩ := bindE hm
     refine AD.s (ws := [(1, _)]) rfl rfl (fun H' _ hH => op_appendM (f := SBlock.e) (l' := ([(⟨v14, ([a2.fID] : List Int)⟩ : SBlock)] : List SBlock)) sl32 .r (.r rfl) ((hH _ (by simp)).trans rfl) rfl enSBlock hv15) (AD.s (ws := []) rfl rfl (fun H' _ hH => op_assignT .r) (AD.nil (AW.region (zm rfl (zs (op_addw (.r rfl) (.r rfl)) (za rfl (zn (bq_n ?_))))))))
     obtain rfl := Option.some.inj hm
     exact nq ⟨_, hI2, ⟨[0, 1], rfl, rfl, rfl, ⟨(.d rfl), (.ptr rfl), (.d rfl), (.tk rfl), (.d rfl), (.d rfl), trivial⟩, trivial, (.row rfl (.cons (.d rfl) (.cons (.d rfl) (.cons (.d rfl) (.cons (.d rfl) (.cons (.d rfl) (.cons (.d rfl) (.cons (.d rfl) (.cons (.d rfl) .nil)))))))) (.tok rfl .nil))⟩⟩
    ·replace hm := iteF hc4 hm
     refine AW.exit (tq_exit (tq_exit ?_))
     obtain rfl := Option.some.inj hm
     obtain rfl := Option.some.inj hI2
     replace hm := hk2
     try dsimp only at hm
     refine bq_hit (nq (AW.free (AW.free (AW.free (AW.seqD [([], []), ([], []), ([], []), ([], []), ([], []), ([], []), ([], []), ([], []), ([], []), ([], []), ([], []), ([], [2, 3]), ([], []), ([], [4]), ([4], [4])] mo (by decide +kernel) (AD.s (ws := []) rfl rfl (fun H' _ hH => op_moveD .r) (AD.s (ws := []) rfl rfl (fun H' _ hH => op_moveD .r) ?_)))))))
     obtain ⟨v16, hv16, hm⟩ := bindE hm
     refine AD.s (ws := []) rfl rfl (fun H' _ hH => op_indexAddrM (f := SBlock.e) (.r rfl) (.r rfl) hv16 enSBlock sl32) (AD.s (ws := []) rfl rfl (fun H' _ hH => op_field_vp .r fd81_0) (AD.s (ws := []) rfl rfl (fun H' _ hH => op_load_vp1 .r rfl sc9) (AD.s (ws := []) rfl rfl (fun H' _ hH => op_buildSlice (ds := ([] : List Int).map D.i) sl38 .nil rfl (by decide)) (AD.s (ws := []) rfl rfl (fun H' _ hH => op_moveD .r) (AD.s (ws := []) rfl rfl (fun H' _ hH => op_moveD .r) ?_)))))
     obtain ⟨v17, hv17, hm⟩ := bindE hm
     refine AD.s (ws := []) rfl rfl (fun H' _ hH => op_indexAddrM (f := SBlock.e) (.r rfl) (.r rfl) hv17 enSBlock sl32) (AD.s (ws := []) rfl rfl (fun H' _ hH => op_field_vp .r fd81_1) (AD.s (ws := []) rfl rfl (fun H' _ hH => op_load_vp1 .r rfl sc38) ?_))
     obtain ⟨v18, hv18, hm⟩ := bindE hm
     refine AD.s (ws := [(2, _), (3, _)]) rfl rfl (fun H' _ hH => op_appendEHR (r0 := 2) (r1 := 3) (f := D.i) (l' := v17.fIDs) sl38 .r (.r rfl) (by simp) ((hH _ (by simp)).trans rfl) ((hH _ (by simp)).trans rfl) (by decide) En.i hv18) (AD.s (ws := []) rfl rfl (fun H' _ hH => op_build bd81 (.cons .r rfl rfl rfl rfl (Nat.le_of_ble_eq_true rfl) (.cons .r rfl rfl rfl rfl (Nat.le_of_ble_eq_true rfl) .nil))) (AD.s (ws := [(4, _)]) rfl rfl (fun H' _ hH => op_allocR zr81 ((hH _ (by simp)).trans rfl)) (AD.s (ws := [(4, _)]) rfl rfl (fun H' _ hH => op_storeA .r .r ((hH _ (by simp)).trans rfl) rfl ⟨_, rfl, rfl⟩ rfl (Nat.le_of_ble_eq_true rfl)) (AD.nil (AW.freezeC (f := D.i) (l := v18) 3 [73] 4 1 rfl rfl En.i ⟨rfl, trivial⟩ rfl rfl ?_)))))
     obtain ⟨t_j1, hm, hkj1⟩ := bindE hm
     refine AW.cutS (α := (Int × (List Int))) 0 (fun x => x = t_j1) (fun x => [(0, .d (.sl (a1.map SBlock.e))), (3, .ptr 0 0), (6, .d (.sl (v6.map D.str))), (7, .tk 1 (s10.map SBlock.e)), (8, .d (.int .i64 x.1)), (9, .d (.int .i64 s9)), (10, .ptr 4 0)]) (fun x => [.row [.d (.int .i64 a2.fID), .d (.sl (a2.fTitle.map D.str)), .d (.str a2.fAuthor), .d (.sl (a2.fYears.map D.i)), .d (.sl (a2.fIsbns.map D.str)), .d (.sl (a2.fLangs.map D.str)), .d (.sl (a2.fPublisher.map D.str)), .d (.sl (a2.fEdition.map D.str))], .tok s10.length 81 2, .dead, .dead, .row [.d (.str v16.fKey), .d (.sl (x.2.map D.i))]]) (WOK.g0 hw0 (by simp)) ?_ ?_
     ·skip
      refine AW.reset 0 [(0, .d (.sl (a1.map SBlock.e))), (3, .ptr 0 0), (6, .d (.sl (v6.map D.str))), (7, .tk 1 (s10.map SBlock.e)), (8, .d (.int .i64 s11)), (9, .d (.int .i64 s9)), (10, .ptr 4 0)] [.row [.d (.int .i64 a2.fID), .d (.sl (a2.fTitle.map D.str)), .d (.str a2.fAuthor), .d (.sl (a2.fYears.map D.i)), .d (.sl (a2.fIsbns.map D.str)), .d (.sl (a2.fLangs.map D.str)), .d (.sl (a2.fPublisher.map D.str)), .d (.sl (a2.fEdition.map D.str))], .tok s10.length 81 2, .dead, .dead, .row [.d (.str v16.fKey), .d (.sl (v18.map D.i))]] (WOK.g0 hw0 (by simp)) ⟨[0, 1, 2, 3, 4], rfl, rfl, rfl, ⟨(.d rfl), (.ptr rfl), (.d rfl), (.tk rfl), (.d rfl), (.d rfl), (.ptr rfl), trivial⟩, trivial, (.row rfl (.cons (.d rfl) (.cons (.d rfl) (.cons (.d rfl) (.cons (.d rfl) (.cons (.d rfl) (.cons (.d rfl) (.cons (.d rfl) (.cons (.d rfl) .nil)))))))) (.tok rfl (.dead (.dead (.row rfl (.cons (.d rfl) (.cons (.d rfl) .nil)) .nil)))))⟩ (AW.seqD [([], []), ([], []), ([], []), ([], []), ([], []), ([], []), ([], []), ([], []), ([], []), ([], []), ([4], []), ([], []), ([], [])] mo (by decide +kernel) (AD.s (ws := []) rfl rfl (fun H' _ hH => op_moveD .r) (AD.s (ws := []) rfl rfl (fun H' _ hH => op_moveD .r) (AD.s (ws := []) rfl rfl (fun H' _ hH => op_lenM (f := D.str) (.r rfl) sl37) (AD.s (ws := []) rfl rfl (fun H' _ hH => op_lss (.r rfl) (.r rfl)) (AD.s (ws := []) rfl rfl (fun H' _ hH => op_moveD .r) (AD.sT rfl rfl rfl rfl (fun g H' _ hH => op_moveD .r) (AD.sT rfl rfl rfl rfl (fun g H' _ hH => op_moveD .r) ?_))))))))
      obtain ⟨v19, hv19, hm⟩ := bindE hm
      refine AD.sT rfl rfl rfl rfl (fun g H' _ hH => op_indexAddrM (f := D.str) (.we g rfl rfl) (.we g rfl rfl) (iteT g hv19) En.str sl37) (AD.sT rfl rfl rfl rfl (fun g H' _ hH => op_load_vp1 (.we g rfl) rfl sc9) (AD.sT rfl rfl rfl rfl (fun g H' _ hH => op_field_ptr .r fd81_0) (AD.sT rfl rfl rfl rfl (fun g H' _ hH => op_load_ptr1 (.we g rfl) ((hH _ (by simp)).trans rfl) rfl sc9) (AD.sT rfl rfl rfl rfl (fun g H' _ hH => op_eqlS (.we g rfl rfl) (.we g rfl rfl)) (AD.s (ws := []) rfl rfl (fun H' _ hH => op_and (.r rfl) (fun h => (.we h rfl rfl)) rfl) (AD.nil ?_))))))
      refine AW.cond (b := _) rfl (fun hc5 => ?_) (fun hc5 => ?_)
      ·replace hm := iteT hc5 hm
       refine zr (zs (op_field_ptr .r fd81_1) (zs (op_load_ptr1 .r rfl rfl sc38) (zs (op_field_ptr .r fd40_0) (zs (op_load_ptr1 .r rfl rfl sc3) ?_))))
       obtain ⟨v20, hv20, hm⟩ := bindE hm
       refine zs (op_fn Tryz.call55 .r (.cons (.r rfl) (.cons (.r rfl) .nil)) (m_ref30_add_ok hv20)) (zs (op_field_ptr .r fd81_1) (zs (op_storeD .r .r rfl rfl rfl ⟨_, rfl, rfl⟩ (Nat.le_of_ble_eq_true rfl)) (zn (AW.region (zm rfl (zs (op_addw (.r rfl) (.r rfl)) (za rfl (zn ?_))))))))
       obtain rfl := Option.some.inj hm
       exact nq ⟨_, rfl, ⟨[0, 1, 2, 3, 4], rfl, rfl, rfl, ⟨(.d rfl), (.ptr rfl), (.d rfl), (.tk rfl), (.d rfl), (.d rfl), (.ptr rfl), trivial⟩, trivial, (.row rfl (.cons (.d rfl) (.cons (.d rfl) (.cons (.d rfl) (.cons (.d rfl) (.cons (.d rfl) (.cons (.d rfl) (.cons (.d rfl) (.cons (.d rfl) .nil)))))))) (.tok rfl (.dead (.dead (.row rfl (.cons (.d rfl) (.cons (.d rfl) .nil)) .nil)))))⟩⟩
      ·replace hm := iteF hc5 hm
       refine AW.skip ?_
       obtain rfl := Option.some.inj hm
       exact nq ⟨_, rfl, ⟨[0, 1, 2, 3, 4], rfl, rfl, rfl, ⟨(.d rfl), (.ptr rfl), (.d rfl), (.tk rfl), (.d rfl), (.d rfl), (.ptr rfl), trivial⟩, trivial, (.row rfl (.cons (.d rfl) (.cons (.d rfl) (.cons (.d rfl) (.cons (.d rfl) (.cons (.d rfl) (.cons (.d rfl) (.cons (.d rfl) (.cons (.d rfl) .nil)))))))) (.tok rfl (.dead (.dead (.row rfl (.cons (.d rfl) (.cons (.d rfl) .nil)) .nil)))))⟩⟩
     ·rintro ⟨s21, s22⟩ rfl
      replace hm := hkj1
      try dsimp only at hm
      refine AW.region (zs (op_moveT .r) (zs (op_load_ptrA .r rfl rfl rfl ag81) (zs (op_buildSlice (ds := ([(⟨v16.fKey, s22⟩ : SBlock)] : List SBlock).map SBlock.e) sl32 (.cons (.r rfl) rfl (enSBlock.one _) .nil) rfl (by decide)) ?_)))
      obtain ⟨v23, hv23, hm⟩ := bindE hm
      refine zs (op_appendM (f := SBlock.e) (l' := ([(⟨v16.fKey, s22⟩ : SBlock)] : List SBlock)) sl32 .r (.r rfl) rfl rfl enSBlock hv23) (zs (op_assignT .r) (zn (bq_n (nq (AW.region (zm rfl (zs (op_addw (.r rfl) (.r rfl)) (za rfl (zn ?_)))))))))
      obtain rfl := Option.some.inj hm
      exact nq ⟨_, hI1, ⟨[0, 1], rfl, rfl, rfl, ⟨(.d rfl), (.ptr rfl), (.d rfl), (.tk rfl), (.d rfl), (.d rfl), trivial⟩, trivial, (.row rfl (.cons (.d rfl) (.cons (.d rfl) (.cons (.d rfl) (.cons (.d rfl) (.cons (.d rfl) (.cons (.d rfl) (.cons (.d rfl) (.cons (.d rfl) .nil)))))))) (.tok rfl .nil))⟩⟩
   ·replace hm := iteF hc3 hm
    refine AW.exit (tq_exit (tq_exit ?_))
    obtain rfl := Option.some.inj hm
    obtain rfl := Option.some.inj hI1
    replace hm := hk1
    try dsimp only at hm
    refine bq_hit (nq (AW.seq (AW.block ?_)))
    obtain ⟨t_3, hI3, hk3⟩ := bindE hm
    refine AW.loopS (σ := ((List SBlock) × Int)) (τ := (List SBlock)) 0 (fun x => [(3, .ptr 0 0), (6, .d (.sl (v6.map D.str))), (7, .tk 1 (x.1.map SBlock.e)), (8, .d (.int .i64 x.2))]) (fun x => [.row [.d (.int .i64 a2.fID), .d (.sl (a2.fTitle.map D.str)), .d (.str a2.fAuthor), .d (.sl (a2.fYears.map D.i)), .d (.sl (a2.fIsbns.map D.str)), .d (.sl (a2.fLangs.map D.str)), .d (.sl (a2.fPublisher.map D.str)), .d (.sl (a2.fEdition.map D.str))], .tok x.1.length 81 2]) hI3 (WOK.g0 hw0 (by simp)) ⟨[0, 1], rfl, rfl, rfl, ⟨(.ptr rfl), (.d rfl), (.tk rfl), (.d rfl), trivial⟩, trivial, (.row rfl (.cons (.d rfl) (.cons (.d rfl) (.cons (.d rfl) (.cons (.d rfl) (.cons (.d rfl) (.cons (.d rfl) (.cons (.d rfl) (.cons (.d rfl) .nil)))))))) (.tok rfl .nil))⟩ ?_
    rintro n3 ⟨s24, s25⟩ hI3
    obtain ⟨y_3, hm, hI3⟩ := iterS hI3
    replace hm : m_ref30_Put_L3 n _ _ s24 s25 = some y_3 := hm
    unfold m_ref30_Put_L3 at hm
    try dsimp only at hm
    refine AW.seq (zr (zm rfl (zm rfl (zs (op_lenM (f := D.str) (.r rfl) sl37) (zs (op_lss (.r rfl) (.r rfl)) (zn ?_))))))
    refine AW.cond (b := _) rfl (fun hc6 => ?_) (fun hc6 => ?_)
    ·replace hm := iteT hc6 hm
     refine AW.skip (nq (AW.seq (AW.block (AW.free (AW.drawn [([], []), ([], []), ([], []), ([], []), ([], []), ([], []), ([0], []), ([], []), ([], []), ([], []), ([1], [1]), ([], [])] mo (by decide +kernel) (AD.s (ws := []) rfl rfl (fun H' _ hH => op_moveT .r) (AD.s (ws := []) rfl rfl (fun H' _ hH => op_moveD .r) (AD.s (ws := []) rfl rfl (fun H' _ hH => op_moveD .r) ?_))))))))
     obtain ⟨v26, hv26, hm⟩ := bindE hm
     refine AD.s (ws := []) rfl rfl (fun H' _ hH => op_indexAddrM (f := D.str) (.r rfl) (.r rfl) hv26 En.str sl37) (AD.s (ws := []) rfl rfl (fun H' _ hH => op_load_vp1 .r rfl sc9) (AD.s (ws := []) rfl rfl (fun H' _ hH => op_field_ptr .r fd40_0) (AD.s (ws := []) rfl rfl (fun H' _ hH => op_load_ptr1 .r ((hH _ (by simp)).trans rfl) rfl sc3) (AD.s (ws := []) rfl rfl (fun H' _ hH => op_buildSlice (ds := ([a2.fID] : List Int).map D.i) sl38 (.cons (.r rfl) rfl (En.i.one _) .nil) rfl (by decide)) (AD.s (ws := []) rfl rfl (fun H' _ hH => op_build bd81 (.cons .r rfl rfl rfl rfl (Nat.le_of_ble_eq_true rfl) (.cons .r rfl rfl rfl rfl (Nat.le_of_ble_eq_true rfl) .nil))) (AD.s (ws := []) rfl rfl (fun H' _ hH => op_buildSlice (ds := ([(⟨v26, ([a2.fID] : List Int)⟩ : SBlock)] : List SBlock).map SBlock.e) sl32 (.cons (.r rfl) rfl (enSBlock.one _) .nil) rfl (by decide)) ?_))))))
     obtain ⟨v27, hv27, hm⟩ := bindE hm
     refine AD.s (ws := [(1, _)]) rfl rfl (fun H' _ hH => op_appendM (f := SBlock.e) (l' := ([(⟨v26, ([a2.fID] : List Int)⟩ : SBlock)] : List SBlock)) sl32 .r (.r rfl) ((hH _ (by simp)).trans rfl) rfl enSBlock hv27) (AD.s (ws := []) rfl rfl (fun H' _ hH => op_assignT .r) (AD.nil (bq_n (nq (AW.region (zm rfl (zs (op_addw (.r rfl) (.r rfl)) (za rfl (zn ?_)))))))))
     obtain rfl := Option.some.inj hm
     exact nq ⟨_, hI3, ⟨[0, 1], rfl, rfl, rfl, ⟨(.ptr rfl), (.d rfl), (.tk rfl), (.d rfl), trivial⟩, trivial, (.row rfl (.cons (.d rfl) (.cons (.d rfl) (.cons (.d rfl) (.cons (.d rfl) (.cons (.d rfl) (.cons (.d rfl) (.cons (.d rfl) (.cons (.d rfl) .nil)))))))) (.tok rfl .nil))⟩⟩
    ·replace hm := iteF hc6 hm
     refine AW.exit (tq_exit (tq_exit ?_))
     obtain rfl := Option.some.inj hm
     obtain rfl := Option.some.inj hI3
     replace hm := hk3
     try dsimp only at hm
     refine bq_hit (nq (zr (zs (op_moveT .r) (zs (op_assignT .r) (za rfl (zn (AW.ret ?_)))))))
     obtain rfl := Option.some.inj hm
     exact EndQ.d (.tmp .r (.tmp .r .nil)) rfl rfl
theorem m_ref30_Of_ok {n : Nat} {a1 : (List SFeatures)} {r : ((List SBlock) × Int)} (hm : m_ref30_Of n a1 = some r) : Fn Tryz.prog 13 [(.sl (a1.map SFeatures.e))] (.tup [(.sl (r.1.map SBlock.e)), (.int .i64 r.2)]) := by
 unfold m_ref30_Of at hm
 refine Fn.of_AW (fnn := Tryz.f13) Tryz.func13 rfl (Nat.le_of_ble_eq_true rfl) (fun g0 w0 hw0 => ?_)
 refine AW.reset 0 [(0, .d (.sl (a1.map SFeatures.e)))] [] (WOK.g0 hw0 (by simp)) ⟨[], rfl, rfl, rfl, ⟨(.d rfl), trivial⟩, trivial, .nil⟩ (zr (zs (op_assignN .r) (za rfl (zn (zr (zs (op_assignN .r) (zn (zr (zs (op_assignN .r) (zn (AW.seq (zr (za rfl (zn (AW.block ?_)))))))))))))))
 obtain ⟨t_1, hI1, hk1⟩ := bindE hm
 refine AW.loopS (σ := Int) (τ := (((List SBlock) × Int) ⊕ Unit)) 0 (fun x => [(0, .d (.sl (a1.map SFeatures.e))), (4, .ex ([].map D.i)), (5, .ex ([].map SBlock.e)), (6, .d (.int .i64 x))]) (fun x => []) hI1 (WOK.g0 hw0 (by simp)) ⟨[], rfl, rfl, rfl, ⟨(.d rfl), .ex, .ex, (.d rfl), trivial⟩, trivial, .nil⟩ ?_
 rintro n1 s2 hI1
 obtain ⟨y_1, hm, hI1⟩ := iterS hI1
 replace hm : m_ref30_Of_L1 n _ s2 = some y_1 := hm
 unfold m_ref30_Of_L1 at hm
 try dsimp only at hm
 refine AW.seq (zr (zm rfl (zm rfl (zs (op_lenM (f := SFeatures.e) (.r rfl) sl22) (zs (op_lss (.r rfl) (.r rfl)) (zn ?_))))))
 refine AW.cond (b := _) rfl (fun hc1 => ?_) (fun hc1 => ?_)
 ·replace hm := iteT hc1 hm
  refine AW.skip (nq (AW.seq (AW.block (zr (zm rfl (zm rfl ?_))))))
  obtain ⟨v3, hv3, hm⟩ := bindE hm
  refine zs (op_indexAddrM (f := SFeatures.e) (.r rfl) (.r rfl) hv3 enSFeatures sl22) (zs (op_loadA .r rfl ag40) ?_)
  obtain ⟨v4, hv4, hm⟩ := bindE hm
  refine zs (op_fn Tryz.call44 .r (.cons (.r rfl) .nil) (m_ref29_Valid_ok hv4)) (zs (op_not (.r rfl)) (zn ?_))
  refine AW.cond (b := _) rfl (fun hc2 => ?_) (fun hc2 => ?_)
  ·replace hm := iteT hc2 hm
   refine zr (zs (op_assignN .r) (za rfl (zn (AW.ret (bq_ret (tq_ret (tq_ret ?_)))))))
   obtain rfl := Option.some.inj hm
   obtain rfl := Option.some.inj hI1
   replace hm := hk1
   try dsimp only at hm
   refine bq_ret (tq_ret ?_)
   obtain rfl := Option.some.inj hm
   exact EndQ.d (.tmp .r (.tmp .r .nil)) rfl rfl
  ·replace hm := iteF hc2 hm
   refine AW.skip (bq_n (nq (AW.region (zm rfl (zs (op_addw (.r rfl) (.r rfl)) (za rfl (zn ?_)))))))
   obtain rfl := Option.some.inj hm
   exact nq ⟨_, hI1, ⟨[], rfl, rfl, rfl, ⟨(.d rfl), .ex, .ex, (.d rfl), trivial⟩, trivial, .nil⟩⟩
 ·replace hm := iteF hc1 hm
  refine AW.exit (tq_exit (tq_exit ?_))
  obtain rfl := Option.some.inj hm
  obtain rfl := Option.some.inj hI1
  replace hm := hk1
  try dsimp only at hm
  refine bq_hit (nq (AW.seq (zr (za rfl (zn (AW.block (AW.tokenize (n := 0) 4 3 1 rfl rfl (by simp) ?_)))))))
  obtain ⟨t_2, hI2, hk2⟩ := bindE hm
  refine AW.loopS (σ := ((List Int) × Int)) (τ := (((List SBlock) × Int) ⊕ (List Int))) 0 (fun x => [(0, .d (.sl (a1.map SFeatures.e))), (4, .tk 0 (x.1.map D.i)), (5, .ex ([].map SBlock.e)), (7, .d (.int .i64 x.2))]) (fun x => [.tok x.1.length 3 1]) hI2 (WOK.g0 hw0 (by simp)) ⟨[0], rfl, rfl, rfl, ⟨(.d rfl), (.tk rfl), .ex, (.d rfl), trivial⟩, trivial, (.tok rfl .nil)⟩ ?_
  rintro n2 ⟨s5, s6⟩ hI2
  obtain ⟨y_2, hm, hI2⟩ := iterS hI2
  replace hm : m_ref30_Of_L2 n _ s5 s6 = some y_2 := hm
  unfold m_ref30_Of_L2 at hm
  try dsimp only at hm
  refine AW.seq (zr (zm rfl (zm rfl (zs (op_lenM (f := SFeatures.e) (.r rfl) sl22) (zs (op_lss (.r rfl) (.r rfl)) (zn ?_))))))
  refine AW.cond (b := _) rfl (fun hc3 => ?_) (fun hc3 => ?_)
  ·replace hm := iteT hc3 hm
   refine AW.skip (nq (AW.seq (AW.block (AW.seq (zr (zs (op_moveT .r) (zm rfl (zm rfl ?_))))))))
   obtain ⟨v7, hv7, hm⟩ := bindE hm
   refine zs (op_indexAddrM (f := SFeatures.e) (.r rfl) (.r rfl) hv7 enSFeatures sl22) (zs (op_field_vp .r fd40_0) (zs (op_load_vp1 .r rfl sc3) ?_))
   obtain ⟨v8, hv8, hm⟩ := bindE hm
   refine zs (op_fn Tryz.call45 .r (.cons (.r rfl) (.cons (.r rfl) .nil)) (m_ref30_has_ok hv8)) (zn ?_)
   refine AW.cond (b := _) rfl (fun hc4 => ?_) (fun hc4 => ?_)
   ·replace hm := iteT hc4 hm
    refine zr (zs (op_assignN .r) (za rfl (zn (AW.ret (tq_ret (bq_ret (tq_ret (tq_ret ?_))))))))
    obtain rfl := Option.some.inj hm
    obtain rfl := Option.some.inj hI2
    replace hm := hk2
    try dsimp only at hm
    refine bq_ret (tq_ret ?_)
    obtain rfl := Option.some.inj hm
    exact EndQ.d (.tmp .r (.tmp .r .nil)) rfl rfl
   ·replace hm := iteF hc4 hm
    refine AW.skip (nq (AW.region (zs (op_moveT .r) (zm rfl (zm rfl ?_)))))
    obtain ⟨v9, hv9, hm⟩ := bindE hm
    refine zs (op_indexAddrM (f := SFeatures.e) (.r rfl) (.r rfl) hv9 enSFeatures sl22) (zs (op_field_vp .r fd40_0) (zs (op_load_vp1 .r rfl sc3) (zs (op_buildSlice (ds := ([v9.fID] : List Int).map D.i) sl38 (.cons (.r rfl) rfl (En.i.one _) .nil) rfl (by decide)) ?_)))
    obtain ⟨v10, hv10, hm⟩ := bindE hm
    refine zs (op_appendM (f := D.i) (l' := ([v9.fID] : List Int)) sl38 .r (.r rfl) rfl rfl En.i hv10) (zs (op_assignT .r) (zn (bq_n (nq (AW.region (zm rfl (zs (op_addw (.r rfl) (.r rfl)) (za rfl (zn ?_)))))))))
    obtain rfl := Option.some.inj hm
    exact nq ⟨_, hI2, ⟨[0], rfl, rfl, rfl, ⟨(.d rfl), (.tk rfl), .ex, (.d rfl), trivial⟩, trivial, (.tok rfl .nil)⟩⟩
  ·replace hm := iteF hc3 hm
   refine AW.exit (tq_exit (tq_exit ?_))
   obtain rfl := Option.some.inj hm
   obtain rfl := Option.some.inj hI2
   replace hm := hk2
   try dsimp only at hm
   refine bq_hit (nq (AW.seq (zr (zm rfl (zs (op_lenM (f := SFeatures.e) (.r rfl) sl22) (zs (op_gtr (.r rfl) (.r rfl)) (zn ?_)))))))
   refine AW.cond (b := _) rfl (fun hc5 => ?_) (fun hc5 => ?_)
   ·replace hm := iteT hc5 hm
    refine zr (zs (op_assignN .r) (za rfl (zn (AW.ret (tq_ret ?_)))))
    obtain rfl := Option.some.inj hm
    exact EndQ.d (.tmp .r (.tmp .r .nil)) rfl rfl
   ·replace hm := iteF hc5 hm
    refine AW.skip (nq (AW.seq (zr (za rfl (zn (AW.block ?_))))))
    obtain ⟨t_3, hI3, hk3⟩ := bindE hm
    refine AW.loopS (σ := ((List SBlock) × Int)) (τ := (List SBlock)) 0 (fun x => [(0, .d (.sl (a1.map SFeatures.e))), (5, .d (.sl (x.1.map SBlock.e))), (8, .d (.int .i64 x.2))]) (fun x => [.tok s5.length 3 1]) hI3 (WOK.g0 hw0 (by simp)) ⟨[0], rfl, rfl, rfl, ⟨(.d rfl), (.d rfl), (.d rfl), trivial⟩, trivial, (.tok rfl .nil)⟩ ?_
    rintro n3 ⟨s11, s12⟩ hI3
    obtain ⟨y_3, hm, hI3⟩ := iterS hI3
    replace hm : m_ref30_Of_L3 n _ s11 s12 = some y_3 := hm
    unfold m_ref30_Of_L3 at hm
    try dsimp only at hm
    refine AW.seq (zr (zm rfl (zm rfl (zs (op_lenM (f := SFeatures.e) (.r rfl) sl22) (zs (op_lss (.r rfl) (.r rfl)) (zn ?_))))))
    refine AW.cond (b := _) rfl (fun hc6 => ?_) (fun hc6 => ?_)
    ·replace hm := iteT hc6 hm
     refine AW.skip (nq (AW.seq (AW.block (AW.region (zm rfl (zm rfl (zm rfl ?_)))))))
     obtain ⟨v13, hv13, hm⟩ := bindE hm
     refine zs (op_indexAddrM (f := SFeatures.e) (.r rfl) (.r rfl) hv13 enSFeatures sl22) (zs (op_loadA .r rfl ag40) ?_)
     obtain ⟨v14, hv14, hm⟩ := bindE hm
     refine zs (op_fn Tryz.call24 .r (.cons (.r rfl) (.cons (.r rfl) .nil)) (m_ref30_Put_ok hv14)) (zm rfl (zs (op_extractD .r rfl) (zs (op_extractD .r rfl) (za rfl (zn (bq_n (nq (AW.region (zm rfl (zs (op_addw (.r rfl) (.r rfl)) (za rfl (zn ?_))))))))))))
     obtain rfl := Option.some.inj hm
     exact nq ⟨_, hI3, ⟨[0], rfl, rfl, rfl, ⟨(.d rfl), (.d rfl), (.d rfl), trivial⟩, trivial, (.tok rfl .nil)⟩⟩
    ·replace hm := iteF hc6 hm
     refine AW.exit (tq_exit (tq_exit ?_))
     obtain rfl := Option.some.inj hm
     obtain rfl := Option.some.inj hI3
     replace hm := hk3
     try dsimp only at hm
     refine bq_hit (nq (zr (zm rfl (za rfl (za rfl (zn (AW.ret ?_)))))))
     obtain rfl := Option.some.inj hm
     exact EndQ.d (.tmp .r (.tmp .r .nil)) rfl rfl
theorem m_ref30_SameInts_ok {n : Nat} {a1 : (List Int)} {a2 : (List Int)} {r : Bool} (hm : m_ref30_SameInts n a1 a2 = some r) : Fn Tryz.prog 38 [(.sl (a1.map D.i)), (.sl (a2.map D.i))] (.bool r) := by
 unfold m_ref30_SameInts at hm
 refine Fn.of_AW (fnn := Tryz.f38) Tryz.func38 rfl (Nat.le_of_ble_eq_true rfl) (fun g0 w0 hw0 => ?_)
 refine AW.reset 0 [(0, .d (.sl (a1.map D.i))), (1, .d (.sl (a2.map D.i)))] [] (WOK.g0 hw0 (by simp)) ⟨[], rfl, rfl, rfl, ⟨(.d rfl), (.d rfl), trivial⟩, trivial, .nil⟩ (zr (za rfl (zn (AW.seq (zr (zm rfl (zs (op_lenM (f := D.i) (.r rfl) sl38) (zm rfl (zs (op_lenM (f := D.i) (.r rfl) sl38) (zs (op_neq (.r rfl) (.r rfl)) (zn ?_)))))))))))
 refine AW.cond (b := _) rfl (fun hc1 => ?_) (fun hc1 => ?_)
 ·replace hm := iteT hc1 hm
  refine zr (za rfl (zn (AW.ret (tq_ret ?_))))
  obtain rfl := Option.some.inj hm
  exact EndQ.d (.tmp .r .nil) rfl rfl
 ·replace hm := iteF hc1 hm
  refine AW.skip (nq (AW.seq (zr (za rfl (zn (AW.block ?_))))))
  obtain ⟨t_1, hI1, hk1⟩ := bindE hm
  refine AW.loopS (σ := Int) (τ := (Bool ⊕ Unit)) 0 (fun x => [(0, .d (.sl (a1.map D.i))), (1, .d (.sl (a2.map D.i))), (5, .d (.int .i64 x))]) (fun x => []) hI1 (WOK.g0 hw0 (by simp)) ⟨[], rfl, rfl, rfl, ⟨(.d rfl), (.d rfl), (.d rfl), trivial⟩, trivial, .nil⟩ ?_
  rintro n1 s3 hI1
  obtain ⟨y_1, hm, hI1⟩ := iterS hI1
  replace hm : m_ref30_SameInts_L1 n _ _ s3 = some y_1 := hm
  unfold m_ref30_SameInts_L1 at hm
  try dsimp only at hm
  refine AW.seq (zr (zm rfl (zm rfl (zs (op_lenM (f := D.i) (.r rfl) sl38) (zs (op_lss (.r rfl) (.r rfl)) (zn ?_))))))
  refine AW.cond (b := _) rfl (fun hc2 => ?_) (fun hc2 => ?_)
  ·replace hm := iteT hc2 hm
   refine AW.skip (nq (AW.seq (AW.block (AW.seqD [([], []), ([], []), ([], []), ([], []), ([], []), ([], []), ([], []), ([], []), ([], [])] mo (by decide +kernel) (AD.s (ws := []) rfl rfl (fun H' _ hH => op_moveD .r) (AD.s (ws := []) rfl rfl (fun H' _ hH => op_moveD .r) ?_))))))
   obtain ⟨v4, hv4, hm⟩ := bindE hm
   refine AD.s (ws := []) rfl rfl (fun H' _ hH => op_indexAddrM (f := D.i) (.r rfl) (.r rfl) hv4 En.i sl38) (AD.s (ws := []) rfl rfl (fun H' _ hH => op_load_vp1 .r rfl sc3) (AD.s (ws := []) rfl rfl (fun H' _ hH => op_moveD .r) (AD.s (ws := []) rfl rfl (fun H' _ hH => op_moveD .r) ?_)))
   obtain ⟨v5, hv5, hm⟩ := bindE hm
   refine AD.s (ws := []) rfl rfl (fun H' _ hH => op_indexAddrM (f := D.i) (.r rfl) (.r rfl) hv5 En.i sl38) (AD.s (ws := []) rfl rfl (fun H' _ hH => op_load_vp1 .r rfl sc3) (AD.s (ws := []) rfl rfl (fun H' _ hH => op_neq (.r rfl) (.r rfl)) (AD.nil ?_)))
   refine AW.cond (b := _) rfl (fun hc3 => ?_) (fun hc3 => ?_)
   ·replace hm := iteT hc3 hm
    refine zr (za rfl (zn (AW.ret (bq_ret (tq_ret (tq_ret ?_))))))
    obtain rfl := Option.some.inj hm
    obtain rfl := Option.some.inj hI1
    replace hm := hk1
    try dsimp only at hm
    refine bq_ret (tq_ret ?_)
    obtain rfl := Option.some.inj hm
    exact EndQ.d (.tmp .r .nil) rfl rfl
   ·replace hm := iteF hc3 hm
    refine AW.skip (bq_n (nq (AW.region (zm rfl (zs (op_addw (.r rfl) (.r rfl)) (za rfl (zn ?_)))))))
    obtain rfl := Option.some.inj hm
    exact nq ⟨_, hI1, ⟨[], rfl, rfl, rfl, ⟨(.d rfl), (.d rfl), (.d rfl), trivial⟩, trivial, .nil⟩⟩
  ·replace hm := iteF hc2 hm
   refine AW.exit (tq_exit (tq_exit ?_))
   obtain rfl := Option.some.inj hm
   obtain rfl := Option.some.inj hI1
   replace hm := hk1
   try dsimp only at hm
   refine bq_hit (nq (zr (za rfl (zn (AW.ret ?_)))))
   obtain rfl := Option.some.inj hm
   exact EndQ.d (.tmp .r .nil) rfl rfl
end Go.Proofs.YtkdefjliknpliaaGreatDoor.Ab
