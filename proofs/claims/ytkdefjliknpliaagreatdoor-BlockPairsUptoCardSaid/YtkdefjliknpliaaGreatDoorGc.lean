/- The functions do what they are in plain Lean. Conditions: none. -/
import Derived.Test.YtkdefjliknpliaaGreatDoorTy
import Derived.Test.YtkdefjliknpliaaGreatDoorMi
import Derived.Test.YtkdefjliknpliaaGreatDoorFe
set_option maxRecDepth 100000
set_option maxHeartbeats 20000000
namespace Go.Proofs.YtkdefjliknpliaaGreatDoor.Ab
open Go
attribute [local irreducible] AL AD AW nlO nlV nlD

theorem m_law30_BlockPairs_ok {n : Nat} {a1 : (List SBlock)} {a2 : SFeatures} {a3 : Int} {r : Bool} (hm : m_law30_BlockPairs n a1 a2 a3 = some r) : Fn Tryz.prog 7 [(.sl (a1.map SBlock.e)), (SFeatures.e a2), (.int .i64 a3)] (.bool r) := by
 unfold m_law30_BlockPairs at hm
 refine Fn.of_AW (fnn := Tryz.f7) Tryz.func7 rfl (Nat.le_of_ble_eq_true rfl) (fun g0 w0 hw0 => ?_)
 refine AW.reset 0 [(0, .d (.sl (a1.map SBlock.e))), (1, .d (SFeatures.e a2)), (2, .d (.int .i64 a3))] [] (WOK.g0 hw0 (by simp)) ⟨[], rfl, rfl, rfl, ⟨(.d rfl), (.d rfl), (.d rfl), trivial⟩, trivial, .nil⟩ (zr (zs (op_box (n := 0) .r rfl rfl rfl) (za rfl (zn (AW.seq (zr ?_))))))
 obtain ⟨v4, hv4, hm⟩ := bindE hm
 refine zs (op_fn Tryz.call9 .r .nil (m_law30_awake_ok hv4)) (zs (op_not (.r rfl)) (zm rfl (AL.sF rfl rfl rfl rfl (fun g => op_moveD .r) ?_)))
 obtain ⟨v5, hv5, hm⟩ := bindE hm
 refine AL.sF rfl rfl rfl rfl (fun g => op_fn Tryz.call20 .r (.cons (.we (nt g) rfl rfl) .nil) (m_ref30_Few_ok (iteT (nt g) hv5))) (AL.sF rfl rfl rfl rfl (fun g => op_not (.we (nt g) rfl rfl)) (zs (op_or (.r rfl) rfl (fun h => (.we (nt h) rfl rfl))) (zm rfl (AL.sF rfl rfl rfl rfl (fun g => op_load_ptrA .r rfl rfl rfl ag40) ?_))))
 obtain ⟨v6, hv6, hm⟩ := bindE hm
 refine AL.sF rfl rfl rfl rfl (fun g => op_fn Tryz.call21 .r (.cons (.we (nt g) rfl rfl) .nil) (m_ref29_Few_ok (iteT (nt g) hv6))) (AL.sF rfl rfl rfl rfl (fun g => op_not (.we (nt g) rfl rfl)) (zs (op_or (.r rfl) rfl (fun h => (.we (nt h) rfl rfl))) (zn ?_)))
 refine AW.cond (b := _) rfl (fun hc1 => ?_) (fun hc1 => ?_)
 ·replace hm := iteT hc1 hm
  refine zr ?_
  obtain ⟨v7, hv7, hm⟩ := bindE hm
  refine zs (op_fn Tryz.call9 .r .nil (m_law30_awake_ok hv7)) (za rfl (zn (AW.ret (tq_ret ?_))))
  obtain rfl := Option.some.inj hm
  exact EndQ.d (.tmp .r .nil) rfl rfl
 ·replace hm := iteF hc1 hm
  refine AW.skip (nq (zr (zm rfl ?_)))
  obtain ⟨v8, hv8, hm⟩ := bindE hm
  refine zs (op_fn Tryz.call23 .r (.cons (.r rfl) .nil) (m_law30_Own_ok hv8)) (zm rfl ?_)
  obtain ⟨v9, hv9, hm⟩ := bindE hm
  refine zs (op_fn Tryz.call32 .r (.cons (.r rfl) (.cons (.r rfl) .nil)) (m_block_Pairs_ok hv9)) (zm rfl (zs (op_extractD .r rfl) (zs (op_extractD .r rfl) (za rfl (za rfl (zn (zr (zm rfl (zm rfl ?_)))))))))
  obtain ⟨v10, hv10, hm⟩ := bindE hm
  refine zs (op_fn Tryz.call34 .r (.cons (.r rfl) (.cons (.r rfl) .nil)) (m_ref30_Pairs_ok hv10)) (zm rfl (zs (op_extractD .r rfl) (zs (op_extractD .r rfl) (za rfl (za rfl (zn (AW.seqD [([], []), ([], []), ([0], []), ([], []), ([], []), ([], []), ([], []), ([], []), ([], []), ([], []), ([], [])] mo (by decide +kernel) (AD.s (ws := []) rfl rfl (fun H' _ hH => op_moveD .r) ?_))))))))
  obtain ⟨v11, hv11, hm⟩ := bindE hm
  refine AD.s (ws := []) rfl rfl (fun H' _ hH => op_fn Tryz.call23 .r (.cons (.r rfl) .nil) (m_law30_Own_ok hv11)) (AD.s (ws := []) rfl rfl (fun H' _ hH => op_load_ptrA .r ((hH _ (by simp)).trans rfl) rfl rfl ag40) ?_)
  obtain ⟨v12, hv12, hm⟩ := bindE hm
  refine AD.s (ws := []) rfl rfl (fun H' _ hH => op_fn Tryz.call18 .r (.cons (.r rfl) .nil) (m_law29_Own_ok hv12)) (AD.s (ws := []) rfl rfl (fun H' _ hH => op_moveD .r) ?_)
  obtain ⟨v13, hv13, hm⟩ := bindE hm
  refine AD.s (ws := []) rfl rfl (fun H' _ hH => op_fn Tryz.call35 .r (.cons (.r rfl) (.cons (.r rfl) (.cons (.r rfl) .nil))) (m_block_Near_ok hv13)) (AD.s (ws := []) rfl rfl (fun H' _ hH => op_moveD .r) (AD.s (ws := []) rfl rfl (fun H' _ hH => op_extractD .r rfl) (AD.s (ws := []) rfl rfl (fun H' _ hH => op_extractD .r rfl) (AD.s (ws := []) rfl rfl (fun H' _ hH => op_assignD .r) (AD.s (ws := []) rfl rfl (fun H' _ hH => op_assignD .r) (AD.nil (AW.reset 0 [(0, .d (.sl (a1.map SBlock.e))), (2, .d (.int .i64 a3)), (4, .ptr 0 0), (7, .d (.sl (v9.1.map SPair.e))), (8, .d (.int .i64 v9.2)), (9, .d (.sl (v10.1.map SPair.e))), (10, .d (.int .i64 v10.2)), (11, .d (.sl (v13.1.map D.i))), (12, .d (.int .i64 v13.2))] [.row [.d (.int .i64 a2.fID), .d (.sl (a2.fTitle.map D.str)), .d (.str a2.fAuthor), .d (.sl (a2.fYears.map D.i)), .d (.sl (a2.fIsbns.map D.str)), .d (.sl (a2.fLangs.map D.str)), .d (.sl (a2.fPublisher.map D.str)), .d (.sl (a2.fEdition.map D.str))]] (WOK.g0 hw0 (by simp)) ⟨[0], rfl, rfl, rfl, ⟨(.d rfl), (.d rfl), (.ptr rfl), (.d rfl), (.d rfl), (.d rfl), (.d rfl), (.d rfl), (.d rfl), trivial⟩, trivial, (.row rfl (.cons (.d rfl) (.cons (.d rfl) (.cons (.d rfl) (.cons (.d rfl) (.cons (.d rfl) (.cons (.d rfl) (.cons (.d rfl) (.cons (.d rfl) .nil)))))))) .nil)⟩ (zr (zm rfl (zs (op_load_ptrA .r rfl rfl rfl ag40) (zm rfl ?_)))))))))))
  obtain ⟨v14, hv14, hm⟩ := bindE hm
  refine zs (op_fn Tryz.call36 .r (.cons (.r rfl) (.cons (.r rfl) (.cons (.r rfl) .nil))) (m_ref30_Near_ok hv14)) (zm rfl (zs (op_extractD .r rfl) (zs (op_extractD .r rfl) (za rfl (za rfl (zn (zr (zm rfl (zm rfl ?_)))))))))
  obtain ⟨v15, hv15, hm⟩ := bindE hm
  refine zs (op_fn Tryz.call37 .r (.cons (.r rfl) (.cons (.r rfl) .nil)) (m_ref30_SamePairs_ok hv15)) (zm rfl (AL.sT rfl rfl rfl rfl (fun g => op_moveD .r) (AL.sT rfl rfl rfl rfl (fun g => op_moveD .r) (AL.sT rfl rfl rfl rfl (fun g => op_eql (.we g rfl rfl) (.we g rfl rfl)) (zs (op_and (.r rfl) (fun h => (.we h rfl rfl)) rfl) (zm rfl (AL.sT rfl rfl rfl rfl (fun g => op_moveD .r) (AL.sT rfl rfl rfl rfl (fun g => op_moveD .r) ?_))))))))
  obtain ⟨v16, hv16, hm⟩ := bindE hm
  refine AL.sT rfl rfl rfl rfl (fun g => op_fn Tryz.call38 .r (.cons (.we g rfl rfl) (.cons (.we g rfl rfl) .nil)) (m_ref30_SameInts_ok (iteT g hv16))) (zs (op_and (.r rfl) (fun h => (.we h rfl rfl)) rfl) (zm rfl (AL.sT rfl rfl rfl rfl (fun g => op_moveD .r) (AL.sT rfl rfl rfl rfl (fun g => op_moveD .r) (AL.sT rfl rfl rfl rfl (fun g => op_eql (.we g rfl rfl) (.we g rfl rfl)) (zs (op_and (.r rfl) (fun h => (.we h rfl rfl)) rfl) (za rfl (zn (AW.ret ?_)))))))))
  obtain rfl := Option.some.inj hm
  exact EndQ.d (.tmp .r .nil) rfl rfl

end Go.Proofs.YtkdefjliknpliaaGreatDoor.Ab
