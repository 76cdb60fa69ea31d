/- The functions do what they are in plain Lean. Conditions: none. -/
import Derived.Test.YtkdefjliknpliaaGreatDoorTy
import Derived.Test.YtkdefjliknpliaaGreatDoorMi
import Derived.Test.YtkdefjliknpliaaGreatDoorFe
set_option maxRecDepth 100000
set_option maxHeartbeats 20000000
namespace Go.Proofs.YtkdefjliknpliaaGreatDoor.Ab
open Go
attribute [local irreducible] AL AD AW nlO nlV nlD

theorem m_law30_BlockChanges_ok {n : Nat} {a1 : (List SBlock)} {a2 : SFeatures} {a3 : Int} {r : Bool} (hm : m_law30_BlockChanges n a1 a2 a3 = some r) : Fn Tryz.prog 4 [(.sl (a1.map SBlock.e)), (SFeatures.e a2), (.int .i64 a3)] (.bool r) := by
 unfold m_law30_BlockChanges at hm
 refine Fn.of_AW (fnn := Tryz.f4) Tryz.func4 rfl (Nat.le_of_ble_eq_true rfl) (fun g0 w0 hw0 => ?_)
 refine AW.reset 0 [(0, .d (.sl (a1.map SBlock.e))), (1, .d (SFeatures.e a2)), (2, .d (.int .i64 a3))] [] (WOK.g0 hw0 (by simp)) ⟨[], rfl, rfl, rfl, ⟨(.d rfl), (.d rfl), (.d rfl), trivial⟩, trivial, .nil⟩ (zr (zs (op_box (n := 0) .r rfl rfl rfl) (za rfl (zn (AW.seq (zr ?_))))))
 obtain ⟨v4, hv4, hm⟩ := bindE hm
 refine zs (op_fn Tryz.call9 .r .nil (m_law30_awake_ok hv4)) (zs (op_not (.r rfl)) (zm rfl (AL.sF rfl rfl rfl rfl (fun g => op_moveD .r) ?_)))
 obtain ⟨v5, hv5, hm⟩ := bindE hm
 refine AL.sF rfl rfl rfl rfl (fun g => op_fn Tryz.call20 .r (.cons (.we (nt g) rfl rfl) .nil) (m_ref30_Few_ok (iteT (nt g) hv5))) (AL.sF rfl rfl rfl rfl (fun g => op_not (.we (nt g) rfl rfl)) (zs (op_or (.r rfl) rfl (fun h => (.we (nt h) rfl rfl))) (zm rfl (AL.sF rfl rfl rfl rfl (fun g => op_load_ptrA .r rfl rfl rfl ag40) ?_))))
 obtain ⟨v6, hv6, hm⟩ := bindE hm
 refine AL.sF rfl rfl rfl rfl (fun g => op_fn Tryz.call21 .r (.cons (.we (nt g) rfl rfl) .nil) (m_ref29_Few_ok (iteT (nt g) hv6))) (AL.sF rfl rfl rfl rfl (fun g => op_not (.we (nt g) rfl rfl)) (zs (op_or (.r rfl) rfl (fun h => (.we (nt h) rfl rfl))) (zn ?_)))
 refine AW.cond (b := _) rfl (fun hc1 => ?_) (fun hc1 => ?_)
 ·replace hm := iteT hc1 hm
  refine zr ?_
  obtain ⟨v7, hv7, hm⟩ := bindE hm
  refine zs (op_fn Tryz.call9 .r .nil (m_law30_awake_ok hv7)) (za rfl (zn (AW.ret (tq_ret ?_))))
  obtain rfl := Option.some.inj hm
  exact EndQ.d (.tmp .r .nil) rfl rfl
 ·replace hm := iteF hc1 hm
  refine AW.skip (nq (AW.seqD [([], []), ([], []), ([0], []), ([], []), ([], []), ([], []), ([], []), ([], []), ([], []), ([], [])] mo (by decide +kernel) (AD.s (ws := []) rfl rfl (fun H' _ hH => op_moveD .r) ?_)))
  obtain ⟨v8, hv8, hm⟩ := bindE hm
  refine AD.s (ws := []) rfl rfl (fun H' _ hH => op_fn Tryz.call23 .r (.cons (.r rfl) .nil) (m_law30_Own_ok hv8)) (AD.s (ws := []) rfl rfl (fun H' _ hH => op_load_ptrA .r ((hH _ (by simp)).trans rfl) rfl rfl ag40) ?_)
  obtain ⟨v9, hv9, hm⟩ := bindE hm
  refine AD.s (ws := []) rfl rfl (fun H' _ hH => op_fn Tryz.call18 .r (.cons (.r rfl) .nil) (m_law29_Own_ok hv9)) ?_
  obtain ⟨v10, hv10, hm⟩ := bindE hm
  refine AD.s (ws := []) rfl rfl (fun H' _ hH => op_fn Tryz.call22 .r (.cons (.r rfl) (.cons (.r rfl) .nil)) (m_block_Put_ok hv10)) (AD.s (ws := []) rfl rfl (fun H' _ hH => op_moveD .r) (AD.s (ws := []) rfl rfl (fun H' _ hH => op_extractD .r rfl) (AD.s (ws := []) rfl rfl (fun H' _ hH => op_extractD .r rfl) (AD.s (ws := []) rfl rfl (fun H' _ hH => op_assignD .r) (AD.s (ws := []) rfl rfl (fun H' _ hH => op_assignD .r) (AD.nil (zr (zm rfl (zs (op_load_ptrA .r rfl rfl rfl ag40) ?_)))))))))
  obtain ⟨v11, hv11, hm⟩ := bindE hm
  refine zs (op_fn Tryz.call24 .r (.cons (.r rfl) (.cons (.r rfl) .nil)) (m_ref30_Put_ok hv11)) (zm rfl (zs (op_extractD .r rfl) (zs (op_extractD .r rfl) (za rfl (za rfl (zn (zr (zm rfl ?_))))))))
  obtain ⟨v12, hv12, hm⟩ := bindE hm
  refine zs (op_fn Tryz.call23 .r (.cons (.r rfl) .nil) (m_law30_Own_ok hv12)) (zm rfl ?_)
  obtain ⟨v13, hv13, hm⟩ := bindE hm
  refine zs (op_fn Tryz.call25 .r (.cons (.r rfl) (.cons (.r rfl) .nil)) (m_block_Drop_ok hv13)) (zm rfl (zs (op_extractD .r rfl) (zs (op_extractD .r rfl) (za rfl (za rfl (zn (AW.reset 0 [(0, .d (.sl (a1.map SBlock.e))), (2, .d (.int .i64 a3)), (7, .d (.sl (v10.1.map SBlock.e))), (8, .d (.int .i64 v10.2)), (9, .d (.sl (v11.1.map SBlock.e))), (10, .d (.int .i64 v11.2)), (11, .d (.sl (v13.1.map SBlock.e))), (12, .d (.int .i64 v13.2))] [.row [.d (.int .i64 a2.fID), .d (.sl (a2.fTitle.map D.str)), .d (.str a2.fAuthor), .d (.sl (a2.fYears.map D.i)), .d (.sl (a2.fIsbns.map D.str)), .d (.sl (a2.fLangs.map D.str)), .d (.sl (a2.fPublisher.map D.str)), .d (.sl (a2.fEdition.map D.str))]] (WOK.g0 hw0 (by simp)) ⟨[0], rfl, rfl, rfl, ⟨(.d rfl), (.d rfl), (.d rfl), (.d rfl), (.d rfl), (.d rfl), (.d rfl), (.d rfl), trivial⟩, trivial, (.row rfl (.cons (.d rfl) (.cons (.d rfl) (.cons (.d rfl) (.cons (.d rfl) (.cons (.d rfl) (.cons (.d rfl) (.cons (.d rfl) (.cons (.d rfl) .nil)))))))) .nil)⟩ (zr (zm rfl (zm rfl ?_))))))))))
  obtain ⟨v14, hv14, hm⟩ := bindE hm
  refine zs (op_fn Tryz.call26 .r (.cons (.r rfl) (.cons (.r rfl) .nil)) (m_ref30_Drop_ok hv14)) (zm rfl (zs (op_extractD .r rfl) (zs (op_extractD .r rfl) (za rfl (za rfl (zn (zr (zm rfl ?_))))))))
  obtain ⟨v15, hv15, hm⟩ := bindE hm
  refine zs (op_fn Tryz.call15 .r (.cons (.r rfl) .nil) (m_law30_Theirs_ok hv15)) (zm rfl ?_)
  obtain ⟨v16, hv16, hm⟩ := bindE hm
  refine zs (op_fn Tryz.call14 .r (.cons (.r rfl) (.cons (.r rfl) .nil)) (m_ref30_Same_ok hv16)) (zm rfl (AL.sT rfl rfl rfl rfl (fun g => op_moveD .r) (AL.sT rfl rfl rfl rfl (fun g => op_moveD .r) (AL.sT rfl rfl rfl rfl (fun g => op_eql (.we g rfl rfl) (.we g rfl rfl)) (zs (op_and (.r rfl) (fun h => (.we h rfl rfl)) rfl) (zm rfl (AL.sT rfl rfl rfl rfl (fun g => op_moveD .r) ?_)))))))
  obtain ⟨v17, hv17, hm⟩ := bindE hm
  refine AL.sT rfl rfl rfl rfl (fun g => op_fn Tryz.call15 .r (.cons (.we g rfl rfl) .nil) (m_law30_Theirs_ok (iteT g hv17))) (AL.sT rfl rfl rfl rfl (fun g => op_moveD .r) ?_)
  obtain ⟨v18, hv18, hm⟩ := bindE hm
  refine AL.sT rfl rfl rfl rfl (fun g => op_fn Tryz.call14 .r (.cons (.we g rfl rfl) (.cons (.we g rfl rfl) .nil)) (m_ref30_Same_ok (iteT g hv18))) (zs (op_and (.r rfl) (fun h => (.we h rfl rfl)) rfl) (zm rfl (AL.sT rfl rfl rfl rfl (fun g => op_moveD .r) (AL.sT rfl rfl rfl rfl (fun g => op_moveD .r) (AL.sT rfl rfl rfl rfl (fun g => op_eql (.we g rfl rfl) (.we g rfl rfl)) (zs (op_and (.r rfl) (fun h => (.we h rfl rfl)) rfl) (zm rfl (AL.sT rfl rfl rfl rfl (fun g => op_moveD .r) ?_))))))))
  obtain ⟨v19, hv19, hm⟩ := bindE hm
  refine AL.sT rfl rfl rfl rfl (fun g => op_fn Tryz.call23 .r (.cons (.we g rfl rfl) .nil) (m_law30_Own_ok (iteT g hv19))) ?_
  obtain ⟨v20, hv20, hm⟩ := bindE hm
  refine AL.sT rfl rfl rfl rfl (fun g => op_fn Tryz.call27 .r (.cons (.we g rfl rfl) .nil) (m_block_Valid_ok (iteT g hv20))) (AL.sT rfl rfl rfl rfl (fun g => op_moveD .r) ?_)
  obtain ⟨v21, hv21, hm⟩ := bindE hm
  refine AL.sT rfl rfl rfl rfl (fun g => op_fn Tryz.call28 .r (.cons (.we g rfl rfl) .nil) (m_ref30_Valid_ok (iteT g hv21))) (AL.sT rfl rfl rfl rfl (fun g => op_eqlB (.we g rfl rfl) (.we g rfl rfl) Tryz.underlying4) (zs (op_and (.r rfl) (fun h => (.we h rfl rfl)) rfl) (za rfl (zn (AW.ret ?_)))))
  obtain rfl := Option.some.inj hm
  exact EndQ.d (.tmp .r .nil) rfl rfl

end Go.Proofs.YtkdefjliknpliaaGreatDoor.Ab
