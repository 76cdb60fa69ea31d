/- The tables of names and kinds. Conditions: none. -/
import Derived.Test.YtciojlggdnmncaaFa
set_option maxRecDepth 100000
namespace Go.Proofs.Ytciojlggdnmncaa.Ab
open Go 

/-- bookplate/request.Kinds -/
theorem kinds_1  : Fn Try.prog 19 [.int .i64 1] (.sl (([1, 9, 10] : List Int).map D.i)) := by
  refine Fn.of_AW (fnn := Try.f19) Try.func19 rfl (Nat.le_of_ble_eq_true rfl) (fun g0 w0 hw0 => ?_)
  refine AW.seqR ?_
  refine AL.s rfl (op_assignN (.e rfl)) ?_
  refine AL.nil ?_
  refine AW.seq ?_
  refine AW.seqR ?_
  refine AL.s rfl (op_moveD (.e rfl)) ?_
  refine AL.s rfl (op_fn Try.call35 (.e rfl) (.cons (.r rfl) (.cons (.r rfl) (.cons (.r rfl) .nil))) (in_ok _ _ _)) ?_
  refine AL.s rfl (op_not (.r rfl)) ?_
  refine AL.nil ?_
  refine AW.cond (b := _) rfl (fun hc1 => ?_) (fun hc1 => ?_)
  · skip
    exact absurd hc1 (by decide)
  · skip
    refine AW.skip ?_
    refine nq ?_
    refine AW.seqR ?_
    refine AL.s rfl (op_buildSlice sl47 (.cons (.r rfl) rfl (by simp [absD, absC, D.cells, D.one]) (.cons (.r rfl) rfl (by simp [absD, absC, D.cells, D.one]) (.cons (.r rfl) rfl (by simp [absD, absC, D.cells, D.one]) .nil))) rfl (by decide)) ?_
    refine AL.s rfl (op_buildSlice sl47 (.cons (.r rfl) rfl (by simp [absD, absC, D.cells, D.one]) (.cons (.r rfl) rfl (by simp [absD, absC, D.cells, D.one]) (.cons (.r rfl) rfl (by simp [absD, absC, D.cells, D.one]) .nil))) rfl (by decide)) ?_
    refine AL.s rfl (op_buildSlice sl47 (.cons (.r rfl) rfl (by simp [absD, absC, D.cells, D.one]) .nil) rfl (by decide)) ?_
    refine AL.s rfl (op_buildSlice sl47 (.cons (.r rfl) rfl (by simp [absD, absC, D.cells, D.one]) (.cons (.r rfl) rfl (by simp [absD, absC, D.cells, D.one]) (.cons (.r rfl) rfl (by simp [absD, absC, D.cells, D.one]) .nil))) rfl (by decide)) ?_
    refine AL.s rfl (op_buildSlice sl47 (.cons (.r rfl) rfl (by simp [absD, absC, D.cells, D.one]) .nil) rfl (by decide)) ?_
    refine AL.s rfl (op_buildSlice sl47 (.cons (.r rfl) rfl (by simp [absD, absC, D.cells, D.one]) .nil) rfl (by decide)) ?_
    refine AL.s rfl (op_buildArr ba67 (.cons (.e rfl) rfl rfl rfl rfl (Nat.le_of_ble_eq_true rfl) (.cons (.e rfl) rfl rfl rfl rfl (Nat.le_of_ble_eq_true rfl) (.cons (.e rfl) rfl rfl rfl rfl (Nat.le_of_ble_eq_true rfl) (.cons (.e rfl) rfl rfl rfl rfl (Nat.le_of_ble_eq_true rfl) (.cons (.e rfl) rfl rfl rfl rfl (Nat.le_of_ble_eq_true rfl) (.cons (.e rfl) rfl rfl rfl rfl (Nat.le_of_ble_eq_true rfl) (.cons (.e rfl) rfl rfl rfl rfl (Nat.le_of_ble_eq_true rfl) .nil)))))))) ?_
    refine AL.s rfl (op_alloc (n := 0) zr67 rfl) ?_
    refine AL.s rfl (op_storeA (.e rfl) (.e rfl) rfl rfl ⟨_, rfl, rfl⟩ rfl (Nat.le_of_ble_eq_true rfl)) ?_
    refine AL.nil ?_
    refine AW.seqR ?_
    refine AL.s rfl (op_moveD (.e rfl)) ?_
    refine AL.s rfl (op_indexAddr_arr (.e rfl) (.r rfl) rfl (by first | omega | decide) Try.underlying67 ⟨_, rfl, rfl⟩) ?_
    refine AL.s rfl (op_load_ptr1 (.e rfl) rfl rfl sc47) ?_
    refine AL.s rfl (op_assignE (.e rfl)) ?_
    refine AL.nil ?_
    refine AW.ret ?_
    refine EndQ.d (.tmp (.e rfl) .nil) rfl ?_
    rfl

/-- bookplate/request.Kinds -/
theorem kinds_2  : Fn Try.prog 19 [.int .i64 2] (.sl (([2, 3, 9] : List Int).map D.i)) := by
  refine Fn.of_AW (fnn := Try.f19) Try.func19 rfl (Nat.le_of_ble_eq_true rfl) (fun g0 w0 hw0 => ?_)
  refine AW.seqR ?_
  refine AL.s rfl (op_assignN (.e rfl)) ?_
  refine AL.nil ?_
  refine AW.seq ?_
  refine AW.seqR ?_
  refine AL.s rfl (op_moveD (.e rfl)) ?_
  refine AL.s rfl (op_fn Try.call35 (.e rfl) (.cons (.r rfl) (.cons (.r rfl) (.cons (.r rfl) .nil))) (in_ok _ _ _)) ?_
  refine AL.s rfl (op_not (.r rfl)) ?_
  refine AL.nil ?_
  refine AW.cond (b := _) rfl (fun hc1 => ?_) (fun hc1 => ?_)
  · skip
    exact absurd hc1 (by decide)
  · skip
    refine AW.skip ?_
    refine nq ?_
    refine AW.seqR ?_
    refine AL.s rfl (op_buildSlice sl47 (.cons (.r rfl) rfl (by simp [absD, absC, D.cells, D.one]) (.cons (.r rfl) rfl (by simp [absD, absC, D.cells, D.one]) (.cons (.r rfl) rfl (by simp [absD, absC, D.cells, D.one]) .nil))) rfl (by decide)) ?_
    refine AL.s rfl (op_buildSlice sl47 (.cons (.r rfl) rfl (by simp [absD, absC, D.cells, D.one]) (.cons (.r rfl) rfl (by simp [absD, absC, D.cells, D.one]) (.cons (.r rfl) rfl (by simp [absD, absC, D.cells, D.one]) .nil))) rfl (by decide)) ?_
    refine AL.s rfl (op_buildSlice sl47 (.cons (.r rfl) rfl (by simp [absD, absC, D.cells, D.one]) .nil) rfl (by decide)) ?_
    refine AL.s rfl (op_buildSlice sl47 (.cons (.r rfl) rfl (by simp [absD, absC, D.cells, D.one]) (.cons (.r rfl) rfl (by simp [absD, absC, D.cells, D.one]) (.cons (.r rfl) rfl (by simp [absD, absC, D.cells, D.one]) .nil))) rfl (by decide)) ?_
    refine AL.s rfl (op_buildSlice sl47 (.cons (.r rfl) rfl (by simp [absD, absC, D.cells, D.one]) .nil) rfl (by decide)) ?_
    refine AL.s rfl (op_buildSlice sl47 (.cons (.r rfl) rfl (by simp [absD, absC, D.cells, D.one]) .nil) rfl (by decide)) ?_
    refine AL.s rfl (op_buildArr ba67 (.cons (.e rfl) rfl rfl rfl rfl (Nat.le_of_ble_eq_true rfl) (.cons (.e rfl) rfl rfl rfl rfl (Nat.le_of_ble_eq_true rfl) (.cons (.e rfl) rfl rfl rfl rfl (Nat.le_of_ble_eq_true rfl) (.cons (.e rfl) rfl rfl rfl rfl (Nat.le_of_ble_eq_true rfl) (.cons (.e rfl) rfl rfl rfl rfl (Nat.le_of_ble_eq_true rfl) (.cons (.e rfl) rfl rfl rfl rfl (Nat.le_of_ble_eq_true rfl) (.cons (.e rfl) rfl rfl rfl rfl (Nat.le_of_ble_eq_true rfl) .nil)))))))) ?_
    refine AL.s rfl (op_alloc (n := 0) zr67 rfl) ?_
    refine AL.s rfl (op_storeA (.e rfl) (.e rfl) rfl rfl ⟨_, rfl, rfl⟩ rfl (Nat.le_of_ble_eq_true rfl)) ?_
    refine AL.nil ?_
    refine AW.seqR ?_
    refine AL.s rfl (op_moveD (.e rfl)) ?_
    refine AL.s rfl (op_indexAddr_arr (.e rfl) (.r rfl) rfl (by first | omega | decide) Try.underlying67 ⟨_, rfl, rfl⟩) ?_
    refine AL.s rfl (op_load_ptr1 (.e rfl) rfl rfl sc47) ?_
    refine AL.s rfl (op_assignE (.e rfl)) ?_
    refine AL.nil ?_
    refine AW.ret ?_
    refine EndQ.d (.tmp (.e rfl) .nil) rfl ?_
    rfl

/-- bookplate/request.Kinds -/
theorem kinds_3  : Fn Try.prog 19 [.int .i64 3] (.sl (([4] : List Int).map D.i)) := by
  refine Fn.of_AW (fnn := Try.f19) Try.func19 rfl (Nat.le_of_ble_eq_true rfl) (fun g0 w0 hw0 => ?_)
  refine AW.seqR ?_
  refine AL.s rfl (op_assignN (.e rfl)) ?_
  refine AL.nil ?_
  refine AW.seq ?_
  refine AW.seqR ?_
  refine AL.s rfl (op_moveD (.e rfl)) ?_
  refine AL.s rfl (op_fn Try.call35 (.e rfl) (.cons (.r rfl) (.cons (.r rfl) (.cons (.r rfl) .nil))) (in_ok _ _ _)) ?_
  refine AL.s rfl (op_not (.r rfl)) ?_
  refine AL.nil ?_
  refine AW.cond (b := _) rfl (fun hc1 => ?_) (fun hc1 => ?_)
  · skip
    exact absurd hc1 (by decide)
  · skip
    refine AW.skip ?_
    refine nq ?_
    refine AW.seqR ?_
    refine AL.s rfl (op_buildSlice sl47 (.cons (.r rfl) rfl (by simp [absD, absC, D.cells, D.one]) (.cons (.r rfl) rfl (by simp [absD, absC, D.cells, D.one]) (.cons (.r rfl) rfl (by simp [absD, absC, D.cells, D.one]) .nil))) rfl (by decide)) ?_
    refine AL.s rfl (op_buildSlice sl47 (.cons (.r rfl) rfl (by simp [absD, absC, D.cells, D.one]) (.cons (.r rfl) rfl (by simp [absD, absC, D.cells, D.one]) (.cons (.r rfl) rfl (by simp [absD, absC, D.cells, D.one]) .nil))) rfl (by decide)) ?_
    refine AL.s rfl (op_buildSlice sl47 (.cons (.r rfl) rfl (by simp [absD, absC, D.cells, D.one]) .nil) rfl (by decide)) ?_
    refine AL.s rfl (op_buildSlice sl47 (.cons (.r rfl) rfl (by simp [absD, absC, D.cells, D.one]) (.cons (.r rfl) rfl (by simp [absD, absC, D.cells, D.one]) (.cons (.r rfl) rfl (by simp [absD, absC, D.cells, D.one]) .nil))) rfl (by decide)) ?_
    refine AL.s rfl (op_buildSlice sl47 (.cons (.r rfl) rfl (by simp [absD, absC, D.cells, D.one]) .nil) rfl (by decide)) ?_
    refine AL.s rfl (op_buildSlice sl47 (.cons (.r rfl) rfl (by simp [absD, absC, D.cells, D.one]) .nil) rfl (by decide)) ?_
    refine AL.s rfl (op_buildArr ba67 (.cons (.e rfl) rfl rfl rfl rfl (Nat.le_of_ble_eq_true rfl) (.cons (.e rfl) rfl rfl rfl rfl (Nat.le_of_ble_eq_true rfl) (.cons (.e rfl) rfl rfl rfl rfl (Nat.le_of_ble_eq_true rfl) (.cons (.e rfl) rfl rfl rfl rfl (Nat.le_of_ble_eq_true rfl) (.cons (.e rfl) rfl rfl rfl rfl (Nat.le_of_ble_eq_true rfl) (.cons (.e rfl) rfl rfl rfl rfl (Nat.le_of_ble_eq_true rfl) (.cons (.e rfl) rfl rfl rfl rfl (Nat.le_of_ble_eq_true rfl) .nil)))))))) ?_
    refine AL.s rfl (op_alloc (n := 0) zr67 rfl) ?_
    refine AL.s rfl (op_storeA (.e rfl) (.e rfl) rfl rfl ⟨_, rfl, rfl⟩ rfl (Nat.le_of_ble_eq_true rfl)) ?_
    refine AL.nil ?_
    refine AW.seqR ?_
    refine AL.s rfl (op_moveD (.e rfl)) ?_
    refine AL.s rfl (op_indexAddr_arr (.e rfl) (.r rfl) rfl (by first | omega | decide) Try.underlying67 ⟨_, rfl, rfl⟩) ?_
    refine AL.s rfl (op_load_ptr1 (.e rfl) rfl rfl sc47) ?_
    refine AL.s rfl (op_assignE (.e rfl)) ?_
    refine AL.nil ?_
    refine AW.ret ?_
    refine EndQ.d (.tmp (.e rfl) .nil) rfl ?_
    rfl

/-- bookplate/request.Kinds -/
theorem kinds_4  : Fn Try.prog 19 [.int .i64 4] (.sl (([5, 6, 7] : List Int).map D.i)) := by
  refine Fn.of_AW (fnn := Try.f19) Try.func19 rfl (Nat.le_of_ble_eq_true rfl) (fun g0 w0 hw0 => ?_)
  refine AW.seqR ?_
  refine AL.s rfl (op_assignN (.e rfl)) ?_
  refine AL.nil ?_
  refine AW.seq ?_
  refine AW.seqR ?_
  refine AL.s rfl (op_moveD (.e rfl)) ?_
  refine AL.s rfl (op_fn Try.call35 (.e rfl) (.cons (.r rfl) (.cons (.r rfl) (.cons (.r rfl) .nil))) (in_ok _ _ _)) ?_
  refine AL.s rfl (op_not (.r rfl)) ?_
  refine AL.nil ?_
  refine AW.cond (b := _) rfl (fun hc1 => ?_) (fun hc1 => ?_)
  · skip
    exact absurd hc1 (by decide)
  · skip
    refine AW.skip ?_
    refine nq ?_
    refine AW.seqR ?_
    refine AL.s rfl (op_buildSlice sl47 (.cons (.r rfl) rfl (by simp [absD, absC, D.cells, D.one]) (.cons (.r rfl) rfl (by simp [absD, absC, D.cells, D.one]) (.cons (.r rfl) rfl (by simp [absD, absC, D.cells, D.one]) .nil))) rfl (by decide)) ?_
    refine AL.s rfl (op_buildSlice sl47 (.cons (.r rfl) rfl (by simp [absD, absC, D.cells, D.one]) (.cons (.r rfl) rfl (by simp [absD, absC, D.cells, D.one]) (.cons (.r rfl) rfl (by simp [absD, absC, D.cells, D.one]) .nil))) rfl (by decide)) ?_
    refine AL.s rfl (op_buildSlice sl47 (.cons (.r rfl) rfl (by simp [absD, absC, D.cells, D.one]) .nil) rfl (by decide)) ?_
    refine AL.s rfl (op_buildSlice sl47 (.cons (.r rfl) rfl (by simp [absD, absC, D.cells, D.one]) (.cons (.r rfl) rfl (by simp [absD, absC, D.cells, D.one]) (.cons (.r rfl) rfl (by simp [absD, absC, D.cells, D.one]) .nil))) rfl (by decide)) ?_
    refine AL.s rfl (op_buildSlice sl47 (.cons (.r rfl) rfl (by simp [absD, absC, D.cells, D.one]) .nil) rfl (by decide)) ?_
    refine AL.s rfl (op_buildSlice sl47 (.cons (.r rfl) rfl (by simp [absD, absC, D.cells, D.one]) .nil) rfl (by decide)) ?_
    refine AL.s rfl (op_buildArr ba67 (.cons (.e rfl) rfl rfl rfl rfl (Nat.le_of_ble_eq_true rfl) (.cons (.e rfl) rfl rfl rfl rfl (Nat.le_of_ble_eq_true rfl) (.cons (.e rfl) rfl rfl rfl rfl (Nat.le_of_ble_eq_true rfl) (.cons (.e rfl) rfl rfl rfl rfl (Nat.le_of_ble_eq_true rfl) (.cons (.e rfl) rfl rfl rfl rfl (Nat.le_of_ble_eq_true rfl) (.cons (.e rfl) rfl rfl rfl rfl (Nat.le_of_ble_eq_true rfl) (.cons (.e rfl) rfl rfl rfl rfl (Nat.le_of_ble_eq_true rfl) .nil)))))))) ?_
    refine AL.s rfl (op_alloc (n := 0) zr67 rfl) ?_
    refine AL.s rfl (op_storeA (.e rfl) (.e rfl) rfl rfl ⟨_, rfl, rfl⟩ rfl (Nat.le_of_ble_eq_true rfl)) ?_
    refine AL.nil ?_
    refine AW.seqR ?_
    refine AL.s rfl (op_moveD (.e rfl)) ?_
    refine AL.s rfl (op_indexAddr_arr (.e rfl) (.r rfl) rfl (by first | omega | decide) Try.underlying67 ⟨_, rfl, rfl⟩) ?_
    refine AL.s rfl (op_load_ptr1 (.e rfl) rfl rfl sc47) ?_
    refine AL.s rfl (op_assignE (.e rfl)) ?_
    refine AL.nil ?_
    refine AW.ret ?_
    refine EndQ.d (.tmp (.e rfl) .nil) rfl ?_
    rfl

/-- bookplate/request.Kinds -/
theorem kinds_5  : Fn Try.prog 19 [.int .i64 5] (.sl (([7] : List Int).map D.i)) := by
  refine Fn.of_AW (fnn := Try.f19) Try.func19 rfl (Nat.le_of_ble_eq_true rfl) (fun g0 w0 hw0 => ?_)
  refine AW.seqR ?_
  refine AL.s rfl (op_assignN (.e rfl)) ?_
  refine AL.nil ?_
  refine AW.seq ?_
  refine AW.seqR ?_
  refine AL.s rfl (op_moveD (.e rfl)) ?_
  refine AL.s rfl (op_fn Try.call35 (.e rfl) (.cons (.r rfl) (.cons (.r rfl) (.cons (.r rfl) .nil))) (in_ok _ _ _)) ?_
  refine AL.s rfl (op_not (.r rfl)) ?_
  refine AL.nil ?_
  refine AW.cond (b := _) rfl (fun hc1 => ?_) (fun hc1 => ?_)
  · skip
    exact absurd hc1 (by decide)
  · skip
    refine AW.skip ?_
    refine nq ?_
    refine AW.seqR ?_
    refine AL.s rfl (op_buildSlice sl47 (.cons (.r rfl) rfl (by simp [absD, absC, D.cells, D.one]) (.cons (.r rfl) rfl (by simp [absD, absC, D.cells, D.one]) (.cons (.r rfl) rfl (by simp [absD, absC, D.cells, D.one]) .nil))) rfl (by decide)) ?_
    refine AL.s rfl (op_buildSlice sl47 (.cons (.r rfl) rfl (by simp [absD, absC, D.cells, D.one]) (.cons (.r rfl) rfl (by simp [absD, absC, D.cells, D.one]) (.cons (.r rfl) rfl (by simp [absD, absC, D.cells, D.one]) .nil))) rfl (by decide)) ?_
    refine AL.s rfl (op_buildSlice sl47 (.cons (.r rfl) rfl (by simp [absD, absC, D.cells, D.one]) .nil) rfl (by decide)) ?_
    refine AL.s rfl (op_buildSlice sl47 (.cons (.r rfl) rfl (by simp [absD, absC, D.cells, D.one]) (.cons (.r rfl) rfl (by simp [absD, absC, D.cells, D.one]) (.cons (.r rfl) rfl (by simp [absD, absC, D.cells, D.one]) .nil))) rfl (by decide)) ?_
    refine AL.s rfl (op_buildSlice sl47 (.cons (.r rfl) rfl (by simp [absD, absC, D.cells, D.one]) .nil) rfl (by decide)) ?_
    refine AL.s rfl (op_buildSlice sl47 (.cons (.r rfl) rfl (by simp [absD, absC, D.cells, D.one]) .nil) rfl (by decide)) ?_
    refine AL.s rfl (op_buildArr ba67 (.cons (.e rfl) rfl rfl rfl rfl (Nat.le_of_ble_eq_true rfl) (.cons (.e rfl) rfl rfl rfl rfl (Nat.le_of_ble_eq_true rfl) (.cons (.e rfl) rfl rfl rfl rfl (Nat.le_of_ble_eq_true rfl) (.cons (.e rfl) rfl rfl rfl rfl (Nat.le_of_ble_eq_true rfl) (.cons (.e rfl) rfl rfl rfl rfl (Nat.le_of_ble_eq_true rfl) (.cons (.e rfl) rfl rfl rfl rfl (Nat.le_of_ble_eq_true rfl) (.cons (.e rfl) rfl rfl rfl rfl (Nat.le_of_ble_eq_true rfl) .nil)))))))) ?_
    refine AL.s rfl (op_alloc (n := 0) zr67 rfl) ?_
    refine AL.s rfl (op_storeA (.e rfl) (.e rfl) rfl rfl ⟨_, rfl, rfl⟩ rfl (Nat.le_of_ble_eq_true rfl)) ?_
    refine AL.nil ?_
    refine AW.seqR ?_
    refine AL.s rfl (op_moveD (.e rfl)) ?_
    refine AL.s rfl (op_indexAddr_arr (.e rfl) (.r rfl) rfl (by first | omega | decide) Try.underlying67 ⟨_, rfl, rfl⟩) ?_
    refine AL.s rfl (op_load_ptr1 (.e rfl) rfl rfl sc47) ?_
    refine AL.s rfl (op_assignE (.e rfl)) ?_
    refine AL.nil ?_
    refine AW.ret ?_
    refine EndQ.d (.tmp (.e rfl) .nil) rfl ?_
    rfl

/-- bookplate/request.Kinds -/
theorem kinds_6  : Fn Try.prog 19 [.int .i64 6] (.sl (([8] : List Int).map D.i)) := by
  refine Fn.of_AW (fnn := Try.f19) Try.func19 rfl (Nat.le_of_ble_eq_true rfl) (fun g0 w0 hw0 => ?_)
  refine AW.seqR ?_
  refine AL.s rfl (op_assignN (.e rfl)) ?_
  refine AL.nil ?_
  refine AW.seq ?_
  refine AW.seqR ?_
  refine AL.s rfl (op_moveD (.e rfl)) ?_
  refine AL.s rfl (op_fn Try.call35 (.e rfl) (.cons (.r rfl) (.cons (.r rfl) (.cons (.r rfl) .nil))) (in_ok _ _ _)) ?_
  refine AL.s rfl (op_not (.r rfl)) ?_
  refine AL.nil ?_
  refine AW.cond (b := _) rfl (fun hc1 => ?_) (fun hc1 => ?_)
  · skip
    exact absurd hc1 (by decide)
  · skip
    refine AW.skip ?_
    refine nq ?_
    refine AW.seqR ?_
    refine AL.s rfl (op_buildSlice sl47 (.cons (.r rfl) rfl (by simp [absD, absC, D.cells, D.one]) (.cons (.r rfl) rfl (by simp [absD, absC, D.cells, D.one]) (.cons (.r rfl) rfl (by simp [absD, absC, D.cells, D.one]) .nil))) rfl (by decide)) ?_
    refine AL.s rfl (op_buildSlice sl47 (.cons (.r rfl) rfl (by simp [absD, absC, D.cells, D.one]) (.cons (.r rfl) rfl (by simp [absD, absC, D.cells, D.one]) (.cons (.r rfl) rfl (by simp [absD, absC, D.cells, D.one]) .nil))) rfl (by decide)) ?_
    refine AL.s rfl (op_buildSlice sl47 (.cons (.r rfl) rfl (by simp [absD, absC, D.cells, D.one]) .nil) rfl (by decide)) ?_
    refine AL.s rfl (op_buildSlice sl47 (.cons (.r rfl) rfl (by simp [absD, absC, D.cells, D.one]) (.cons (.r rfl) rfl (by simp [absD, absC, D.cells, D.one]) (.cons (.r rfl) rfl (by simp [absD, absC, D.cells, D.one]) .nil))) rfl (by decide)) ?_
    refine AL.s rfl (op_buildSlice sl47 (.cons (.r rfl) rfl (by simp [absD, absC, D.cells, D.one]) .nil) rfl (by decide)) ?_
    refine AL.s rfl (op_buildSlice sl47 (.cons (.r rfl) rfl (by simp [absD, absC, D.cells, D.one]) .nil) rfl (by decide)) ?_
    refine AL.s rfl (op_buildArr ba67 (.cons (.e rfl) rfl rfl rfl rfl (Nat.le_of_ble_eq_true rfl) (.cons (.e rfl) rfl rfl rfl rfl (Nat.le_of_ble_eq_true rfl) (.cons (.e rfl) rfl rfl rfl rfl (Nat.le_of_ble_eq_true rfl) (.cons (.e rfl) rfl rfl rfl rfl (Nat.le_of_ble_eq_true rfl) (.cons (.e rfl) rfl rfl rfl rfl (Nat.le_of_ble_eq_true rfl) (.cons (.e rfl) rfl rfl rfl rfl (Nat.le_of_ble_eq_true rfl) (.cons (.e rfl) rfl rfl rfl rfl (Nat.le_of_ble_eq_true rfl) .nil)))))))) ?_
    refine AL.s rfl (op_alloc (n := 0) zr67 rfl) ?_
    refine AL.s rfl (op_storeA (.e rfl) (.e rfl) rfl rfl ⟨_, rfl, rfl⟩ rfl (Nat.le_of_ble_eq_true rfl)) ?_
    refine AL.nil ?_
    refine AW.seqR ?_
    refine AL.s rfl (op_moveD (.e rfl)) ?_
    refine AL.s rfl (op_indexAddr_arr (.e rfl) (.r rfl) rfl (by first | omega | decide) Try.underlying67 ⟨_, rfl, rfl⟩) ?_
    refine AL.s rfl (op_load_ptr1 (.e rfl) rfl rfl sc47) ?_
    refine AL.s rfl (op_assignE (.e rfl)) ?_
    refine AL.nil ?_
    refine AW.ret ?_
    refine EndQ.d (.tmp (.e rfl) .nil) rfl ?_
    rfl

/-- bookplate/request.Kinds -/
theorem kinds_7  : Fn Try.prog 19 [.int .i64 7] (.sl (([] : List Int).map D.i)) := by
  refine Fn.of_AW (fnn := Try.f19) Try.func19 rfl (Nat.le_of_ble_eq_true rfl) (fun g0 w0 hw0 => ?_)
  refine AW.seqR ?_
  refine AL.s rfl (op_assignN (.e rfl)) ?_
  refine AL.nil ?_
  refine AW.seq ?_
  refine AW.seqR ?_
  refine AL.s rfl (op_moveD (.e rfl)) ?_
  refine AL.s rfl (op_fn Try.call35 (.e rfl) (.cons (.r rfl) (.cons (.r rfl) (.cons (.r rfl) .nil))) (in_ok _ _ _)) ?_
  refine AL.s rfl (op_not (.r rfl)) ?_
  refine AL.nil ?_
  refine AW.cond (b := _) rfl (fun hc1 => ?_) (fun hc1 => ?_)
  · skip
    exact absurd hc1 (by decide)
  · skip
    refine AW.skip ?_
    refine nq ?_
    refine AW.seqR ?_
    refine AL.s rfl (op_buildSlice sl47 (.cons (.r rfl) rfl (by simp [absD, absC, D.cells, D.one]) (.cons (.r rfl) rfl (by simp [absD, absC, D.cells, D.one]) (.cons (.r rfl) rfl (by simp [absD, absC, D.cells, D.one]) .nil))) rfl (by decide)) ?_
    refine AL.s rfl (op_buildSlice sl47 (.cons (.r rfl) rfl (by simp [absD, absC, D.cells, D.one]) (.cons (.r rfl) rfl (by simp [absD, absC, D.cells, D.one]) (.cons (.r rfl) rfl (by simp [absD, absC, D.cells, D.one]) .nil))) rfl (by decide)) ?_
    refine AL.s rfl (op_buildSlice sl47 (.cons (.r rfl) rfl (by simp [absD, absC, D.cells, D.one]) .nil) rfl (by decide)) ?_
    refine AL.s rfl (op_buildSlice sl47 (.cons (.r rfl) rfl (by simp [absD, absC, D.cells, D.one]) (.cons (.r rfl) rfl (by simp [absD, absC, D.cells, D.one]) (.cons (.r rfl) rfl (by simp [absD, absC, D.cells, D.one]) .nil))) rfl (by decide)) ?_
    refine AL.s rfl (op_buildSlice sl47 (.cons (.r rfl) rfl (by simp [absD, absC, D.cells, D.one]) .nil) rfl (by decide)) ?_
    refine AL.s rfl (op_buildSlice sl47 (.cons (.r rfl) rfl (by simp [absD, absC, D.cells, D.one]) .nil) rfl (by decide)) ?_
    refine AL.s rfl (op_buildArr ba67 (.cons (.e rfl) rfl rfl rfl rfl (Nat.le_of_ble_eq_true rfl) (.cons (.e rfl) rfl rfl rfl rfl (Nat.le_of_ble_eq_true rfl) (.cons (.e rfl) rfl rfl rfl rfl (Nat.le_of_ble_eq_true rfl) (.cons (.e rfl) rfl rfl rfl rfl (Nat.le_of_ble_eq_true rfl) (.cons (.e rfl) rfl rfl rfl rfl (Nat.le_of_ble_eq_true rfl) (.cons (.e rfl) rfl rfl rfl rfl (Nat.le_of_ble_eq_true rfl) (.cons (.e rfl) rfl rfl rfl rfl (Nat.le_of_ble_eq_true rfl) .nil)))))))) ?_
    refine AL.s rfl (op_alloc (n := 0) zr67 rfl) ?_
    refine AL.s rfl (op_storeA (.e rfl) (.e rfl) rfl rfl ⟨_, rfl, rfl⟩ rfl (Nat.le_of_ble_eq_true rfl)) ?_
    refine AL.nil ?_
    refine AW.seqR ?_
    refine AL.s rfl (op_moveD (.e rfl)) ?_
    refine AL.s rfl (op_indexAddr_arr (.e rfl) (.r rfl) rfl (by first | omega | decide) Try.underlying67 ⟨_, rfl, rfl⟩) ?_
    refine AL.s rfl (op_load_ptr1 (.e rfl) rfl rfl sc47) ?_
    refine AL.s rfl (op_assignE (.e rfl)) ?_
    refine AL.nil ?_
    refine AW.ret ?_
    refine EndQ.d (.tmp (.e rfl) .nil) rfl ?_
    rfl

/-- bookplate/request.Kinds -/
theorem kinds_8  : Fn Try.prog 19 [.int .i64 8] (.sl (([] : List Int).map D.i)) := by
  refine Fn.of_AW (fnn := Try.f19) Try.func19 rfl (Nat.le_of_ble_eq_true rfl) (fun g0 w0 hw0 => ?_)
  refine AW.seqR ?_
  refine AL.s rfl (op_assignN (.e rfl)) ?_
  refine AL.nil ?_
  refine AW.seq ?_
  refine AW.seqR ?_
  refine AL.s rfl (op_moveD (.e rfl)) ?_
  refine AL.s rfl (op_fn Try.call35 (.e rfl) (.cons (.r rfl) (.cons (.r rfl) (.cons (.r rfl) .nil))) (in_ok _ _ _)) ?_
  refine AL.s rfl (op_not (.r rfl)) ?_
  refine AL.nil ?_
  refine AW.cond (b := _) rfl (fun hc1 => ?_) (fun hc1 => ?_)
  · skip
    exact absurd hc1 (by decide)
  · skip
    refine AW.skip ?_
    refine nq ?_
    refine AW.seqR ?_
    refine AL.s rfl (op_buildSlice sl47 (.cons (.r rfl) rfl (by simp [absD, absC, D.cells, D.one]) (.cons (.r rfl) rfl (by simp [absD, absC, D.cells, D.one]) (.cons (.r rfl) rfl (by simp [absD, absC, D.cells, D.one]) .nil))) rfl (by decide)) ?_
    refine AL.s rfl (op_buildSlice sl47 (.cons (.r rfl) rfl (by simp [absD, absC, D.cells, D.one]) (.cons (.r rfl) rfl (by simp [absD, absC, D.cells, D.one]) (.cons (.r rfl) rfl (by simp [absD, absC, D.cells, D.one]) .nil))) rfl (by decide)) ?_
    refine AL.s rfl (op_buildSlice sl47 (.cons (.r rfl) rfl (by simp [absD, absC, D.cells, D.one]) .nil) rfl (by decide)) ?_
    refine AL.s rfl (op_buildSlice sl47 (.cons (.r rfl) rfl (by simp [absD, absC, D.cells, D.one]) (.cons (.r rfl) rfl (by simp [absD, absC, D.cells, D.one]) (.cons (.r rfl) rfl (by simp [absD, absC, D.cells, D.one]) .nil))) rfl (by decide)) ?_
    refine AL.s rfl (op_buildSlice sl47 (.cons (.r rfl) rfl (by simp [absD, absC, D.cells, D.one]) .nil) rfl (by decide)) ?_
    refine AL.s rfl (op_buildSlice sl47 (.cons (.r rfl) rfl (by simp [absD, absC, D.cells, D.one]) .nil) rfl (by decide)) ?_
    refine AL.s rfl (op_buildArr ba67 (.cons (.e rfl) rfl rfl rfl rfl (Nat.le_of_ble_eq_true rfl) (.cons (.e rfl) rfl rfl rfl rfl (Nat.le_of_ble_eq_true rfl) (.cons (.e rfl) rfl rfl rfl rfl (Nat.le_of_ble_eq_true rfl) (.cons (.e rfl) rfl rfl rfl rfl (Nat.le_of_ble_eq_true rfl) (.cons (.e rfl) rfl rfl rfl rfl (Nat.le_of_ble_eq_true rfl) (.cons (.e rfl) rfl rfl rfl rfl (Nat.le_of_ble_eq_true rfl) (.cons (.e rfl) rfl rfl rfl rfl (Nat.le_of_ble_eq_true rfl) .nil)))))))) ?_
    refine AL.s rfl (op_alloc (n := 0) zr67 rfl) ?_
    refine AL.s rfl (op_storeA (.e rfl) (.e rfl) rfl rfl ⟨_, rfl, rfl⟩ rfl (Nat.le_of_ble_eq_true rfl)) ?_
    refine AL.nil ?_
    refine AW.seqR ?_
    refine AL.s rfl (op_moveD (.e rfl)) ?_
    refine AL.s rfl (op_indexAddr_arr (.e rfl) (.r rfl) rfl (by first | omega | decide) Try.underlying67 ⟨_, rfl, rfl⟩) ?_
    refine AL.s rfl (op_load_ptr1 (.e rfl) rfl rfl sc47) ?_
    refine AL.s rfl (op_assignE (.e rfl)) ?_
    refine AL.nil ?_
    refine AW.ret ?_
    refine EndQ.d (.tmp (.e rfl) .nil) rfl ?_
    rfl

/-- bookplate/request.Kinds -/
theorem kinds_9  : Fn Try.prog 19 [.int .i64 9] (.sl (([] : List Int).map D.i)) := by
  refine Fn.of_AW (fnn := Try.f19) Try.func19 rfl (Nat.le_of_ble_eq_true rfl) (fun g0 w0 hw0 => ?_)
  refine AW.seqR ?_
  refine AL.s rfl (op_assignN (.e rfl)) ?_
  refine AL.nil ?_
  refine AW.seq ?_
  refine AW.seqR ?_
  refine AL.s rfl (op_moveD (.e rfl)) ?_
  refine AL.s rfl (op_fn Try.call35 (.e rfl) (.cons (.r rfl) (.cons (.r rfl) (.cons (.r rfl) .nil))) (in_ok _ _ _)) ?_
  refine AL.s rfl (op_not (.r rfl)) ?_
  refine AL.nil ?_
  refine AW.cond (b := _) rfl (fun hc1 => ?_) (fun hc1 => ?_)
  · skip
    exact absurd hc1 (by decide)
  · skip
    refine AW.skip ?_
    refine nq ?_
    refine AW.seqR ?_
    refine AL.s rfl (op_buildSlice sl47 (.cons (.r rfl) rfl (by simp [absD, absC, D.cells, D.one]) (.cons (.r rfl) rfl (by simp [absD, absC, D.cells, D.one]) (.cons (.r rfl) rfl (by simp [absD, absC, D.cells, D.one]) .nil))) rfl (by decide)) ?_
    refine AL.s rfl (op_buildSlice sl47 (.cons (.r rfl) rfl (by simp [absD, absC, D.cells, D.one]) (.cons (.r rfl) rfl (by simp [absD, absC, D.cells, D.one]) (.cons (.r rfl) rfl (by simp [absD, absC, D.cells, D.one]) .nil))) rfl (by decide)) ?_
    refine AL.s rfl (op_buildSlice sl47 (.cons (.r rfl) rfl (by simp [absD, absC, D.cells, D.one]) .nil) rfl (by decide)) ?_
    refine AL.s rfl (op_buildSlice sl47 (.cons (.r rfl) rfl (by simp [absD, absC, D.cells, D.one]) (.cons (.r rfl) rfl (by simp [absD, absC, D.cells, D.one]) (.cons (.r rfl) rfl (by simp [absD, absC, D.cells, D.one]) .nil))) rfl (by decide)) ?_
    refine AL.s rfl (op_buildSlice sl47 (.cons (.r rfl) rfl (by simp [absD, absC, D.cells, D.one]) .nil) rfl (by decide)) ?_
    refine AL.s rfl (op_buildSlice sl47 (.cons (.r rfl) rfl (by simp [absD, absC, D.cells, D.one]) .nil) rfl (by decide)) ?_
    refine AL.s rfl (op_buildArr ba67 (.cons (.e rfl) rfl rfl rfl rfl (Nat.le_of_ble_eq_true rfl) (.cons (.e rfl) rfl rfl rfl rfl (Nat.le_of_ble_eq_true rfl) (.cons (.e rfl) rfl rfl rfl rfl (Nat.le_of_ble_eq_true rfl) (.cons (.e rfl) rfl rfl rfl rfl (Nat.le_of_ble_eq_true rfl) (.cons (.e rfl) rfl rfl rfl rfl (Nat.le_of_ble_eq_true rfl) (.cons (.e rfl) rfl rfl rfl rfl (Nat.le_of_ble_eq_true rfl) (.cons (.e rfl) rfl rfl rfl rfl (Nat.le_of_ble_eq_true rfl) .nil)))))))) ?_
    refine AL.s rfl (op_alloc (n := 0) zr67 rfl) ?_
    refine AL.s rfl (op_storeA (.e rfl) (.e rfl) rfl rfl ⟨_, rfl, rfl⟩ rfl (Nat.le_of_ble_eq_true rfl)) ?_
    refine AL.nil ?_
    refine AW.seqR ?_
    refine AL.s rfl (op_moveD (.e rfl)) ?_
    refine AL.s rfl (op_indexAddr_arr (.e rfl) (.r rfl) rfl (by first | omega | decide) Try.underlying67 ⟨_, rfl, rfl⟩) ?_
    refine AL.s rfl (op_load_ptr1 (.e rfl) rfl rfl sc47) ?_
    refine AL.s rfl (op_assignN (.e rfl)) ?_
    refine AL.nil ?_
    refine AW.ret ?_
    refine EndQ.d (.tmp (.e rfl) .nil) rfl ?_
    rfl

/-- bookplate/request.Kinds -/
theorem kinds_out (n : Int) (h : inI n 1 9 = false) : Fn Try.prog 19 [.int .i64 n] (.sl (([] : List Int).map D.i)) := by
  refine Fn.of_AW (fnn := Try.f19) Try.func19 rfl (Nat.le_of_ble_eq_true rfl) (fun g0 w0 hw0 => ?_)
  refine AW.seqR ?_
  refine AL.s rfl (op_assignN (.e rfl)) ?_
  refine AL.nil ?_
  refine AW.seq ?_
  refine AW.seqR ?_
  refine AL.s rfl (op_moveD (.e rfl)) ?_
  refine AL.s rfl (op_fn Try.call35 (.e rfl) (.cons (.r rfl) (.cons (.r rfl) (.cons (.r rfl) .nil))) (in_ok _ _ _)) ?_
  refine AL.s rfl (op_not (.r rfl)) ?_
  refine AL.nil ?_
  refine AW.cond (b := _) rfl (fun hc1 => ?_) (fun hc1 => ?_)
  · skip
    refine AW.seqR ?_
    refine AL.s rfl (op_assignN (.e rfl)) ?_
    refine AL.nil ?_
    refine AW.ret ?_
    refine tq_ret ?_
    refine EndQ.d (.tmp (.e rfl) .nil) rfl ?_
    rfl
  · skip
    rw [h] at hc1; cases hc1

theorem kinds_ok (n : Int) : Fn Try.prog 19 [.int .i64 n] (.sl ((kindsL n).map D.i)) := by
  cases h : inI n 1 9 with
  | false =>
    have : kindsL n = [] := by
      simp only [inI, Bool.and_eq_false_imp, decide_eq_true_eq, decide_eq_false_iff_not] at h
      unfold kindsL
      repeat rw [if_neg (by omega)]
    rw [this]; exact kinds_out n h
  | true =>
    have h' : n = 1 ∨ n = 2 ∨ n = 3 ∨ n = 4 ∨ n = 5 ∨ n = 6 ∨ n = 7 ∨ n = 8 ∨ n = 9 := by simp only [inI, Bool.and_eq_true, decide_eq_true_eq] at h; omega
    rcases h' with rfl | rfl | rfl | rfl | rfl | rfl | rfl | rfl | rfl
    · exact kinds_1
    · exact kinds_2
    · exact kinds_3
    · exact kinds_4
    · exact kinds_5
    · exact kinds_6
    · exact kinds_7
    · exact kinds_8
    · exact kinds_9


/-- bookplate/request.StateName -/
theorem stateName_1  : Fn Try.prog 23 [.int .i64 1] (.str [112, 108, 97, 99, 101, 100]) := by
  refine Fn.of_AW (fnn := Try.f23) Try.func23 rfl (Nat.le_of_ble_eq_true rfl) (fun g0 w0 hw0 => ?_)
  refine AW.seqR ?_
  refine AL.s rfl (op_assignD (.e rfl)) ?_
  refine AL.nil ?_
  refine AW.seqR ?_
  refine AL.s rfl (op_buildArrF ba68 (.cons (.e rfl) rfl rfl rfl rfl (Nat.le_of_ble_eq_true rfl) (.cons (.e rfl) rfl rfl rfl rfl (Nat.le_of_ble_eq_true rfl) (.cons (.e rfl) rfl rfl rfl rfl (Nat.le_of_ble_eq_true rfl) (.cons (.e rfl) rfl rfl rfl rfl (Nat.le_of_ble_eq_true rfl) (.cons (.e rfl) rfl rfl rfl rfl (Nat.le_of_ble_eq_true rfl) (.cons (.e rfl) rfl rfl rfl rfl (Nat.le_of_ble_eq_true rfl) (.cons (.e rfl) rfl rfl rfl rfl (Nat.le_of_ble_eq_true rfl) (.cons (.e rfl) rfl rfl rfl rfl (Nat.le_of_ble_eq_true rfl) (.cons (.e rfl) rfl rfl rfl rfl (Nat.le_of_ble_eq_true rfl) (.cons (.e rfl) rfl rfl rfl rfl (Nat.le_of_ble_eq_true rfl) .nil)))))))))) rfl rfl) ?_
  refine AL.s rfl (op_alloc (n := 0) zr68 rfl) ?_
  refine AL.s rfl (op_storeA (.e rfl) (.e rfl) rfl rfl ⟨_, rfl, rfl⟩ rfl (Nat.le_of_ble_eq_true rfl)) ?_
  refine AL.nil ?_
  refine AW.seq ?_
  refine AW.seqR ?_
  refine AL.s rfl (op_moveD (.e rfl)) ?_
  refine AL.s rfl (op_fn Try.call35 (.e rfl) (.cons (.r rfl) (.cons (.r rfl) (.cons (.r rfl) .nil))) (in_ok _ _ _)) ?_
  refine AL.s rfl (op_not (.r rfl)) ?_
  refine AL.nil ?_
  refine AW.cond (b := _) rfl (fun hc1 => ?_) (fun hc1 => ?_)
  · skip
    exact absurd hc1 (by decide)
  · skip
    refine AW.skip ?_
    refine nq ?_
    refine AW.seqR ?_
    refine AL.s rfl (op_moveD (.e rfl)) ?_
    refine AL.s rfl (op_indexAddr_arr (.e rfl) (.r rfl) rfl (by first | omega | decide) Try.underlying68 ⟨_, rfl, rfl⟩) ?_
    refine AL.s rfl (op_load_ptr1 (.e rfl) rfl rfl sc9) ?_
    refine AL.s rfl (op_assignD (.e rfl)) ?_
    refine AL.nil ?_
    refine AW.ret ?_
    refine EndQ.d (.tmp (.e rfl) .nil) rfl ?_
    rfl

/-- bookplate/request.StateName -/
theorem stateName_2  : Fn Try.prog 23 [.int .i64 2] (.str [114, 111, 117, 116, 101, 100]) := by
  refine Fn.of_AW (fnn := Try.f23) Try.func23 rfl (Nat.le_of_ble_eq_true rfl) (fun g0 w0 hw0 => ?_)
  refine AW.seqR ?_
  refine AL.s rfl (op_assignD (.e rfl)) ?_
  refine AL.nil ?_
  refine AW.seqR ?_
  refine AL.s rfl (op_buildArrF ba68 (.cons (.e rfl) rfl rfl rfl rfl (Nat.le_of_ble_eq_true rfl) (.cons (.e rfl) rfl rfl rfl rfl (Nat.le_of_ble_eq_true rfl) (.cons (.e rfl) rfl rfl rfl rfl (Nat.le_of_ble_eq_true rfl) (.cons (.e rfl) rfl rfl rfl rfl (Nat.le_of_ble_eq_true rfl) (.cons (.e rfl) rfl rfl rfl rfl (Nat.le_of_ble_eq_true rfl) (.cons (.e rfl) rfl rfl rfl rfl (Nat.le_of_ble_eq_true rfl) (.cons (.e rfl) rfl rfl rfl rfl (Nat.le_of_ble_eq_true rfl) (.cons (.e rfl) rfl rfl rfl rfl (Nat.le_of_ble_eq_true rfl) (.cons (.e rfl) rfl rfl rfl rfl (Nat.le_of_ble_eq_true rfl) (.cons (.e rfl) rfl rfl rfl rfl (Nat.le_of_ble_eq_true rfl) .nil)))))))))) rfl rfl) ?_
  refine AL.s rfl (op_alloc (n := 0) zr68 rfl) ?_
  refine AL.s rfl (op_storeA (.e rfl) (.e rfl) rfl rfl ⟨_, rfl, rfl⟩ rfl (Nat.le_of_ble_eq_true rfl)) ?_
  refine AL.nil ?_
  refine AW.seq ?_
  refine AW.seqR ?_
  refine AL.s rfl (op_moveD (.e rfl)) ?_
  refine AL.s rfl (op_fn Try.call35 (.e rfl) (.cons (.r rfl) (.cons (.r rfl) (.cons (.r rfl) .nil))) (in_ok _ _ _)) ?_
  refine AL.s rfl (op_not (.r rfl)) ?_
  refine AL.nil ?_
  refine AW.cond (b := _) rfl (fun hc1 => ?_) (fun hc1 => ?_)
  · skip
    exact absurd hc1 (by decide)
  · skip
    refine AW.skip ?_
    refine nq ?_
    refine AW.seqR ?_
    refine AL.s rfl (op_moveD (.e rfl)) ?_
    refine AL.s rfl (op_indexAddr_arr (.e rfl) (.r rfl) rfl (by first | omega | decide) Try.underlying68 ⟨_, rfl, rfl⟩) ?_
    refine AL.s rfl (op_load_ptr1 (.e rfl) rfl rfl sc9) ?_
    refine AL.s rfl (op_assignD (.e rfl)) ?_
    refine AL.nil ?_
    refine AW.ret ?_
    refine EndQ.d (.tmp (.e rfl) .nil) rfl ?_
    rfl

/-- bookplate/request.StateName -/
theorem stateName_3  : Fn Try.prog 23 [.int .i64 3] (.str [115, 104, 105, 112, 112, 101, 100]) := by
  refine Fn.of_AW (fnn := Try.f23) Try.func23 rfl (Nat.le_of_ble_eq_true rfl) (fun g0 w0 hw0 => ?_)
  refine AW.seqR ?_
  refine AL.s rfl (op_assignD (.e rfl)) ?_
  refine AL.nil ?_
  refine AW.seqR ?_
  refine AL.s rfl (op_buildArrF ba68 (.cons (.e rfl) rfl rfl rfl rfl (Nat.le_of_ble_eq_true rfl) (.cons (.e rfl) rfl rfl rfl rfl (Nat.le_of_ble_eq_true rfl) (.cons (.e rfl) rfl rfl rfl rfl (Nat.le_of_ble_eq_true rfl) (.cons (.e rfl) rfl rfl rfl rfl (Nat.le_of_ble_eq_true rfl) (.cons (.e rfl) rfl rfl rfl rfl (Nat.le_of_ble_eq_true rfl) (.cons (.e rfl) rfl rfl rfl rfl (Nat.le_of_ble_eq_true rfl) (.cons (.e rfl) rfl rfl rfl rfl (Nat.le_of_ble_eq_true rfl) (.cons (.e rfl) rfl rfl rfl rfl (Nat.le_of_ble_eq_true rfl) (.cons (.e rfl) rfl rfl rfl rfl (Nat.le_of_ble_eq_true rfl) (.cons (.e rfl) rfl rfl rfl rfl (Nat.le_of_ble_eq_true rfl) .nil)))))))))) rfl rfl) ?_
  refine AL.s rfl (op_alloc (n := 0) zr68 rfl) ?_
  refine AL.s rfl (op_storeA (.e rfl) (.e rfl) rfl rfl ⟨_, rfl, rfl⟩ rfl (Nat.le_of_ble_eq_true rfl)) ?_
  refine AL.nil ?_
  refine AW.seq ?_
  refine AW.seqR ?_
  refine AL.s rfl (op_moveD (.e rfl)) ?_
  refine AL.s rfl (op_fn Try.call35 (.e rfl) (.cons (.r rfl) (.cons (.r rfl) (.cons (.r rfl) .nil))) (in_ok _ _ _)) ?_
  refine AL.s rfl (op_not (.r rfl)) ?_
  refine AL.nil ?_
  refine AW.cond (b := _) rfl (fun hc1 => ?_) (fun hc1 => ?_)
  · skip
    exact absurd hc1 (by decide)
  · skip
    refine AW.skip ?_
    refine nq ?_
    refine AW.seqR ?_
    refine AL.s rfl (op_moveD (.e rfl)) ?_
    refine AL.s rfl (op_indexAddr_arr (.e rfl) (.r rfl) rfl (by first | omega | decide) Try.underlying68 ⟨_, rfl, rfl⟩) ?_
    refine AL.s rfl (op_load_ptr1 (.e rfl) rfl rfl sc9) ?_
    refine AL.s rfl (op_assignD (.e rfl)) ?_
    refine AL.nil ?_
    refine AW.ret ?_
    refine EndQ.d (.tmp (.e rfl) .nil) rfl ?_
    rfl

/-- bookplate/request.StateName -/
theorem stateName_4  : Fn Try.prog 23 [.int .i64 4] (.str [114, 101, 99, 101, 105, 118, 101, 100]) := by
  refine Fn.of_AW (fnn := Try.f23) Try.func23 rfl (Nat.le_of_ble_eq_true rfl) (fun g0 w0 hw0 => ?_)
  refine AW.seqR ?_
  refine AL.s rfl (op_assignD (.e rfl)) ?_
  refine AL.nil ?_
  refine AW.seqR ?_
  refine AL.s rfl (op_buildArrF ba68 (.cons (.e rfl) rfl rfl rfl rfl (Nat.le_of_ble_eq_true rfl) (.cons (.e rfl) rfl rfl rfl rfl (Nat.le_of_ble_eq_true rfl) (.cons (.e rfl) rfl rfl rfl rfl (Nat.le_of_ble_eq_true rfl) (.cons (.e rfl) rfl rfl rfl rfl (Nat.le_of_ble_eq_true rfl) (.cons (.e rfl) rfl rfl rfl rfl (Nat.le_of_ble_eq_true rfl) (.cons (.e rfl) rfl rfl rfl rfl (Nat.le_of_ble_eq_true rfl) (.cons (.e rfl) rfl rfl rfl rfl (Nat.le_of_ble_eq_true rfl) (.cons (.e rfl) rfl rfl rfl rfl (Nat.le_of_ble_eq_true rfl) (.cons (.e rfl) rfl rfl rfl rfl (Nat.le_of_ble_eq_true rfl) (.cons (.e rfl) rfl rfl rfl rfl (Nat.le_of_ble_eq_true rfl) .nil)))))))))) rfl rfl) ?_
  refine AL.s rfl (op_alloc (n := 0) zr68 rfl) ?_
  refine AL.s rfl (op_storeA (.e rfl) (.e rfl) rfl rfl ⟨_, rfl, rfl⟩ rfl (Nat.le_of_ble_eq_true rfl)) ?_
  refine AL.nil ?_
  refine AW.seq ?_
  refine AW.seqR ?_
  refine AL.s rfl (op_moveD (.e rfl)) ?_
  refine AL.s rfl (op_fn Try.call35 (.e rfl) (.cons (.r rfl) (.cons (.r rfl) (.cons (.r rfl) .nil))) (in_ok _ _ _)) ?_
  refine AL.s rfl (op_not (.r rfl)) ?_
  refine AL.nil ?_
  refine AW.cond (b := _) rfl (fun hc1 => ?_) (fun hc1 => ?_)
  · skip
    exact absurd hc1 (by decide)
  · skip
    refine AW.skip ?_
    refine nq ?_
    refine AW.seqR ?_
    refine AL.s rfl (op_moveD (.e rfl)) ?_
    refine AL.s rfl (op_indexAddr_arr (.e rfl) (.r rfl) rfl (by first | omega | decide) Try.underlying68 ⟨_, rfl, rfl⟩) ?_
    refine AL.s rfl (op_load_ptr1 (.e rfl) rfl rfl sc9) ?_
    refine AL.s rfl (op_assignD (.e rfl)) ?_
    refine AL.nil ?_
    refine AW.ret ?_
    refine EndQ.d (.tmp (.e rfl) .nil) rfl ?_
    rfl

/-- bookplate/request.StateName -/
theorem stateName_5  : Fn Try.prog 23 [.int .i64 5] (.str [114, 101, 99, 97, 108, 108, 101, 100]) := by
  refine Fn.of_AW (fnn := Try.f23) Try.func23 rfl (Nat.le_of_ble_eq_true rfl) (fun g0 w0 hw0 => ?_)
  refine AW.seqR ?_
  refine AL.s rfl (op_assignD (.e rfl)) ?_
  refine AL.nil ?_
  refine AW.seqR ?_
  refine AL.s rfl (op_buildArrF ba68 (.cons (.e rfl) rfl rfl rfl rfl (Nat.le_of_ble_eq_true rfl) (.cons (.e rfl) rfl rfl rfl rfl (Nat.le_of_ble_eq_true rfl) (.cons (.e rfl) rfl rfl rfl rfl (Nat.le_of_ble_eq_true rfl) (.cons (.e rfl) rfl rfl rfl rfl (Nat.le_of_ble_eq_true rfl) (.cons (.e rfl) rfl rfl rfl rfl (Nat.le_of_ble_eq_true rfl) (.cons (.e rfl) rfl rfl rfl rfl (Nat.le_of_ble_eq_true rfl) (.cons (.e rfl) rfl rfl rfl rfl (Nat.le_of_ble_eq_true rfl) (.cons (.e rfl) rfl rfl rfl rfl (Nat.le_of_ble_eq_true rfl) (.cons (.e rfl) rfl rfl rfl rfl (Nat.le_of_ble_eq_true rfl) (.cons (.e rfl) rfl rfl rfl rfl (Nat.le_of_ble_eq_true rfl) .nil)))))))))) rfl rfl) ?_
  refine AL.s rfl (op_alloc (n := 0) zr68 rfl) ?_
  refine AL.s rfl (op_storeA (.e rfl) (.e rfl) rfl rfl ⟨_, rfl, rfl⟩ rfl (Nat.le_of_ble_eq_true rfl)) ?_
  refine AL.nil ?_
  refine AW.seq ?_
  refine AW.seqR ?_
  refine AL.s rfl (op_moveD (.e rfl)) ?_
  refine AL.s rfl (op_fn Try.call35 (.e rfl) (.cons (.r rfl) (.cons (.r rfl) (.cons (.r rfl) .nil))) (in_ok _ _ _)) ?_
  refine AL.s rfl (op_not (.r rfl)) ?_
  refine AL.nil ?_
  refine AW.cond (b := _) rfl (fun hc1 => ?_) (fun hc1 => ?_)
  · skip
    exact absurd hc1 (by decide)
  · skip
    refine AW.skip ?_
    refine nq ?_
    refine AW.seqR ?_
    refine AL.s rfl (op_moveD (.e rfl)) ?_
    refine AL.s rfl (op_indexAddr_arr (.e rfl) (.r rfl) rfl (by first | omega | decide) Try.underlying68 ⟨_, rfl, rfl⟩) ?_
    refine AL.s rfl (op_load_ptr1 (.e rfl) rfl rfl sc9) ?_
    refine AL.s rfl (op_assignD (.e rfl)) ?_
    refine AL.nil ?_
    refine AW.ret ?_
    refine EndQ.d (.tmp (.e rfl) .nil) rfl ?_
    rfl

/-- bookplate/request.StateName -/
theorem stateName_6  : Fn Try.prog 23 [.int .i64 6] (.str [114, 101, 116, 117, 114, 110, 105, 110, 103]) := by
  refine Fn.of_AW (fnn := Try.f23) Try.func23 rfl (Nat.le_of_ble_eq_true rfl) (fun g0 w0 hw0 => ?_)
  refine AW.seqR ?_
  refine AL.s rfl (op_assignD (.e rfl)) ?_
  refine AL.nil ?_
  refine AW.seqR ?_
  refine AL.s rfl (op_buildArrF ba68 (.cons (.e rfl) rfl rfl rfl rfl (Nat.le_of_ble_eq_true rfl) (.cons (.e rfl) rfl rfl rfl rfl (Nat.le_of_ble_eq_true rfl) (.cons (.e rfl) rfl rfl rfl rfl (Nat.le_of_ble_eq_true rfl) (.cons (.e rfl) rfl rfl rfl rfl (Nat.le_of_ble_eq_true rfl) (.cons (.e rfl) rfl rfl rfl rfl (Nat.le_of_ble_eq_true rfl) (.cons (.e rfl) rfl rfl rfl rfl (Nat.le_of_ble_eq_true rfl) (.cons (.e rfl) rfl rfl rfl rfl (Nat.le_of_ble_eq_true rfl) (.cons (.e rfl) rfl rfl rfl rfl (Nat.le_of_ble_eq_true rfl) (.cons (.e rfl) rfl rfl rfl rfl (Nat.le_of_ble_eq_true rfl) (.cons (.e rfl) rfl rfl rfl rfl (Nat.le_of_ble_eq_true rfl) .nil)))))))))) rfl rfl) ?_
  refine AL.s rfl (op_alloc (n := 0) zr68 rfl) ?_
  refine AL.s rfl (op_storeA (.e rfl) (.e rfl) rfl rfl ⟨_, rfl, rfl⟩ rfl (Nat.le_of_ble_eq_true rfl)) ?_
  refine AL.nil ?_
  refine AW.seq ?_
  refine AW.seqR ?_
  refine AL.s rfl (op_moveD (.e rfl)) ?_
  refine AL.s rfl (op_fn Try.call35 (.e rfl) (.cons (.r rfl) (.cons (.r rfl) (.cons (.r rfl) .nil))) (in_ok _ _ _)) ?_
  refine AL.s rfl (op_not (.r rfl)) ?_
  refine AL.nil ?_
  refine AW.cond (b := _) rfl (fun hc1 => ?_) (fun hc1 => ?_)
  · skip
    exact absurd hc1 (by decide)
  · skip
    refine AW.skip ?_
    refine nq ?_
    refine AW.seqR ?_
    refine AL.s rfl (op_moveD (.e rfl)) ?_
    refine AL.s rfl (op_indexAddr_arr (.e rfl) (.r rfl) rfl (by first | omega | decide) Try.underlying68 ⟨_, rfl, rfl⟩) ?_
    refine AL.s rfl (op_load_ptr1 (.e rfl) rfl rfl sc9) ?_
    refine AL.s rfl (op_assignD (.e rfl)) ?_
    refine AL.nil ?_
    refine AW.ret ?_
    refine EndQ.d (.tmp (.e rfl) .nil) rfl ?_
    rfl

/-- bookplate/request.StateName -/
theorem stateName_7  : Fn Try.prog 23 [.int .i64 7] (.str [99, 108, 111, 115, 101, 100]) := by
  refine Fn.of_AW (fnn := Try.f23) Try.func23 rfl (Nat.le_of_ble_eq_true rfl) (fun g0 w0 hw0 => ?_)
  refine AW.seqR ?_
  refine AL.s rfl (op_assignD (.e rfl)) ?_
  refine AL.nil ?_
  refine AW.seqR ?_
  refine AL.s rfl (op_buildArrF ba68 (.cons (.e rfl) rfl rfl rfl rfl (Nat.le_of_ble_eq_true rfl) (.cons (.e rfl) rfl rfl rfl rfl (Nat.le_of_ble_eq_true rfl) (.cons (.e rfl) rfl rfl rfl rfl (Nat.le_of_ble_eq_true rfl) (.cons (.e rfl) rfl rfl rfl rfl (Nat.le_of_ble_eq_true rfl) (.cons (.e rfl) rfl rfl rfl rfl (Nat.le_of_ble_eq_true rfl) (.cons (.e rfl) rfl rfl rfl rfl (Nat.le_of_ble_eq_true rfl) (.cons (.e rfl) rfl rfl rfl rfl (Nat.le_of_ble_eq_true rfl) (.cons (.e rfl) rfl rfl rfl rfl (Nat.le_of_ble_eq_true rfl) (.cons (.e rfl) rfl rfl rfl rfl (Nat.le_of_ble_eq_true rfl) (.cons (.e rfl) rfl rfl rfl rfl (Nat.le_of_ble_eq_true rfl) .nil)))))))))) rfl rfl) ?_
  refine AL.s rfl (op_alloc (n := 0) zr68 rfl) ?_
  refine AL.s rfl (op_storeA (.e rfl) (.e rfl) rfl rfl ⟨_, rfl, rfl⟩ rfl (Nat.le_of_ble_eq_true rfl)) ?_
  refine AL.nil ?_
  refine AW.seq ?_
  refine AW.seqR ?_
  refine AL.s rfl (op_moveD (.e rfl)) ?_
  refine AL.s rfl (op_fn Try.call35 (.e rfl) (.cons (.r rfl) (.cons (.r rfl) (.cons (.r rfl) .nil))) (in_ok _ _ _)) ?_
  refine AL.s rfl (op_not (.r rfl)) ?_
  refine AL.nil ?_
  refine AW.cond (b := _) rfl (fun hc1 => ?_) (fun hc1 => ?_)
  · skip
    exact absurd hc1 (by decide)
  · skip
    refine AW.skip ?_
    refine nq ?_
    refine AW.seqR ?_
    refine AL.s rfl (op_moveD (.e rfl)) ?_
    refine AL.s rfl (op_indexAddr_arr (.e rfl) (.r rfl) rfl (by first | omega | decide) Try.underlying68 ⟨_, rfl, rfl⟩) ?_
    refine AL.s rfl (op_load_ptr1 (.e rfl) rfl rfl sc9) ?_
    refine AL.s rfl (op_assignD (.e rfl)) ?_
    refine AL.nil ?_
    refine AW.ret ?_
    refine EndQ.d (.tmp (.e rfl) .nil) rfl ?_
    rfl

/-- bookplate/request.StateName -/
theorem stateName_8  : Fn Try.prog 23 [.int .i64 8] (.str [99, 97, 110, 99, 101, 108, 108, 101, 100]) := by
  refine Fn.of_AW (fnn := Try.f23) Try.func23 rfl (Nat.le_of_ble_eq_true rfl) (fun g0 w0 hw0 => ?_)
  refine AW.seqR ?_
  refine AL.s rfl (op_assignD (.e rfl)) ?_
  refine AL.nil ?_
  refine AW.seqR ?_
  refine AL.s rfl (op_buildArrF ba68 (.cons (.e rfl) rfl rfl rfl rfl (Nat.le_of_ble_eq_true rfl) (.cons (.e rfl) rfl rfl rfl rfl (Nat.le_of_ble_eq_true rfl) (.cons (.e rfl) rfl rfl rfl rfl (Nat.le_of_ble_eq_true rfl) (.cons (.e rfl) rfl rfl rfl rfl (Nat.le_of_ble_eq_true rfl) (.cons (.e rfl) rfl rfl rfl rfl (Nat.le_of_ble_eq_true rfl) (.cons (.e rfl) rfl rfl rfl rfl (Nat.le_of_ble_eq_true rfl) (.cons (.e rfl) rfl rfl rfl rfl (Nat.le_of_ble_eq_true rfl) (.cons (.e rfl) rfl rfl rfl rfl (Nat.le_of_ble_eq_true rfl) (.cons (.e rfl) rfl rfl rfl rfl (Nat.le_of_ble_eq_true rfl) (.cons (.e rfl) rfl rfl rfl rfl (Nat.le_of_ble_eq_true rfl) .nil)))))))))) rfl rfl) ?_
  refine AL.s rfl (op_alloc (n := 0) zr68 rfl) ?_
  refine AL.s rfl (op_storeA (.e rfl) (.e rfl) rfl rfl ⟨_, rfl, rfl⟩ rfl (Nat.le_of_ble_eq_true rfl)) ?_
  refine AL.nil ?_
  refine AW.seq ?_
  refine AW.seqR ?_
  refine AL.s rfl (op_moveD (.e rfl)) ?_
  refine AL.s rfl (op_fn Try.call35 (.e rfl) (.cons (.r rfl) (.cons (.r rfl) (.cons (.r rfl) .nil))) (in_ok _ _ _)) ?_
  refine AL.s rfl (op_not (.r rfl)) ?_
  refine AL.nil ?_
  refine AW.cond (b := _) rfl (fun hc1 => ?_) (fun hc1 => ?_)
  · skip
    exact absurd hc1 (by decide)
  · skip
    refine AW.skip ?_
    refine nq ?_
    refine AW.seqR ?_
    refine AL.s rfl (op_moveD (.e rfl)) ?_
    refine AL.s rfl (op_indexAddr_arr (.e rfl) (.r rfl) rfl (by first | omega | decide) Try.underlying68 ⟨_, rfl, rfl⟩) ?_
    refine AL.s rfl (op_load_ptr1 (.e rfl) rfl rfl sc9) ?_
    refine AL.s rfl (op_assignD (.e rfl)) ?_
    refine AL.nil ?_
    refine AW.ret ?_
    refine EndQ.d (.tmp (.e rfl) .nil) rfl ?_
    rfl

/-- bookplate/request.StateName -/
theorem stateName_9  : Fn Try.prog 23 [.int .i64 9] (.str [117, 110, 102, 105, 108, 108, 101, 100]) := by
  refine Fn.of_AW (fnn := Try.f23) Try.func23 rfl (Nat.le_of_ble_eq_true rfl) (fun g0 w0 hw0 => ?_)
  refine AW.seqR ?_
  refine AL.s rfl (op_assignD (.e rfl)) ?_
  refine AL.nil ?_
  refine AW.seqR ?_
  refine AL.s rfl (op_buildArrF ba68 (.cons (.e rfl) rfl rfl rfl rfl (Nat.le_of_ble_eq_true rfl) (.cons (.e rfl) rfl rfl rfl rfl (Nat.le_of_ble_eq_true rfl) (.cons (.e rfl) rfl rfl rfl rfl (Nat.le_of_ble_eq_true rfl) (.cons (.e rfl) rfl rfl rfl rfl (Nat.le_of_ble_eq_true rfl) (.cons (.e rfl) rfl rfl rfl rfl (Nat.le_of_ble_eq_true rfl) (.cons (.e rfl) rfl rfl rfl rfl (Nat.le_of_ble_eq_true rfl) (.cons (.e rfl) rfl rfl rfl rfl (Nat.le_of_ble_eq_true rfl) (.cons (.e rfl) rfl rfl rfl rfl (Nat.le_of_ble_eq_true rfl) (.cons (.e rfl) rfl rfl rfl rfl (Nat.le_of_ble_eq_true rfl) (.cons (.e rfl) rfl rfl rfl rfl (Nat.le_of_ble_eq_true rfl) .nil)))))))))) rfl rfl) ?_
  refine AL.s rfl (op_alloc (n := 0) zr68 rfl) ?_
  refine AL.s rfl (op_storeA (.e rfl) (.e rfl) rfl rfl ⟨_, rfl, rfl⟩ rfl (Nat.le_of_ble_eq_true rfl)) ?_
  refine AL.nil ?_
  refine AW.seq ?_
  refine AW.seqR ?_
  refine AL.s rfl (op_moveD (.e rfl)) ?_
  refine AL.s rfl (op_fn Try.call35 (.e rfl) (.cons (.r rfl) (.cons (.r rfl) (.cons (.r rfl) .nil))) (in_ok _ _ _)) ?_
  refine AL.s rfl (op_not (.r rfl)) ?_
  refine AL.nil ?_
  refine AW.cond (b := _) rfl (fun hc1 => ?_) (fun hc1 => ?_)
  · skip
    exact absurd hc1 (by decide)
  · skip
    refine AW.skip ?_
    refine nq ?_
    refine AW.seqR ?_
    refine AL.s rfl (op_moveD (.e rfl)) ?_
    refine AL.s rfl (op_indexAddr_arr (.e rfl) (.r rfl) rfl (by first | omega | decide) Try.underlying68 ⟨_, rfl, rfl⟩) ?_
    refine AL.s rfl (op_load_ptr1 (.e rfl) rfl rfl sc9) ?_
    refine AL.s rfl (op_assignD (.e rfl)) ?_
    refine AL.nil ?_
    refine AW.ret ?_
    refine EndQ.d (.tmp (.e rfl) .nil) rfl ?_
    rfl

/-- bookplate/request.StateName -/
theorem stateName_out (n : Int) (h : inI n 1 9 = false) : Fn Try.prog 23 [.int .i64 n] (.str [117, 110, 107, 110, 111, 119, 110]) := by
  refine Fn.of_AW (fnn := Try.f23) Try.func23 rfl (Nat.le_of_ble_eq_true rfl) (fun g0 w0 hw0 => ?_)
  refine AW.seqR ?_
  refine AL.s rfl (op_assignD (.e rfl)) ?_
  refine AL.nil ?_
  refine AW.seqR ?_
  refine AL.s rfl (op_buildArrF ba68 (.cons (.e rfl) rfl rfl rfl rfl (Nat.le_of_ble_eq_true rfl) (.cons (.e rfl) rfl rfl rfl rfl (Nat.le_of_ble_eq_true rfl) (.cons (.e rfl) rfl rfl rfl rfl (Nat.le_of_ble_eq_true rfl) (.cons (.e rfl) rfl rfl rfl rfl (Nat.le_of_ble_eq_true rfl) (.cons (.e rfl) rfl rfl rfl rfl (Nat.le_of_ble_eq_true rfl) (.cons (.e rfl) rfl rfl rfl rfl (Nat.le_of_ble_eq_true rfl) (.cons (.e rfl) rfl rfl rfl rfl (Nat.le_of_ble_eq_true rfl) (.cons (.e rfl) rfl rfl rfl rfl (Nat.le_of_ble_eq_true rfl) (.cons (.e rfl) rfl rfl rfl rfl (Nat.le_of_ble_eq_true rfl) (.cons (.e rfl) rfl rfl rfl rfl (Nat.le_of_ble_eq_true rfl) .nil)))))))))) rfl rfl) ?_
  refine AL.s rfl (op_alloc (n := 0) zr68 rfl) ?_
  refine AL.s rfl (op_storeA (.e rfl) (.e rfl) rfl rfl ⟨_, rfl, rfl⟩ rfl (Nat.le_of_ble_eq_true rfl)) ?_
  refine AL.nil ?_
  refine AW.seq ?_
  refine AW.seqR ?_
  refine AL.s rfl (op_moveD (.e rfl)) ?_
  refine AL.s rfl (op_fn Try.call35 (.e rfl) (.cons (.r rfl) (.cons (.r rfl) (.cons (.r rfl) .nil))) (in_ok _ _ _)) ?_
  refine AL.s rfl (op_not (.r rfl)) ?_
  refine AL.nil ?_
  refine AW.cond (b := _) rfl (fun hc1 => ?_) (fun hc1 => ?_)
  · skip
    refine AW.region ?_
    refine AL.s rfl (op_assignD (.e rfl)) ?_
    refine AL.nil ?_
    refine nq ?_
    refine AW.seqR ?_
    refine AL.s rfl (op_moveD (.e rfl)) ?_
    refine AL.s rfl (op_indexAddr_arr (.e rfl) (.r rfl) rfl (by first | omega | decide) Try.underlying68 ⟨_, rfl, rfl⟩) ?_
    refine AL.s rfl (op_load_ptr1 (.e rfl) rfl rfl sc9) ?_
    refine AL.s rfl (op_assignD (.e rfl)) ?_
    refine AL.nil ?_
    refine AW.ret ?_
    refine EndQ.d (.tmp (.e rfl) .nil) rfl ?_
    rfl
  · skip
    rw [h] at hc1; cases hc1

def stateNameL (n : Int) : List UInt8 := if n = 1 then [112, 108, 97, 99, 101, 100] else if n = 2 then [114, 111, 117, 116, 101, 100] else if n = 3 then [115, 104, 105, 112, 112, 101, 100] else if n = 4 then [114, 101, 99, 101, 105, 118, 101, 100] else if n = 5 then [114, 101, 99, 97, 108, 108, 101, 100] else if n = 6 then [114, 101, 116, 117, 114, 110, 105, 110, 103] else if n = 7 then [99, 108, 111, 115, 101, 100] else if n = 8 then [99, 97, 110, 99, 101, 108, 108, 101, 100] else if n = 9 then [117, 110, 102, 105, 108, 108, 101, 100] else [117, 110, 107, 110, 111, 119, 110]
theorem stateName_ok (n : Int) : Fn Try.prog 23 [.int .i64 n] (.str (stateNameL n)) := by
  cases h : inI n 1 9 with
  | false =>
    have : stateNameL n = [117, 110, 107, 110, 111, 119, 110] := by
      simp only [inI, Bool.and_eq_false_imp, decide_eq_true_eq, decide_eq_false_iff_not] at h
      unfold stateNameL
      repeat rw [if_neg (by omega)]
    rw [this]; exact stateName_out n h
  | true =>
    have h' : n = 1 ∨ n = 2 ∨ n = 3 ∨ n = 4 ∨ n = 5 ∨ n = 6 ∨ n = 7 ∨ n = 8 ∨ n = 9 := by simp only [inI, Bool.and_eq_true, decide_eq_true_eq] at h; omega
    rcases h' with rfl | rfl | rfl | rfl | rfl | rfl | rfl | rfl | rfl
    · exact stateName_1
    · exact stateName_2
    · exact stateName_3
    · exact stateName_4
    · exact stateName_5
    · exact stateName_6
    · exact stateName_7
    · exact stateName_8
    · exact stateName_9


/-- bookplate/request.KindName -/
theorem kindName_1  : Fn Try.prog 25 [.int .i64 1] (.str [114, 111, 117, 116, 101]) := by
  refine Fn.of_AW (fnn := Try.f25) Try.func25 rfl (Nat.le_of_ble_eq_true rfl) (fun g0 w0 hw0 => ?_)
  refine AW.seqR ?_
  refine AL.s rfl (op_assignD (.e rfl)) ?_
  refine AL.nil ?_
  refine AW.seqR ?_
  refine AL.s rfl (op_buildArrF ba69 (.cons (.e rfl) rfl rfl rfl rfl (Nat.le_of_ble_eq_true rfl) (.cons (.e rfl) rfl rfl rfl rfl (Nat.le_of_ble_eq_true rfl) (.cons (.e rfl) rfl rfl rfl rfl (Nat.le_of_ble_eq_true rfl) (.cons (.e rfl) rfl rfl rfl rfl (Nat.le_of_ble_eq_true rfl) (.cons (.e rfl) rfl rfl rfl rfl (Nat.le_of_ble_eq_true rfl) (.cons (.e rfl) rfl rfl rfl rfl (Nat.le_of_ble_eq_true rfl) (.cons (.e rfl) rfl rfl rfl rfl (Nat.le_of_ble_eq_true rfl) (.cons (.e rfl) rfl rfl rfl rfl (Nat.le_of_ble_eq_true rfl) (.cons (.e rfl) rfl rfl rfl rfl (Nat.le_of_ble_eq_true rfl) (.cons (.e rfl) rfl rfl rfl rfl (Nat.le_of_ble_eq_true rfl) (.cons (.e rfl) rfl rfl rfl rfl (Nat.le_of_ble_eq_true rfl) .nil))))))))))) rfl rfl) ?_
  refine AL.s rfl (op_alloc (n := 0) zr69 rfl) ?_
  refine AL.s rfl (op_storeA (.e rfl) (.e rfl) rfl rfl ⟨_, rfl, rfl⟩ rfl (Nat.le_of_ble_eq_true rfl)) ?_
  refine AL.nil ?_
  refine AW.seq ?_
  refine AW.seqR ?_
  refine AL.s rfl (op_moveD (.e rfl)) ?_
  refine AL.s rfl (op_fn Try.call35 (.e rfl) (.cons (.r rfl) (.cons (.r rfl) (.cons (.r rfl) .nil))) (in_ok _ _ _)) ?_
  refine AL.s rfl (op_not (.r rfl)) ?_
  refine AL.nil ?_
  refine AW.cond (b := _) rfl (fun hc1 => ?_) (fun hc1 => ?_)
  · skip
    exact absurd hc1 (by decide)
  · skip
    refine AW.skip ?_
    refine nq ?_
    refine AW.seqR ?_
    refine AL.s rfl (op_moveD (.e rfl)) ?_
    refine AL.s rfl (op_indexAddr_arr (.e rfl) (.r rfl) rfl (by first | omega | decide) Try.underlying69 ⟨_, rfl, rfl⟩) ?_
    refine AL.s rfl (op_load_ptr1 (.e rfl) rfl rfl sc9) ?_
    refine AL.s rfl (op_assignD (.e rfl)) ?_
    refine AL.nil ?_
    refine AW.ret ?_
    refine EndQ.d (.tmp (.e rfl) .nil) rfl ?_
    rfl

/-- bookplate/request.KindName -/
theorem kindName_2  : Fn Try.prog 25 [.int .i64 2] (.str [114, 101, 102, 117, 115, 101]) := by
  refine Fn.of_AW (fnn := Try.f25) Try.func25 rfl (Nat.le_of_ble_eq_true rfl) (fun g0 w0 hw0 => ?_)
  refine AW.seqR ?_
  refine AL.s rfl (op_assignD (.e rfl)) ?_
  refine AL.nil ?_
  refine AW.seqR ?_
  refine AL.s rfl (op_buildArrF ba69 (.cons (.e rfl) rfl rfl rfl rfl (Nat.le_of_ble_eq_true rfl) (.cons (.e rfl) rfl rfl rfl rfl (Nat.le_of_ble_eq_true rfl) (.cons (.e rfl) rfl rfl rfl rfl (Nat.le_of_ble_eq_true rfl) (.cons (.e rfl) rfl rfl rfl rfl (Nat.le_of_ble_eq_true rfl) (.cons (.e rfl) rfl rfl rfl rfl (Nat.le_of_ble_eq_true rfl) (.cons (.e rfl) rfl rfl rfl rfl (Nat.le_of_ble_eq_true rfl) (.cons (.e rfl) rfl rfl rfl rfl (Nat.le_of_ble_eq_true rfl) (.cons (.e rfl) rfl rfl rfl rfl (Nat.le_of_ble_eq_true rfl) (.cons (.e rfl) rfl rfl rfl rfl (Nat.le_of_ble_eq_true rfl) (.cons (.e rfl) rfl rfl rfl rfl (Nat.le_of_ble_eq_true rfl) (.cons (.e rfl) rfl rfl rfl rfl (Nat.le_of_ble_eq_true rfl) .nil))))))))))) rfl rfl) ?_
  refine AL.s rfl (op_alloc (n := 0) zr69 rfl) ?_
  refine AL.s rfl (op_storeA (.e rfl) (.e rfl) rfl rfl ⟨_, rfl, rfl⟩ rfl (Nat.le_of_ble_eq_true rfl)) ?_
  refine AL.nil ?_
  refine AW.seq ?_
  refine AW.seqR ?_
  refine AL.s rfl (op_moveD (.e rfl)) ?_
  refine AL.s rfl (op_fn Try.call35 (.e rfl) (.cons (.r rfl) (.cons (.r rfl) (.cons (.r rfl) .nil))) (in_ok _ _ _)) ?_
  refine AL.s rfl (op_not (.r rfl)) ?_
  refine AL.nil ?_
  refine AW.cond (b := _) rfl (fun hc1 => ?_) (fun hc1 => ?_)
  · skip
    exact absurd hc1 (by decide)
  · skip
    refine AW.skip ?_
    refine nq ?_
    refine AW.seqR ?_
    refine AL.s rfl (op_moveD (.e rfl)) ?_
    refine AL.s rfl (op_indexAddr_arr (.e rfl) (.r rfl) rfl (by first | omega | decide) Try.underlying69 ⟨_, rfl, rfl⟩) ?_
    refine AL.s rfl (op_load_ptr1 (.e rfl) rfl rfl sc9) ?_
    refine AL.s rfl (op_assignD (.e rfl)) ?_
    refine AL.nil ?_
    refine AW.ret ?_
    refine EndQ.d (.tmp (.e rfl) .nil) rfl ?_
    rfl

/-- bookplate/request.KindName -/
theorem kindName_3  : Fn Try.prog 25 [.int .i64 3] (.str [115, 104, 105, 112]) := by
  refine Fn.of_AW (fnn := Try.f25) Try.func25 rfl (Nat.le_of_ble_eq_true rfl) (fun g0 w0 hw0 => ?_)
  refine AW.seqR ?_
  refine AL.s rfl (op_assignD (.e rfl)) ?_
  refine AL.nil ?_
  refine AW.seqR ?_
  refine AL.s rfl (op_buildArrF ba69 (.cons (.e rfl) rfl rfl rfl rfl (Nat.le_of_ble_eq_true rfl) (.cons (.e rfl) rfl rfl rfl rfl (Nat.le_of_ble_eq_true rfl) (.cons (.e rfl) rfl rfl rfl rfl (Nat.le_of_ble_eq_true rfl) (.cons (.e rfl) rfl rfl rfl rfl (Nat.le_of_ble_eq_true rfl) (.cons (.e rfl) rfl rfl rfl rfl (Nat.le_of_ble_eq_true rfl) (.cons (.e rfl) rfl rfl rfl rfl (Nat.le_of_ble_eq_true rfl) (.cons (.e rfl) rfl rfl rfl rfl (Nat.le_of_ble_eq_true rfl) (.cons (.e rfl) rfl rfl rfl rfl (Nat.le_of_ble_eq_true rfl) (.cons (.e rfl) rfl rfl rfl rfl (Nat.le_of_ble_eq_true rfl) (.cons (.e rfl) rfl rfl rfl rfl (Nat.le_of_ble_eq_true rfl) (.cons (.e rfl) rfl rfl rfl rfl (Nat.le_of_ble_eq_true rfl) .nil))))))))))) rfl rfl) ?_
  refine AL.s rfl (op_alloc (n := 0) zr69 rfl) ?_
  refine AL.s rfl (op_storeA (.e rfl) (.e rfl) rfl rfl ⟨_, rfl, rfl⟩ rfl (Nat.le_of_ble_eq_true rfl)) ?_
  refine AL.nil ?_
  refine AW.seq ?_
  refine AW.seqR ?_
  refine AL.s rfl (op_moveD (.e rfl)) ?_
  refine AL.s rfl (op_fn Try.call35 (.e rfl) (.cons (.r rfl) (.cons (.r rfl) (.cons (.r rfl) .nil))) (in_ok _ _ _)) ?_
  refine AL.s rfl (op_not (.r rfl)) ?_
  refine AL.nil ?_
  refine AW.cond (b := _) rfl (fun hc1 => ?_) (fun hc1 => ?_)
  · skip
    exact absurd hc1 (by decide)
  · skip
    refine AW.skip ?_
    refine nq ?_
    refine AW.seqR ?_
    refine AL.s rfl (op_moveD (.e rfl)) ?_
    refine AL.s rfl (op_indexAddr_arr (.e rfl) (.r rfl) rfl (by first | omega | decide) Try.underlying69 ⟨_, rfl, rfl⟩) ?_
    refine AL.s rfl (op_load_ptr1 (.e rfl) rfl rfl sc9) ?_
    refine AL.s rfl (op_assignD (.e rfl)) ?_
    refine AL.nil ?_
    refine AW.ret ?_
    refine EndQ.d (.tmp (.e rfl) .nil) rfl ?_
    rfl

/-- bookplate/request.KindName -/
theorem kindName_4  : Fn Try.prog 25 [.int .i64 4] (.str [114, 101, 99, 101, 105, 118, 101]) := by
  refine Fn.of_AW (fnn := Try.f25) Try.func25 rfl (Nat.le_of_ble_eq_true rfl) (fun g0 w0 hw0 => ?_)
  refine AW.seqR ?_
  refine AL.s rfl (op_assignD (.e rfl)) ?_
  refine AL.nil ?_
  refine AW.seqR ?_
  refine AL.s rfl (op_buildArrF ba69 (.cons (.e rfl) rfl rfl rfl rfl (Nat.le_of_ble_eq_true rfl) (.cons (.e rfl) rfl rfl rfl rfl (Nat.le_of_ble_eq_true rfl) (.cons (.e rfl) rfl rfl rfl rfl (Nat.le_of_ble_eq_true rfl) (.cons (.e rfl) rfl rfl rfl rfl (Nat.le_of_ble_eq_true rfl) (.cons (.e rfl) rfl rfl rfl rfl (Nat.le_of_ble_eq_true rfl) (.cons (.e rfl) rfl rfl rfl rfl (Nat.le_of_ble_eq_true rfl) (.cons (.e rfl) rfl rfl rfl rfl (Nat.le_of_ble_eq_true rfl) (.cons (.e rfl) rfl rfl rfl rfl (Nat.le_of_ble_eq_true rfl) (.cons (.e rfl) rfl rfl rfl rfl (Nat.le_of_ble_eq_true rfl) (.cons (.e rfl) rfl rfl rfl rfl (Nat.le_of_ble_eq_true rfl) (.cons (.e rfl) rfl rfl rfl rfl (Nat.le_of_ble_eq_true rfl) .nil))))))))))) rfl rfl) ?_
  refine AL.s rfl (op_alloc (n := 0) zr69 rfl) ?_
  refine AL.s rfl (op_storeA (.e rfl) (.e rfl) rfl rfl ⟨_, rfl, rfl⟩ rfl (Nat.le_of_ble_eq_true rfl)) ?_
  refine AL.nil ?_
  refine AW.seq ?_
  refine AW.seqR ?_
  refine AL.s rfl (op_moveD (.e rfl)) ?_
  refine AL.s rfl (op_fn Try.call35 (.e rfl) (.cons (.r rfl) (.cons (.r rfl) (.cons (.r rfl) .nil))) (in_ok _ _ _)) ?_
  refine AL.s rfl (op_not (.r rfl)) ?_
  refine AL.nil ?_
  refine AW.cond (b := _) rfl (fun hc1 => ?_) (fun hc1 => ?_)
  · skip
    exact absurd hc1 (by decide)
  · skip
    refine AW.skip ?_
    refine nq ?_
    refine AW.seqR ?_
    refine AL.s rfl (op_moveD (.e rfl)) ?_
    refine AL.s rfl (op_indexAddr_arr (.e rfl) (.r rfl) rfl (by first | omega | decide) Try.underlying69 ⟨_, rfl, rfl⟩) ?_
    refine AL.s rfl (op_load_ptr1 (.e rfl) rfl rfl sc9) ?_
    refine AL.s rfl (op_assignD (.e rfl)) ?_
    refine AL.nil ?_
    refine AW.ret ?_
    refine EndQ.d (.tmp (.e rfl) .nil) rfl ?_
    rfl

/-- bookplate/request.KindName -/
theorem kindName_5  : Fn Try.prog 25 [.int .i64 5] (.str [114, 101, 110, 101, 119]) := by
  refine Fn.of_AW (fnn := Try.f25) Try.func25 rfl (Nat.le_of_ble_eq_true rfl) (fun g0 w0 hw0 => ?_)
  refine AW.seqR ?_
  refine AL.s rfl (op_assignD (.e rfl)) ?_
  refine AL.nil ?_
  refine AW.seqR ?_
  refine AL.s rfl (op_buildArrF ba69 (.cons (.e rfl) rfl rfl rfl rfl (Nat.le_of_ble_eq_true rfl) (.cons (.e rfl) rfl rfl rfl rfl (Nat.le_of_ble_eq_true rfl) (.cons (.e rfl) rfl rfl rfl rfl (Nat.le_of_ble_eq_true rfl) (.cons (.e rfl) rfl rfl rfl rfl (Nat.le_of_ble_eq_true rfl) (.cons (.e rfl) rfl rfl rfl rfl (Nat.le_of_ble_eq_true rfl) (.cons (.e rfl) rfl rfl rfl rfl (Nat.le_of_ble_eq_true rfl) (.cons (.e rfl) rfl rfl rfl rfl (Nat.le_of_ble_eq_true rfl) (.cons (.e rfl) rfl rfl rfl rfl (Nat.le_of_ble_eq_true rfl) (.cons (.e rfl) rfl rfl rfl rfl (Nat.le_of_ble_eq_true rfl) (.cons (.e rfl) rfl rfl rfl rfl (Nat.le_of_ble_eq_true rfl) (.cons (.e rfl) rfl rfl rfl rfl (Nat.le_of_ble_eq_true rfl) .nil))))))))))) rfl rfl) ?_
  refine AL.s rfl (op_alloc (n := 0) zr69 rfl) ?_
  refine AL.s rfl (op_storeA (.e rfl) (.e rfl) rfl rfl ⟨_, rfl, rfl⟩ rfl (Nat.le_of_ble_eq_true rfl)) ?_
  refine AL.nil ?_
  refine AW.seq ?_
  refine AW.seqR ?_
  refine AL.s rfl (op_moveD (.e rfl)) ?_
  refine AL.s rfl (op_fn Try.call35 (.e rfl) (.cons (.r rfl) (.cons (.r rfl) (.cons (.r rfl) .nil))) (in_ok _ _ _)) ?_
  refine AL.s rfl (op_not (.r rfl)) ?_
  refine AL.nil ?_
  refine AW.cond (b := _) rfl (fun hc1 => ?_) (fun hc1 => ?_)
  · skip
    exact absurd hc1 (by decide)
  · skip
    refine AW.skip ?_
    refine nq ?_
    refine AW.seqR ?_
    refine AL.s rfl (op_moveD (.e rfl)) ?_
    refine AL.s rfl (op_indexAddr_arr (.e rfl) (.r rfl) rfl (by first | omega | decide) Try.underlying69 ⟨_, rfl, rfl⟩) ?_
    refine AL.s rfl (op_load_ptr1 (.e rfl) rfl rfl sc9) ?_
    refine AL.s rfl (op_assignD (.e rfl)) ?_
    refine AL.nil ?_
    refine AW.ret ?_
    refine EndQ.d (.tmp (.e rfl) .nil) rfl ?_
    rfl

/-- bookplate/request.KindName -/
theorem kindName_6  : Fn Try.prog 25 [.int .i64 6] (.str [114, 101, 99, 97, 108, 108]) := by
  refine Fn.of_AW (fnn := Try.f25) Try.func25 rfl (Nat.le_of_ble_eq_true rfl) (fun g0 w0 hw0 => ?_)
  refine AW.seqR ?_
  refine AL.s rfl (op_assignD (.e rfl)) ?_
  refine AL.nil ?_
  refine AW.seqR ?_
  refine AL.s rfl (op_buildArrF ba69 (.cons (.e rfl) rfl rfl rfl rfl (Nat.le_of_ble_eq_true rfl) (.cons (.e rfl) rfl rfl rfl rfl (Nat.le_of_ble_eq_true rfl) (.cons (.e rfl) rfl rfl rfl rfl (Nat.le_of_ble_eq_true rfl) (.cons (.e rfl) rfl rfl rfl rfl (Nat.le_of_ble_eq_true rfl) (.cons (.e rfl) rfl rfl rfl rfl (Nat.le_of_ble_eq_true rfl) (.cons (.e rfl) rfl rfl rfl rfl (Nat.le_of_ble_eq_true rfl) (.cons (.e rfl) rfl rfl rfl rfl (Nat.le_of_ble_eq_true rfl) (.cons (.e rfl) rfl rfl rfl rfl (Nat.le_of_ble_eq_true rfl) (.cons (.e rfl) rfl rfl rfl rfl (Nat.le_of_ble_eq_true rfl) (.cons (.e rfl) rfl rfl rfl rfl (Nat.le_of_ble_eq_true rfl) (.cons (.e rfl) rfl rfl rfl rfl (Nat.le_of_ble_eq_true rfl) .nil))))))))))) rfl rfl) ?_
  refine AL.s rfl (op_alloc (n := 0) zr69 rfl) ?_
  refine AL.s rfl (op_storeA (.e rfl) (.e rfl) rfl rfl ⟨_, rfl, rfl⟩ rfl (Nat.le_of_ble_eq_true rfl)) ?_
  refine AL.nil ?_
  refine AW.seq ?_
  refine AW.seqR ?_
  refine AL.s rfl (op_moveD (.e rfl)) ?_
  refine AL.s rfl (op_fn Try.call35 (.e rfl) (.cons (.r rfl) (.cons (.r rfl) (.cons (.r rfl) .nil))) (in_ok _ _ _)) ?_
  refine AL.s rfl (op_not (.r rfl)) ?_
  refine AL.nil ?_
  refine AW.cond (b := _) rfl (fun hc1 => ?_) (fun hc1 => ?_)
  · skip
    exact absurd hc1 (by decide)
  · skip
    refine AW.skip ?_
    refine nq ?_
    refine AW.seqR ?_
    refine AL.s rfl (op_moveD (.e rfl)) ?_
    refine AL.s rfl (op_indexAddr_arr (.e rfl) (.r rfl) rfl (by first | omega | decide) Try.underlying69 ⟨_, rfl, rfl⟩) ?_
    refine AL.s rfl (op_load_ptr1 (.e rfl) rfl rfl sc9) ?_
    refine AL.s rfl (op_assignD (.e rfl)) ?_
    refine AL.nil ?_
    refine AW.ret ?_
    refine EndQ.d (.tmp (.e rfl) .nil) rfl ?_
    rfl

/-- bookplate/request.KindName -/
theorem kindName_7  : Fn Try.prog 25 [.int .i64 7] (.str [114, 101, 116, 117, 114, 110]) := by
  refine Fn.of_AW (fnn := Try.f25) Try.func25 rfl (Nat.le_of_ble_eq_true rfl) (fun g0 w0 hw0 => ?_)
  refine AW.seqR ?_
  refine AL.s rfl (op_assignD (.e rfl)) ?_
  refine AL.nil ?_
  refine AW.seqR ?_
  refine AL.s rfl (op_buildArrF ba69 (.cons (.e rfl) rfl rfl rfl rfl (Nat.le_of_ble_eq_true rfl) (.cons (.e rfl) rfl rfl rfl rfl (Nat.le_of_ble_eq_true rfl) (.cons (.e rfl) rfl rfl rfl rfl (Nat.le_of_ble_eq_true rfl) (.cons (.e rfl) rfl rfl rfl rfl (Nat.le_of_ble_eq_true rfl) (.cons (.e rfl) rfl rfl rfl rfl (Nat.le_of_ble_eq_true rfl) (.cons (.e rfl) rfl rfl rfl rfl (Nat.le_of_ble_eq_true rfl) (.cons (.e rfl) rfl rfl rfl rfl (Nat.le_of_ble_eq_true rfl) (.cons (.e rfl) rfl rfl rfl rfl (Nat.le_of_ble_eq_true rfl) (.cons (.e rfl) rfl rfl rfl rfl (Nat.le_of_ble_eq_true rfl) (.cons (.e rfl) rfl rfl rfl rfl (Nat.le_of_ble_eq_true rfl) (.cons (.e rfl) rfl rfl rfl rfl (Nat.le_of_ble_eq_true rfl) .nil))))))))))) rfl rfl) ?_
  refine AL.s rfl (op_alloc (n := 0) zr69 rfl) ?_
  refine AL.s rfl (op_storeA (.e rfl) (.e rfl) rfl rfl ⟨_, rfl, rfl⟩ rfl (Nat.le_of_ble_eq_true rfl)) ?_
  refine AL.nil ?_
  refine AW.seq ?_
  refine AW.seqR ?_
  refine AL.s rfl (op_moveD (.e rfl)) ?_
  refine AL.s rfl (op_fn Try.call35 (.e rfl) (.cons (.r rfl) (.cons (.r rfl) (.cons (.r rfl) .nil))) (in_ok _ _ _)) ?_
  refine AL.s rfl (op_not (.r rfl)) ?_
  refine AL.nil ?_
  refine AW.cond (b := _) rfl (fun hc1 => ?_) (fun hc1 => ?_)
  · skip
    exact absurd hc1 (by decide)
  · skip
    refine AW.skip ?_
    refine nq ?_
    refine AW.seqR ?_
    refine AL.s rfl (op_moveD (.e rfl)) ?_
    refine AL.s rfl (op_indexAddr_arr (.e rfl) (.r rfl) rfl (by first | omega | decide) Try.underlying69 ⟨_, rfl, rfl⟩) ?_
    refine AL.s rfl (op_load_ptr1 (.e rfl) rfl rfl sc9) ?_
    refine AL.s rfl (op_assignD (.e rfl)) ?_
    refine AL.nil ?_
    refine AW.ret ?_
    refine EndQ.d (.tmp (.e rfl) .nil) rfl ?_
    rfl

/-- bookplate/request.KindName -/
theorem kindName_8  : Fn Try.prog 25 [.int .i64 8] (.str [99, 108, 111, 115, 101]) := by
  refine Fn.of_AW (fnn := Try.f25) Try.func25 rfl (Nat.le_of_ble_eq_true rfl) (fun g0 w0 hw0 => ?_)
  refine AW.seqR ?_
  refine AL.s rfl (op_assignD (.e rfl)) ?_
  refine AL.nil ?_
  refine AW.seqR ?_
  refine AL.s rfl (op_buildArrF ba69 (.cons (.e rfl) rfl rfl rfl rfl (Nat.le_of_ble_eq_true rfl) (.cons (.e rfl) rfl rfl rfl rfl (Nat.le_of_ble_eq_true rfl) (.cons (.e rfl) rfl rfl rfl rfl (Nat.le_of_ble_eq_true rfl) (.cons (.e rfl) rfl rfl rfl rfl (Nat.le_of_ble_eq_true rfl) (.cons (.e rfl) rfl rfl rfl rfl (Nat.le_of_ble_eq_true rfl) (.cons (.e rfl) rfl rfl rfl rfl (Nat.le_of_ble_eq_true rfl) (.cons (.e rfl) rfl rfl rfl rfl (Nat.le_of_ble_eq_true rfl) (.cons (.e rfl) rfl rfl rfl rfl (Nat.le_of_ble_eq_true rfl) (.cons (.e rfl) rfl rfl rfl rfl (Nat.le_of_ble_eq_true rfl) (.cons (.e rfl) rfl rfl rfl rfl (Nat.le_of_ble_eq_true rfl) (.cons (.e rfl) rfl rfl rfl rfl (Nat.le_of_ble_eq_true rfl) .nil))))))))))) rfl rfl) ?_
  refine AL.s rfl (op_alloc (n := 0) zr69 rfl) ?_
  refine AL.s rfl (op_storeA (.e rfl) (.e rfl) rfl rfl ⟨_, rfl, rfl⟩ rfl (Nat.le_of_ble_eq_true rfl)) ?_
  refine AL.nil ?_
  refine AW.seq ?_
  refine AW.seqR ?_
  refine AL.s rfl (op_moveD (.e rfl)) ?_
  refine AL.s rfl (op_fn Try.call35 (.e rfl) (.cons (.r rfl) (.cons (.r rfl) (.cons (.r rfl) .nil))) (in_ok _ _ _)) ?_
  refine AL.s rfl (op_not (.r rfl)) ?_
  refine AL.nil ?_
  refine AW.cond (b := _) rfl (fun hc1 => ?_) (fun hc1 => ?_)
  · skip
    exact absurd hc1 (by decide)
  · skip
    refine AW.skip ?_
    refine nq ?_
    refine AW.seqR ?_
    refine AL.s rfl (op_moveD (.e rfl)) ?_
    refine AL.s rfl (op_indexAddr_arr (.e rfl) (.r rfl) rfl (by first | omega | decide) Try.underlying69 ⟨_, rfl, rfl⟩) ?_
    refine AL.s rfl (op_load_ptr1 (.e rfl) rfl rfl sc9) ?_
    refine AL.s rfl (op_assignD (.e rfl)) ?_
    refine AL.nil ?_
    refine AW.ret ?_
    refine EndQ.d (.tmp (.e rfl) .nil) rfl ?_
    rfl

/-- bookplate/request.KindName -/
theorem kindName_9  : Fn Try.prog 25 [.int .i64 9] (.str [99, 97, 110, 99, 101, 108]) := by
  refine Fn.of_AW (fnn := Try.f25) Try.func25 rfl (Nat.le_of_ble_eq_true rfl) (fun g0 w0 hw0 => ?_)
  refine AW.seqR ?_
  refine AL.s rfl (op_assignD (.e rfl)) ?_
  refine AL.nil ?_
  refine AW.seqR ?_
  refine AL.s rfl (op_buildArrF ba69 (.cons (.e rfl) rfl rfl rfl rfl (Nat.le_of_ble_eq_true rfl) (.cons (.e rfl) rfl rfl rfl rfl (Nat.le_of_ble_eq_true rfl) (.cons (.e rfl) rfl rfl rfl rfl (Nat.le_of_ble_eq_true rfl) (.cons (.e rfl) rfl rfl rfl rfl (Nat.le_of_ble_eq_true rfl) (.cons (.e rfl) rfl rfl rfl rfl (Nat.le_of_ble_eq_true rfl) (.cons (.e rfl) rfl rfl rfl rfl (Nat.le_of_ble_eq_true rfl) (.cons (.e rfl) rfl rfl rfl rfl (Nat.le_of_ble_eq_true rfl) (.cons (.e rfl) rfl rfl rfl rfl (Nat.le_of_ble_eq_true rfl) (.cons (.e rfl) rfl rfl rfl rfl (Nat.le_of_ble_eq_true rfl) (.cons (.e rfl) rfl rfl rfl rfl (Nat.le_of_ble_eq_true rfl) (.cons (.e rfl) rfl rfl rfl rfl (Nat.le_of_ble_eq_true rfl) .nil))))))))))) rfl rfl) ?_
  refine AL.s rfl (op_alloc (n := 0) zr69 rfl) ?_
  refine AL.s rfl (op_storeA (.e rfl) (.e rfl) rfl rfl ⟨_, rfl, rfl⟩ rfl (Nat.le_of_ble_eq_true rfl)) ?_
  refine AL.nil ?_
  refine AW.seq ?_
  refine AW.seqR ?_
  refine AL.s rfl (op_moveD (.e rfl)) ?_
  refine AL.s rfl (op_fn Try.call35 (.e rfl) (.cons (.r rfl) (.cons (.r rfl) (.cons (.r rfl) .nil))) (in_ok _ _ _)) ?_
  refine AL.s rfl (op_not (.r rfl)) ?_
  refine AL.nil ?_
  refine AW.cond (b := _) rfl (fun hc1 => ?_) (fun hc1 => ?_)
  · skip
    exact absurd hc1 (by decide)
  · skip
    refine AW.skip ?_
    refine nq ?_
    refine AW.seqR ?_
    refine AL.s rfl (op_moveD (.e rfl)) ?_
    refine AL.s rfl (op_indexAddr_arr (.e rfl) (.r rfl) rfl (by first | omega | decide) Try.underlying69 ⟨_, rfl, rfl⟩) ?_
    refine AL.s rfl (op_load_ptr1 (.e rfl) rfl rfl sc9) ?_
    refine AL.s rfl (op_assignD (.e rfl)) ?_
    refine AL.nil ?_
    refine AW.ret ?_
    refine EndQ.d (.tmp (.e rfl) .nil) rfl ?_
    rfl

/-- bookplate/request.KindName -/
theorem kindName_10  : Fn Try.prog 25 [.int .i64 10] (.str [102, 97, 105, 108]) := by
  refine Fn.of_AW (fnn := Try.f25) Try.func25 rfl (Nat.le_of_ble_eq_true rfl) (fun g0 w0 hw0 => ?_)
  refine AW.seqR ?_
  refine AL.s rfl (op_assignD (.e rfl)) ?_
  refine AL.nil ?_
  refine AW.seqR ?_
  refine AL.s rfl (op_buildArrF ba69 (.cons (.e rfl) rfl rfl rfl rfl (Nat.le_of_ble_eq_true rfl) (.cons (.e rfl) rfl rfl rfl rfl (Nat.le_of_ble_eq_true rfl) (.cons (.e rfl) rfl rfl rfl rfl (Nat.le_of_ble_eq_true rfl) (.cons (.e rfl) rfl rfl rfl rfl (Nat.le_of_ble_eq_true rfl) (.cons (.e rfl) rfl rfl rfl rfl (Nat.le_of_ble_eq_true rfl) (.cons (.e rfl) rfl rfl rfl rfl (Nat.le_of_ble_eq_true rfl) (.cons (.e rfl) rfl rfl rfl rfl (Nat.le_of_ble_eq_true rfl) (.cons (.e rfl) rfl rfl rfl rfl (Nat.le_of_ble_eq_true rfl) (.cons (.e rfl) rfl rfl rfl rfl (Nat.le_of_ble_eq_true rfl) (.cons (.e rfl) rfl rfl rfl rfl (Nat.le_of_ble_eq_true rfl) (.cons (.e rfl) rfl rfl rfl rfl (Nat.le_of_ble_eq_true rfl) .nil))))))))))) rfl rfl) ?_
  refine AL.s rfl (op_alloc (n := 0) zr69 rfl) ?_
  refine AL.s rfl (op_storeA (.e rfl) (.e rfl) rfl rfl ⟨_, rfl, rfl⟩ rfl (Nat.le_of_ble_eq_true rfl)) ?_
  refine AL.nil ?_
  refine AW.seq ?_
  refine AW.seqR ?_
  refine AL.s rfl (op_moveD (.e rfl)) ?_
  refine AL.s rfl (op_fn Try.call35 (.e rfl) (.cons (.r rfl) (.cons (.r rfl) (.cons (.r rfl) .nil))) (in_ok _ _ _)) ?_
  refine AL.s rfl (op_not (.r rfl)) ?_
  refine AL.nil ?_
  refine AW.cond (b := _) rfl (fun hc1 => ?_) (fun hc1 => ?_)
  · skip
    exact absurd hc1 (by decide)
  · skip
    refine AW.skip ?_
    refine nq ?_
    refine AW.seqR ?_
    refine AL.s rfl (op_moveD (.e rfl)) ?_
    refine AL.s rfl (op_indexAddr_arr (.e rfl) (.r rfl) rfl (by first | omega | decide) Try.underlying69 ⟨_, rfl, rfl⟩) ?_
    refine AL.s rfl (op_load_ptr1 (.e rfl) rfl rfl sc9) ?_
    refine AL.s rfl (op_assignD (.e rfl)) ?_
    refine AL.nil ?_
    refine AW.ret ?_
    refine EndQ.d (.tmp (.e rfl) .nil) rfl ?_
    rfl

/-- bookplate/request.KindName -/
theorem kindName_out (n : Int) (h : inI n 1 10 = false) : Fn Try.prog 25 [.int .i64 n] (.str [117, 110, 107, 110, 111, 119, 110]) := by
  refine Fn.of_AW (fnn := Try.f25) Try.func25 rfl (Nat.le_of_ble_eq_true rfl) (fun g0 w0 hw0 => ?_)
  refine AW.seqR ?_
  refine AL.s rfl (op_assignD (.e rfl)) ?_
  refine AL.nil ?_
  refine AW.seqR ?_
  refine AL.s rfl (op_buildArrF ba69 (.cons (.e rfl) rfl rfl rfl rfl (Nat.le_of_ble_eq_true rfl) (.cons (.e rfl) rfl rfl rfl rfl (Nat.le_of_ble_eq_true rfl) (.cons (.e rfl) rfl rfl rfl rfl (Nat.le_of_ble_eq_true rfl) (.cons (.e rfl) rfl rfl rfl rfl (Nat.le_of_ble_eq_true rfl) (.cons (.e rfl) rfl rfl rfl rfl (Nat.le_of_ble_eq_true rfl) (.cons (.e rfl) rfl rfl rfl rfl (Nat.le_of_ble_eq_true rfl) (.cons (.e rfl) rfl rfl rfl rfl (Nat.le_of_ble_eq_true rfl) (.cons (.e rfl) rfl rfl rfl rfl (Nat.le_of_ble_eq_true rfl) (.cons (.e rfl) rfl rfl rfl rfl (Nat.le_of_ble_eq_true rfl) (.cons (.e rfl) rfl rfl rfl rfl (Nat.le_of_ble_eq_true rfl) (.cons (.e rfl) rfl rfl rfl rfl (Nat.le_of_ble_eq_true rfl) .nil))))))))))) rfl rfl) ?_
  refine AL.s rfl (op_alloc (n := 0) zr69 rfl) ?_
  refine AL.s rfl (op_storeA (.e rfl) (.e rfl) rfl rfl ⟨_, rfl, rfl⟩ rfl (Nat.le_of_ble_eq_true rfl)) ?_
  refine AL.nil ?_
  refine AW.seq ?_
  refine AW.seqR ?_
  refine AL.s rfl (op_moveD (.e rfl)) ?_
  refine AL.s rfl (op_fn Try.call35 (.e rfl) (.cons (.r rfl) (.cons (.r rfl) (.cons (.r rfl) .nil))) (in_ok _ _ _)) ?_
  refine AL.s rfl (op_not (.r rfl)) ?_
  refine AL.nil ?_
  refine AW.cond (b := _) rfl (fun hc1 => ?_) (fun hc1 => ?_)
  · skip
    refine AW.region ?_
    refine AL.s rfl (op_assignD (.e rfl)) ?_
    refine AL.nil ?_
    refine nq ?_
    refine AW.seqR ?_
    refine AL.s rfl (op_moveD (.e rfl)) ?_
    refine AL.s rfl (op_indexAddr_arr (.e rfl) (.r rfl) rfl (by first | omega | decide) Try.underlying69 ⟨_, rfl, rfl⟩) ?_
    refine AL.s rfl (op_load_ptr1 (.e rfl) rfl rfl sc9) ?_
    refine AL.s rfl (op_assignD (.e rfl)) ?_
    refine AL.nil ?_
    refine AW.ret ?_
    refine EndQ.d (.tmp (.e rfl) .nil) rfl ?_
    rfl
  · skip
    rw [h] at hc1; cases hc1

def kindNameL (n : Int) : List UInt8 := if n = 1 then [114, 111, 117, 116, 101] else if n = 2 then [114, 101, 102, 117, 115, 101] else if n = 3 then [115, 104, 105, 112] else if n = 4 then [114, 101, 99, 101, 105, 118, 101] else if n = 5 then [114, 101, 110, 101, 119] else if n = 6 then [114, 101, 99, 97, 108, 108] else if n = 7 then [114, 101, 116, 117, 114, 110] else if n = 8 then [99, 108, 111, 115, 101] else if n = 9 then [99, 97, 110, 99, 101, 108] else if n = 10 then [102, 97, 105, 108] else [117, 110, 107, 110, 111, 119, 110]
theorem kindName_ok (n : Int) : Fn Try.prog 25 [.int .i64 n] (.str (kindNameL n)) := by
  cases h : inI n 1 10 with
  | false =>
    have : kindNameL n = [117, 110, 107, 110, 111, 119, 110] := by
      simp only [inI, Bool.and_eq_false_imp, decide_eq_true_eq, decide_eq_false_iff_not] at h
      unfold kindNameL
      repeat rw [if_neg (by omega)]
    rw [this]; exact kindName_out n h
  | true =>
    have h' : n = 1 ∨ n = 2 ∨ n = 3 ∨ n = 4 ∨ n = 5 ∨ n = 6 ∨ n = 7 ∨ n = 8 ∨ n = 9 ∨ n = 10 := by simp only [inI, Bool.and_eq_true, decide_eq_true_eq] at h; omega
    rcases h' with rfl | rfl | rfl | rfl | rfl | rfl | rfl | rfl | rfl | rfl
    · exact kindName_1
    · exact kindName_2
    · exact kindName_3
    · exact kindName_4
    · exact kindName_5
    · exact kindName_6
    · exact kindName_7
    · exact kindName_8
    · exact kindName_9
    · exact kindName_10


end Go.Proofs.Ytciojlggdnmncaa.Ab
