/- The reference: lists of steps, delays, tables. Conditions: none. -/
import Derived.Test.YtciojlggdnmncaaFq
set_option maxRecDepth 100000
namespace Go.Proofs.Ytciojlggdnmncaa.Ab
open Go 

/-- bookplate/bookplateref55.Run -/
theorem rrun_ok (r : Req) (l : List Stp) (hr : r.Fits) (hn : l.length ≤ 9223372036854775807) (hl : ∀ k, (l.getD k zeroStp).lender.length ≤ 9223372036854775807) : Fn Try.prog 14 [r.e, .sl (l.map Stp.e)] (.tup [(runI r l).1.e, .int .i64 (runI r l).2.1, .int .i64 (runI r l).2.2]) := by
  refine Fn.of_AW (fnn := Try.f14) Try.func14 rfl (Nat.le_of_ble_eq_true rfl) (fun g0 w0 hw0 => ?_)
  refine AW.seqR ?_
  refine AL.s rfl (op_box (n := 0) (.e rfl) rfl rfl rfl) ?_
  refine AL.s rfl (op_alloc (n := 1) zr24 rfl) ?_
  refine AL.s rfl (op_assignD (.e rfl)) ?_
  refine AL.s rfl (op_assignD (.e rfl)) ?_
  refine AL.nil ?_
  refine AW.seq ?_
  refine AW.seqR ?_
  refine AL.s rfl (op_load_ptrA (.e rfl) rfl rfl rfl ag24) ?_
  refine AL.s rfl (op_fn Try.call18 (.e rfl) (.cons (.r rfl) .nil) (rvalid_ok ⟨_, _, _, _, _, _, _, _, _⟩ hr)) ?_
  refine AL.s rfl (op_not (.r rfl)) ?_
  refine AL.nil ?_
  refine AW.cond (b := _) rfl (fun hc1 => ?_) (fun hc1 => ?_)
  · skip
    refine AW.seqR ?_
    refine AL.s rfl (op_build bd24 .nil) ?_
    refine AL.s rfl (op_storeA (.e rfl) (.e rfl) rfl rfl ⟨_, rfl, rfl⟩ rfl (Nat.le_of_ble_eq_true rfl)) ?_
    refine AL.s rfl (op_assignD (.e rfl)) ?_
    refine AL.s rfl (op_assignD (.e rfl)) ?_
    refine AL.nil ?_
    refine AW.ret ?_
    refine tq_ret ?_
    refine EndQ.d (.cellA (.e rfl) rfl rfl rfl ag24 (.tmp (.e rfl) (.tmp (.e rfl) .nil))) rfl ?_
    simp only [runI, *, Bool.false_eq_true, ↓reduceIte] <;> rfl
  · skip
    have o1 := (validB_ok (r := r) (by simpa using hc1)).tried
    refine AW.skip ?_
    refine nq ?_
    refine AW.seqR ?_
    refine AL.s rfl (op_buildSlice sl22 .nil rfl (by decide)) ?_
    refine AL.s rfl (op_field_ptr (.e rfl) fd24_6) ?_
    refine AL.s rfl (op_load_ptr1 (.e rfl) rfl rfl sc22) ?_
    refine AL.s rfl (op_appendE (n := 2) sl22 (.e rfl) (.r rfl) rfl (by first | exact asz_pl (by simp [D.pl, absD, absC]; done) | simp [absD, absC, D.cells]) (by first | exact aone_pl (by simp [D.pl, absD, absC]; done) | simp [absD, absC, D.cells, D.one]) (by simp; omega) (by simp; omega)) ?_
    refine AL.s rfl (op_field_ptr (.e rfl) fd24_6) ?_
    refine AL.s rfl (op_store (.e rfl) (.e rfl) rfl rfl rfl ⟨_, rfl, rfl⟩ rfl (Nat.le_of_ble_eq_true rfl)) ?_
    refine AL.nil ?_
    refine AW.seq ?_
    refine AW.seqR ?_
    refine AL.s rfl (op_assignD (.e rfl)) ?_
    refine AL.nil ?_
    refine AW.block ?_
    refine AW.relax ([.row [.d (.int .i64 r.id), .d (.int .i64 r.work), .d (.str r.lib), .d (.int .i64 r.st), .d (.int .i64 r.tm), .d (.str r.lender), .d (.sl (r.tried.map .str)), .d (.int .i64 r.due), .d (.int .i64 r.ren)], .row [.d (.int .i64 0), .d (.int .i64 0), .d (.str []), .d (.int .i64 0), .d (.int .i64 0), .d (.str []), .d (.sl []), .d (.int .i64 0), .d (.int .i64 0)], .dead]) (.row (.cons (.of rfl) (.cons (.of rfl) (.cons (.of rfl) (.cons (.of rfl) (.cons (.of rfl) (.cons (.of rfl) (.cons (.d rfl) (.cons (.of rfl) (.cons (.of rfl) .nil))))))))) (.row (.cons (.of rfl) (.cons (.of rfl) (.cons (.of rfl) (.cons (.of rfl) (.cons (.of rfl) (.cons (.of rfl) (.cons (.d rfl) (.cons (.of rfl) (.cons (.of rfl) .nil))))))))) (.kill .nil))) (fun i hi => absurd hi (noFree_spec rfl i)) ?_
    refine AW.loopT 3 (α := Nat × Req) (fun x => match x with | ⟨k, x⟩ => (k ≤ l.length ∧ x.Fits) ∧ runG r l 0 = runG x (l.drop k) (k : Int)) [1, 2, 4] (fun x => match x with | ⟨k, x⟩ => [(7, .d (.int .i64 (k : Int)))]) (fun x => match x with | ⟨k, x⟩ => [.row [.d (.int .i64 x.id), .d (.int .i64 x.work), .d (.str x.lib), .d (.int .i64 x.st), .d (.int .i64 x.tm), .d (.str x.lender), .d (.sl (x.tried.map .str)), .d (.int .i64 x.due), .d (.int .i64 x.ren)], .row [.d (.int .i64 0), .d (.int .i64 0), .d (.str []), .d (.int .i64 0), .d (.int .i64 0), .d (.str []), .d (.sl []), .d (.int .i64 0), .d (.int .i64 0)], .dead]) (fun x => match x with | ⟨k, x⟩ => l.length - k) ((0, r)) (⟨⟨by omega, hr⟩, rfl⟩) (WOK.g0 hw0 (by simp)) (fun x => .ofB (by first | rfl | (cases x; rfl))) (.ofB rfl) (fun x => .ofB (by first | rfl | (cases x; rfl))) ⟨by first | exact .of rfl | exact .d rfl | exact .any | exact .int (by simp), trivial⟩ rfl ?_
    rintro ⟨k, x⟩ hI
    obtain ⟨⟨hI, hx⟩, hJ⟩ := hI
    refine AW.seq ?_
    refine AW.seqR ?_
    refine AL.s rfl (op_moveD (.e rfl)) ?_
    refine AL.s rfl (op_moveD (.e rfl)) ?_
    refine AL.s rfl (op_lenN (.r rfl) (by first | exact List.length_map _ | rfl) sl25) ?_
    refine AL.s rfl (op_lss (.r rfl) (.r rfl)) ?_
    refine AL.nil ?_
    refine AW.cond (b := _) rfl (fun hc2 => ?_) (fun hc2 => ?_)
    · skip
      refine AW.skip ?_
      refine nq ?_
      refine AW.seq ?_
      refine AW.block ?_
      refine AW.free ?_
      refine AW.seqD [([0], []), ([], []), ([], []), ([], []), ([], []), ([], []), ([], []), ([], []), ([], []), ([], [3]), ([3], [3]), ([], [])] mo (by decide +kernel) ?_
      refine AD.s (ws := []) rfl rfl (fun H' _ hH => op_load_ptrA (.e rfl) ((hH _ (by first | exact List.Mem.head _ | simp)).trans rfl) rfl rfl ag24) ?_
      refine AD.s (ws := []) rfl rfl (fun H' _ hH => op_moveD (.e rfl)) ?_
      refine AD.s (ws := []) rfl rfl (fun H' _ hH => op_moveD (.e rfl)) ?_
      refine AD.s (ws := []) rfl rfl (fun H' _ hH => op_indexAddr (.r rfl) (.r rfl) rfl (getMapD (d := zeroStp) (by simp at hc2; omega)) sl25 rfl) ?_
      refine AD.s (ws := []) rfl rfl (fun H' _ hH => op_loadA (.e rfl) rfl ag44) ?_
      refine AD.s (ws := []) rfl rfl (fun H' _ hH => op_fn Try.call32 (.e rfl) (.cons (.r rfl) (.cons (.r rfl) .nil)) (rdo_ok x (l.getD k zeroStp) hx (hl k))) ?_
      refine AD.s (ws := []) rfl rfl (fun H' _ hH => op_moveD (.e rfl)) ?_
      refine AD.s (ws := []) rfl rfl (fun H' _ hH => op_extractD (.e rfl) rfl) ?_
      refine AD.s (ws := []) rfl rfl (fun H' _ hH => op_extractD (.e rfl) rfl) ?_
      refine AD.s (ws := [(3, _)]) rfl rfl (fun H' _ hH => op_allocR zr24 ((hH _ (by first | exact List.Mem.head _ | simp)).trans rfl)) ?_
      refine AD.s (ws := [(3, _)]) rfl rfl (fun H' _ hH => op_store (.e rfl) (.e rfl) ((hH _ (by first | exact List.Mem.head _ | simp)).trans rfl) rfl rfl ⟨_, rfl, rfl⟩ rfl (Nat.le_of_ble_eq_true rfl)) ?_
      refine AD.s (ws := []) rfl rfl (fun H' _ hH => op_assignD (.e rfl)) ?_
      refine AD.nil ?_
      refine AW.seq ?_
      refine AW.seqR ?_
      refine AL.s rfl (op_moveD (.e rfl)) ?_
      refine AL.s rfl (op_neq (.r rfl) (.r rfl)) ?_
      refine AL.nil ?_
      refine AW.cond (b := _) rfl (fun hc3 => ?_) (fun hc3 => ?_)
      · skip
        refine AW.seqR ?_
        refine AL.s rfl (op_load_ptrA (.e rfl) rfl rfl rfl ag24) ?_
        refine AL.s rfl (op_moveD (.e rfl)) ?_
        refine AL.s rfl (op_moveD (.e rfl)) ?_
        refine AL.s rfl (op_storeA (.e rfl) (.e rfl) rfl rfl ⟨_, rfl, rfl⟩ rfl (Nat.le_of_ble_eq_true rfl)) ?_
        refine AL.s rfl (op_assignD (.e rfl)) ?_
        refine AL.s rfl (op_assignD (.e rfl)) ?_
        refine AL.nil ?_
        refine AW.ret ?_
        refine tq_ret ?_
        refine bq_ret ?_
        refine tq_ret ?_
        refine tq_ret ?_
        refine bq_ret ?_
        refine tq_ret ?_
        refine EndQ.d (.cellA (.e rfl) rfl rfl rfl ag24 (.tmp (.e rfl) (.tmp (.e rfl) .nil))) rfl ?_
        simp only [runI, hc1, if_false, Bool.false_eq_true, ↓reduceIte]; rw [hJ, runG_at (by simp at hc2; omega)]; simp only [hc3, if_true]; rfl
      · skip
        refine AW.skip ?_
        refine nq ?_
        refine AW.region ?_
        refine AL.s rfl (op_load_ptrA (.e rfl) rfl rfl rfl ag24) ?_
        refine AL.s rfl (op_storeA (.e rfl) (.e rfl) rfl rfl ⟨_, rfl, rfl⟩ rfl (Nat.le_of_ble_eq_true rfl)) ?_
        refine AL.nil ?_
        refine bq_n ?_
        refine nq ?_
        refine AW.region ?_
        refine AL.s rfl (op_moveD (.e rfl)) ?_
        refine AL.s rfl (op_add (.r rfl) (.r rfl) (w64 (by omega) (by simp at hc2; omega))) ?_
        refine AL.s rfl (op_assignD (.e rfl)) ?_
        refine AL.nil ?_
        refine nq ⟨(k + 1, (doI x (l.getD k zeroStp)).1), ?_, ?_, ⟨by first | exact .of rfl | exact .int (by omega) | exact .d rfl | exact .any, trivial⟩, ⟨rfl, rfl, rfl, trivial⟩, rfl, by first | exact Nat.le_of_ble_eq_true rfl | simp⟩
        · exact ⟨⟨by simp at hc2; omega, do_fits hx (hl k)⟩, by rw [hJ, runG_at (by simp at hc2; omega)]; simp only [hc3, if_false, Bool.false_eq_true, ↓reduceIte]; congr 1⟩
        · show l.length - (k + 1) < l.length - k; simp at hc2; omega
    · skip
      refine AW.exit ?_
      refine tq_exit ?_
      refine tq_exit ?_
      refine bq_hit ?_
      refine nq ?_
      refine AW.seqR ?_
      refine AL.s rfl (op_load_ptrA (.e rfl) rfl rfl rfl ag24) ?_
      refine AL.s rfl (op_moveD (.e rfl)) ?_
      refine AL.s rfl (op_lenN (.r rfl) (by first | exact List.length_map _ | rfl) sl25) ?_
      refine AL.s rfl (op_storeA (.e rfl) (.e rfl) rfl rfl ⟨_, rfl, rfl⟩ rfl (Nat.le_of_ble_eq_true rfl)) ?_
      refine AL.s rfl (op_assignD (.e rfl)) ?_
      refine AL.s rfl (op_assignD (.e rfl)) ?_
      refine AL.nil ?_
      refine AW.ret ?_
      refine EndQ.d (.cellA (.e rfl) rfl rfl rfl ag24 (.tmp (.e rfl) (.tmp (.e rfl) .nil))) rfl ?_
      simp only [runI, hc1, if_false, Bool.false_eq_true, ↓reduceIte]; rw [hJ, runG_end (by simp at hc2; omega)]; have : k = l.length := (by simp at hc2; omega); rw [this]; rfl

/-- bookplate/bookplateref55.StateName -/
theorem rstateName_1  : Fn Try.prog 24 [.int .i64 1] (.str [112, 108, 97, 99, 101, 100]) := by
  refine Fn.of_AW (fnn := Try.f24) Try.func24 rfl (Nat.le_of_ble_eq_true rfl) (fun g0 w0 hw0 => ?_)
  refine AW.seqR ?_
  refine AL.s rfl (op_assignD (.e rfl)) ?_
  refine AL.nil ?_
  refine AW.seqR ?_
  refine AL.s rfl (op_buildSlice sl22 (.cons (.r rfl) rfl (by simp [absD, absC, D.cells, D.one]) (.cons (.r rfl) rfl (by simp [absD, absC, D.cells, D.one]) (.cons (.r rfl) rfl (by simp [absD, absC, D.cells, D.one]) (.cons (.r rfl) rfl (by simp [absD, absC, D.cells, D.one]) (.cons (.r rfl) rfl (by simp [absD, absC, D.cells, D.one]) (.cons (.r rfl) rfl (by simp [absD, absC, D.cells, D.one]) (.cons (.r rfl) rfl (by simp [absD, absC, D.cells, D.one]) (.cons (.r rfl) rfl (by simp [absD, absC, D.cells, D.one]) (.cons (.r rfl) rfl (by simp [absD, absC, D.cells, D.one]) .nil))))))))) rfl (by decide)) ?_
  refine AL.s rfl (op_assignE (.e rfl)) ?_
  refine AL.nil ?_
  refine AW.seq ?_
  refine AW.seqR ?_
  refine AL.s rfl (op_moveD (.e rfl)) ?_
  refine AL.s rfl (op_lss (.r rfl) (.r rfl)) ?_
  refine AL.s rfl (op_moveD (.e rfl)) ?_
  refine AL.sF rfl rfl rfl rfl (fun g => op_moveD (.e rfl)) ?_
  refine AL.sF rfl rfl rfl rfl (fun g => op_gtr (.we (nt g) rfl rfl) (.r rfl)) ?_
  refine AL.s rfl (op_or (.r rfl) rfl (fun h => (.we (nt h) rfl rfl))) ?_
  refine AL.nil ?_
  refine AW.cond (b := _) rfl (fun hc1 => ?_) (fun hc1 => ?_)
  · skip
    exact absurd hc1 (by decide)
  · skip
    refine AW.skip ?_
    refine nq ?_
    refine AW.seqR ?_
    refine AL.s rfl (op_moveE (.e rfl)) ?_
    refine AL.s rfl (op_moveD (.e rfl)) ?_
    refine AL.s rfl (op_sub (.r rfl) (.r rfl) (w64 (by decide) (by decide))) ?_
    refine AL.s rfl (op_indexAddr (.r rfl) (.r rfl) (show ((1 : Int) - 1) = ((0 : Nat) : Int) from rfl) rfl sl22 rfl) ?_
    refine AL.s rfl (op_load_vp1 (.e rfl) rfl sc9) ?_
    refine AL.s rfl (op_assignD (.e rfl)) ?_
    refine AL.nil ?_
    refine AW.ret ?_
    refine EndQ.d (.tmp (.e rfl) .nil) rfl ?_
    rfl

/-- bookplate/bookplateref55.StateName -/
theorem rstateName_2  : Fn Try.prog 24 [.int .i64 2] (.str [114, 111, 117, 116, 101, 100]) := by
  refine Fn.of_AW (fnn := Try.f24) Try.func24 rfl (Nat.le_of_ble_eq_true rfl) (fun g0 w0 hw0 => ?_)
  refine AW.seqR ?_
  refine AL.s rfl (op_assignD (.e rfl)) ?_
  refine AL.nil ?_
  refine AW.seqR ?_
  refine AL.s rfl (op_buildSlice sl22 (.cons (.r rfl) rfl (by simp [absD, absC, D.cells, D.one]) (.cons (.r rfl) rfl (by simp [absD, absC, D.cells, D.one]) (.cons (.r rfl) rfl (by simp [absD, absC, D.cells, D.one]) (.cons (.r rfl) rfl (by simp [absD, absC, D.cells, D.one]) (.cons (.r rfl) rfl (by simp [absD, absC, D.cells, D.one]) (.cons (.r rfl) rfl (by simp [absD, absC, D.cells, D.one]) (.cons (.r rfl) rfl (by simp [absD, absC, D.cells, D.one]) (.cons (.r rfl) rfl (by simp [absD, absC, D.cells, D.one]) (.cons (.r rfl) rfl (by simp [absD, absC, D.cells, D.one]) .nil))))))))) rfl (by decide)) ?_
  refine AL.s rfl (op_assignE (.e rfl)) ?_
  refine AL.nil ?_
  refine AW.seq ?_
  refine AW.seqR ?_
  refine AL.s rfl (op_moveD (.e rfl)) ?_
  refine AL.s rfl (op_lss (.r rfl) (.r rfl)) ?_
  refine AL.s rfl (op_moveD (.e rfl)) ?_
  refine AL.sF rfl rfl rfl rfl (fun g => op_moveD (.e rfl)) ?_
  refine AL.sF rfl rfl rfl rfl (fun g => op_gtr (.we (nt g) rfl rfl) (.r rfl)) ?_
  refine AL.s rfl (op_or (.r rfl) rfl (fun h => (.we (nt h) rfl rfl))) ?_
  refine AL.nil ?_
  refine AW.cond (b := _) rfl (fun hc1 => ?_) (fun hc1 => ?_)
  · skip
    exact absurd hc1 (by decide)
  · skip
    refine AW.skip ?_
    refine nq ?_
    refine AW.seqR ?_
    refine AL.s rfl (op_moveE (.e rfl)) ?_
    refine AL.s rfl (op_moveD (.e rfl)) ?_
    refine AL.s rfl (op_sub (.r rfl) (.r rfl) (w64 (by decide) (by decide))) ?_
    refine AL.s rfl (op_indexAddr (.r rfl) (.r rfl) (show ((2 : Int) - 1) = ((1 : Nat) : Int) from rfl) rfl sl22 rfl) ?_
    refine AL.s rfl (op_load_vp1 (.e rfl) rfl sc9) ?_
    refine AL.s rfl (op_assignD (.e rfl)) ?_
    refine AL.nil ?_
    refine AW.ret ?_
    refine EndQ.d (.tmp (.e rfl) .nil) rfl ?_
    rfl

/-- bookplate/bookplateref55.StateName -/
theorem rstateName_3  : Fn Try.prog 24 [.int .i64 3] (.str [115, 104, 105, 112, 112, 101, 100]) := by
  refine Fn.of_AW (fnn := Try.f24) Try.func24 rfl (Nat.le_of_ble_eq_true rfl) (fun g0 w0 hw0 => ?_)
  refine AW.seqR ?_
  refine AL.s rfl (op_assignD (.e rfl)) ?_
  refine AL.nil ?_
  refine AW.seqR ?_
  refine AL.s rfl (op_buildSlice sl22 (.cons (.r rfl) rfl (by simp [absD, absC, D.cells, D.one]) (.cons (.r rfl) rfl (by simp [absD, absC, D.cells, D.one]) (.cons (.r rfl) rfl (by simp [absD, absC, D.cells, D.one]) (.cons (.r rfl) rfl (by simp [absD, absC, D.cells, D.one]) (.cons (.r rfl) rfl (by simp [absD, absC, D.cells, D.one]) (.cons (.r rfl) rfl (by simp [absD, absC, D.cells, D.one]) (.cons (.r rfl) rfl (by simp [absD, absC, D.cells, D.one]) (.cons (.r rfl) rfl (by simp [absD, absC, D.cells, D.one]) (.cons (.r rfl) rfl (by simp [absD, absC, D.cells, D.one]) .nil))))))))) rfl (by decide)) ?_
  refine AL.s rfl (op_assignE (.e rfl)) ?_
  refine AL.nil ?_
  refine AW.seq ?_
  refine AW.seqR ?_
  refine AL.s rfl (op_moveD (.e rfl)) ?_
  refine AL.s rfl (op_lss (.r rfl) (.r rfl)) ?_
  refine AL.s rfl (op_moveD (.e rfl)) ?_
  refine AL.sF rfl rfl rfl rfl (fun g => op_moveD (.e rfl)) ?_
  refine AL.sF rfl rfl rfl rfl (fun g => op_gtr (.we (nt g) rfl rfl) (.r rfl)) ?_
  refine AL.s rfl (op_or (.r rfl) rfl (fun h => (.we (nt h) rfl rfl))) ?_
  refine AL.nil ?_
  refine AW.cond (b := _) rfl (fun hc1 => ?_) (fun hc1 => ?_)
  · skip
    exact absurd hc1 (by decide)
  · skip
    refine AW.skip ?_
    refine nq ?_
    refine AW.seqR ?_
    refine AL.s rfl (op_moveE (.e rfl)) ?_
    refine AL.s rfl (op_moveD (.e rfl)) ?_
    refine AL.s rfl (op_sub (.r rfl) (.r rfl) (w64 (by decide) (by decide))) ?_
    refine AL.s rfl (op_indexAddr (.r rfl) (.r rfl) (show ((3 : Int) - 1) = ((2 : Nat) : Int) from rfl) rfl sl22 rfl) ?_
    refine AL.s rfl (op_load_vp1 (.e rfl) rfl sc9) ?_
    refine AL.s rfl (op_assignD (.e rfl)) ?_
    refine AL.nil ?_
    refine AW.ret ?_
    refine EndQ.d (.tmp (.e rfl) .nil) rfl ?_
    rfl

/-- bookplate/bookplateref55.StateName -/
theorem rstateName_4  : Fn Try.prog 24 [.int .i64 4] (.str [114, 101, 99, 101, 105, 118, 101, 100]) := by
  refine Fn.of_AW (fnn := Try.f24) Try.func24 rfl (Nat.le_of_ble_eq_true rfl) (fun g0 w0 hw0 => ?_)
  refine AW.seqR ?_
  refine AL.s rfl (op_assignD (.e rfl)) ?_
  refine AL.nil ?_
  refine AW.seqR ?_
  refine AL.s rfl (op_buildSlice sl22 (.cons (.r rfl) rfl (by simp [absD, absC, D.cells, D.one]) (.cons (.r rfl) rfl (by simp [absD, absC, D.cells, D.one]) (.cons (.r rfl) rfl (by simp [absD, absC, D.cells, D.one]) (.cons (.r rfl) rfl (by simp [absD, absC, D.cells, D.one]) (.cons (.r rfl) rfl (by simp [absD, absC, D.cells, D.one]) (.cons (.r rfl) rfl (by simp [absD, absC, D.cells, D.one]) (.cons (.r rfl) rfl (by simp [absD, absC, D.cells, D.one]) (.cons (.r rfl) rfl (by simp [absD, absC, D.cells, D.one]) (.cons (.r rfl) rfl (by simp [absD, absC, D.cells, D.one]) .nil))))))))) rfl (by decide)) ?_
  refine AL.s rfl (op_assignE (.e rfl)) ?_
  refine AL.nil ?_
  refine AW.seq ?_
  refine AW.seqR ?_
  refine AL.s rfl (op_moveD (.e rfl)) ?_
  refine AL.s rfl (op_lss (.r rfl) (.r rfl)) ?_
  refine AL.s rfl (op_moveD (.e rfl)) ?_
  refine AL.sF rfl rfl rfl rfl (fun g => op_moveD (.e rfl)) ?_
  refine AL.sF rfl rfl rfl rfl (fun g => op_gtr (.we (nt g) rfl rfl) (.r rfl)) ?_
  refine AL.s rfl (op_or (.r rfl) rfl (fun h => (.we (nt h) rfl rfl))) ?_
  refine AL.nil ?_
  refine AW.cond (b := _) rfl (fun hc1 => ?_) (fun hc1 => ?_)
  · skip
    exact absurd hc1 (by decide)
  · skip
    refine AW.skip ?_
    refine nq ?_
    refine AW.seqR ?_
    refine AL.s rfl (op_moveE (.e rfl)) ?_
    refine AL.s rfl (op_moveD (.e rfl)) ?_
    refine AL.s rfl (op_sub (.r rfl) (.r rfl) (w64 (by decide) (by decide))) ?_
    refine AL.s rfl (op_indexAddr (.r rfl) (.r rfl) (show ((4 : Int) - 1) = ((3 : Nat) : Int) from rfl) rfl sl22 rfl) ?_
    refine AL.s rfl (op_load_vp1 (.e rfl) rfl sc9) ?_
    refine AL.s rfl (op_assignD (.e rfl)) ?_
    refine AL.nil ?_
    refine AW.ret ?_
    refine EndQ.d (.tmp (.e rfl) .nil) rfl ?_
    rfl

/-- bookplate/bookplateref55.StateName -/
theorem rstateName_5  : Fn Try.prog 24 [.int .i64 5] (.str [114, 101, 99, 97, 108, 108, 101, 100]) := by
  refine Fn.of_AW (fnn := Try.f24) Try.func24 rfl (Nat.le_of_ble_eq_true rfl) (fun g0 w0 hw0 => ?_)
  refine AW.seqR ?_
  refine AL.s rfl (op_assignD (.e rfl)) ?_
  refine AL.nil ?_
  refine AW.seqR ?_
  refine AL.s rfl (op_buildSlice sl22 (.cons (.r rfl) rfl (by simp [absD, absC, D.cells, D.one]) (.cons (.r rfl) rfl (by simp [absD, absC, D.cells, D.one]) (.cons (.r rfl) rfl (by simp [absD, absC, D.cells, D.one]) (.cons (.r rfl) rfl (by simp [absD, absC, D.cells, D.one]) (.cons (.r rfl) rfl (by simp [absD, absC, D.cells, D.one]) (.cons (.r rfl) rfl (by simp [absD, absC, D.cells, D.one]) (.cons (.r rfl) rfl (by simp [absD, absC, D.cells, D.one]) (.cons (.r rfl) rfl (by simp [absD, absC, D.cells, D.one]) (.cons (.r rfl) rfl (by simp [absD, absC, D.cells, D.one]) .nil))))))))) rfl (by decide)) ?_
  refine AL.s rfl (op_assignE (.e rfl)) ?_
  refine AL.nil ?_
  refine AW.seq ?_
  refine AW.seqR ?_
  refine AL.s rfl (op_moveD (.e rfl)) ?_
  refine AL.s rfl (op_lss (.r rfl) (.r rfl)) ?_
  refine AL.s rfl (op_moveD (.e rfl)) ?_
  refine AL.sF rfl rfl rfl rfl (fun g => op_moveD (.e rfl)) ?_
  refine AL.sF rfl rfl rfl rfl (fun g => op_gtr (.we (nt g) rfl rfl) (.r rfl)) ?_
  refine AL.s rfl (op_or (.r rfl) rfl (fun h => (.we (nt h) rfl rfl))) ?_
  refine AL.nil ?_
  refine AW.cond (b := _) rfl (fun hc1 => ?_) (fun hc1 => ?_)
  · skip
    exact absurd hc1 (by decide)
  · skip
    refine AW.skip ?_
    refine nq ?_
    refine AW.seqR ?_
    refine AL.s rfl (op_moveE (.e rfl)) ?_
    refine AL.s rfl (op_moveD (.e rfl)) ?_
    refine AL.s rfl (op_sub (.r rfl) (.r rfl) (w64 (by decide) (by decide))) ?_
    refine AL.s rfl (op_indexAddr (.r rfl) (.r rfl) (show ((5 : Int) - 1) = ((4 : Nat) : Int) from rfl) rfl sl22 rfl) ?_
    refine AL.s rfl (op_load_vp1 (.e rfl) rfl sc9) ?_
    refine AL.s rfl (op_assignD (.e rfl)) ?_
    refine AL.nil ?_
    refine AW.ret ?_
    refine EndQ.d (.tmp (.e rfl) .nil) rfl ?_
    rfl

/-- bookplate/bookplateref55.StateName -/
theorem rstateName_6  : Fn Try.prog 24 [.int .i64 6] (.str [114, 101, 116, 117, 114, 110, 105, 110, 103]) := by
  refine Fn.of_AW (fnn := Try.f24) Try.func24 rfl (Nat.le_of_ble_eq_true rfl) (fun g0 w0 hw0 => ?_)
  refine AW.seqR ?_
  refine AL.s rfl (op_assignD (.e rfl)) ?_
  refine AL.nil ?_
  refine AW.seqR ?_
  refine AL.s rfl (op_buildSlice sl22 (.cons (.r rfl) rfl (by simp [absD, absC, D.cells, D.one]) (.cons (.r rfl) rfl (by simp [absD, absC, D.cells, D.one]) (.cons (.r rfl) rfl (by simp [absD, absC, D.cells, D.one]) (.cons (.r rfl) rfl (by simp [absD, absC, D.cells, D.one]) (.cons (.r rfl) rfl (by simp [absD, absC, D.cells, D.one]) (.cons (.r rfl) rfl (by simp [absD, absC, D.cells, D.one]) (.cons (.r rfl) rfl (by simp [absD, absC, D.cells, D.one]) (.cons (.r rfl) rfl (by simp [absD, absC, D.cells, D.one]) (.cons (.r rfl) rfl (by simp [absD, absC, D.cells, D.one]) .nil))))))))) rfl (by decide)) ?_
  refine AL.s rfl (op_assignE (.e rfl)) ?_
  refine AL.nil ?_
  refine AW.seq ?_
  refine AW.seqR ?_
  refine AL.s rfl (op_moveD (.e rfl)) ?_
  refine AL.s rfl (op_lss (.r rfl) (.r rfl)) ?_
  refine AL.s rfl (op_moveD (.e rfl)) ?_
  refine AL.sF rfl rfl rfl rfl (fun g => op_moveD (.e rfl)) ?_
  refine AL.sF rfl rfl rfl rfl (fun g => op_gtr (.we (nt g) rfl rfl) (.r rfl)) ?_
  refine AL.s rfl (op_or (.r rfl) rfl (fun h => (.we (nt h) rfl rfl))) ?_
  refine AL.nil ?_
  refine AW.cond (b := _) rfl (fun hc1 => ?_) (fun hc1 => ?_)
  · skip
    exact absurd hc1 (by decide)
  · skip
    refine AW.skip ?_
    refine nq ?_
    refine AW.seqR ?_
    refine AL.s rfl (op_moveE (.e rfl)) ?_
    refine AL.s rfl (op_moveD (.e rfl)) ?_
    refine AL.s rfl (op_sub (.r rfl) (.r rfl) (w64 (by decide) (by decide))) ?_
    refine AL.s rfl (op_indexAddr (.r rfl) (.r rfl) (show ((6 : Int) - 1) = ((5 : Nat) : Int) from rfl) rfl sl22 rfl) ?_
    refine AL.s rfl (op_load_vp1 (.e rfl) rfl sc9) ?_
    refine AL.s rfl (op_assignD (.e rfl)) ?_
    refine AL.nil ?_
    refine AW.ret ?_
    refine EndQ.d (.tmp (.e rfl) .nil) rfl ?_
    rfl

/-- bookplate/bookplateref55.StateName -/
theorem rstateName_7  : Fn Try.prog 24 [.int .i64 7] (.str [99, 108, 111, 115, 101, 100]) := by
  refine Fn.of_AW (fnn := Try.f24) Try.func24 rfl (Nat.le_of_ble_eq_true rfl) (fun g0 w0 hw0 => ?_)
  refine AW.seqR ?_
  refine AL.s rfl (op_assignD (.e rfl)) ?_
  refine AL.nil ?_
  refine AW.seqR ?_
  refine AL.s rfl (op_buildSlice sl22 (.cons (.r rfl) rfl (by simp [absD, absC, D.cells, D.one]) (.cons (.r rfl) rfl (by simp [absD, absC, D.cells, D.one]) (.cons (.r rfl) rfl (by simp [absD, absC, D.cells, D.one]) (.cons (.r rfl) rfl (by simp [absD, absC, D.cells, D.one]) (.cons (.r rfl) rfl (by simp [absD, absC, D.cells, D.one]) (.cons (.r rfl) rfl (by simp [absD, absC, D.cells, D.one]) (.cons (.r rfl) rfl (by simp [absD, absC, D.cells, D.one]) (.cons (.r rfl) rfl (by simp [absD, absC, D.cells, D.one]) (.cons (.r rfl) rfl (by simp [absD, absC, D.cells, D.one]) .nil))))))))) rfl (by decide)) ?_
  refine AL.s rfl (op_assignE (.e rfl)) ?_
  refine AL.nil ?_
  refine AW.seq ?_
  refine AW.seqR ?_
  refine AL.s rfl (op_moveD (.e rfl)) ?_
  refine AL.s rfl (op_lss (.r rfl) (.r rfl)) ?_
  refine AL.s rfl (op_moveD (.e rfl)) ?_
  refine AL.sF rfl rfl rfl rfl (fun g => op_moveD (.e rfl)) ?_
  refine AL.sF rfl rfl rfl rfl (fun g => op_gtr (.we (nt g) rfl rfl) (.r rfl)) ?_
  refine AL.s rfl (op_or (.r rfl) rfl (fun h => (.we (nt h) rfl rfl))) ?_
  refine AL.nil ?_
  refine AW.cond (b := _) rfl (fun hc1 => ?_) (fun hc1 => ?_)
  · skip
    exact absurd hc1 (by decide)
  · skip
    refine AW.skip ?_
    refine nq ?_
    refine AW.seqR ?_
    refine AL.s rfl (op_moveE (.e rfl)) ?_
    refine AL.s rfl (op_moveD (.e rfl)) ?_
    refine AL.s rfl (op_sub (.r rfl) (.r rfl) (w64 (by decide) (by decide))) ?_
    refine AL.s rfl (op_indexAddr (.r rfl) (.r rfl) (show ((7 : Int) - 1) = ((6 : Nat) : Int) from rfl) rfl sl22 rfl) ?_
    refine AL.s rfl (op_load_vp1 (.e rfl) rfl sc9) ?_
    refine AL.s rfl (op_assignD (.e rfl)) ?_
    refine AL.nil ?_
    refine AW.ret ?_
    refine EndQ.d (.tmp (.e rfl) .nil) rfl ?_
    rfl

/-- bookplate/bookplateref55.StateName -/
theorem rstateName_8  : Fn Try.prog 24 [.int .i64 8] (.str [99, 97, 110, 99, 101, 108, 108, 101, 100]) := by
  refine Fn.of_AW (fnn := Try.f24) Try.func24 rfl (Nat.le_of_ble_eq_true rfl) (fun g0 w0 hw0 => ?_)
  refine AW.seqR ?_
  refine AL.s rfl (op_assignD (.e rfl)) ?_
  refine AL.nil ?_
  refine AW.seqR ?_
  refine AL.s rfl (op_buildSlice sl22 (.cons (.r rfl) rfl (by simp [absD, absC, D.cells, D.one]) (.cons (.r rfl) rfl (by simp [absD, absC, D.cells, D.one]) (.cons (.r rfl) rfl (by simp [absD, absC, D.cells, D.one]) (.cons (.r rfl) rfl (by simp [absD, absC, D.cells, D.one]) (.cons (.r rfl) rfl (by simp [absD, absC, D.cells, D.one]) (.cons (.r rfl) rfl (by simp [absD, absC, D.cells, D.one]) (.cons (.r rfl) rfl (by simp [absD, absC, D.cells, D.one]) (.cons (.r rfl) rfl (by simp [absD, absC, D.cells, D.one]) (.cons (.r rfl) rfl (by simp [absD, absC, D.cells, D.one]) .nil))))))))) rfl (by decide)) ?_
  refine AL.s rfl (op_assignE (.e rfl)) ?_
  refine AL.nil ?_
  refine AW.seq ?_
  refine AW.seqR ?_
  refine AL.s rfl (op_moveD (.e rfl)) ?_
  refine AL.s rfl (op_lss (.r rfl) (.r rfl)) ?_
  refine AL.s rfl (op_moveD (.e rfl)) ?_
  refine AL.sF rfl rfl rfl rfl (fun g => op_moveD (.e rfl)) ?_
  refine AL.sF rfl rfl rfl rfl (fun g => op_gtr (.we (nt g) rfl rfl) (.r rfl)) ?_
  refine AL.s rfl (op_or (.r rfl) rfl (fun h => (.we (nt h) rfl rfl))) ?_
  refine AL.nil ?_
  refine AW.cond (b := _) rfl (fun hc1 => ?_) (fun hc1 => ?_)
  · skip
    exact absurd hc1 (by decide)
  · skip
    refine AW.skip ?_
    refine nq ?_
    refine AW.seqR ?_
    refine AL.s rfl (op_moveE (.e rfl)) ?_
    refine AL.s rfl (op_moveD (.e rfl)) ?_
    refine AL.s rfl (op_sub (.r rfl) (.r rfl) (w64 (by decide) (by decide))) ?_
    refine AL.s rfl (op_indexAddr (.r rfl) (.r rfl) (show ((8 : Int) - 1) = ((7 : Nat) : Int) from rfl) rfl sl22 rfl) ?_
    refine AL.s rfl (op_load_vp1 (.e rfl) rfl sc9) ?_
    refine AL.s rfl (op_assignD (.e rfl)) ?_
    refine AL.nil ?_
    refine AW.ret ?_
    refine EndQ.d (.tmp (.e rfl) .nil) rfl ?_
    rfl

/-- bookplate/bookplateref55.StateName -/
theorem rstateName_9  : Fn Try.prog 24 [.int .i64 9] (.str [117, 110, 102, 105, 108, 108, 101, 100]) := by
  refine Fn.of_AW (fnn := Try.f24) Try.func24 rfl (Nat.le_of_ble_eq_true rfl) (fun g0 w0 hw0 => ?_)
  refine AW.seqR ?_
  refine AL.s rfl (op_assignD (.e rfl)) ?_
  refine AL.nil ?_
  refine AW.seqR ?_
  refine AL.s rfl (op_buildSlice sl22 (.cons (.r rfl) rfl (by simp [absD, absC, D.cells, D.one]) (.cons (.r rfl) rfl (by simp [absD, absC, D.cells, D.one]) (.cons (.r rfl) rfl (by simp [absD, absC, D.cells, D.one]) (.cons (.r rfl) rfl (by simp [absD, absC, D.cells, D.one]) (.cons (.r rfl) rfl (by simp [absD, absC, D.cells, D.one]) (.cons (.r rfl) rfl (by simp [absD, absC, D.cells, D.one]) (.cons (.r rfl) rfl (by simp [absD, absC, D.cells, D.one]) (.cons (.r rfl) rfl (by simp [absD, absC, D.cells, D.one]) (.cons (.r rfl) rfl (by simp [absD, absC, D.cells, D.one]) .nil))))))))) rfl (by decide)) ?_
  refine AL.s rfl (op_assignE (.e rfl)) ?_
  refine AL.nil ?_
  refine AW.seq ?_
  refine AW.seqR ?_
  refine AL.s rfl (op_moveD (.e rfl)) ?_
  refine AL.s rfl (op_lss (.r rfl) (.r rfl)) ?_
  refine AL.s rfl (op_moveD (.e rfl)) ?_
  refine AL.sF rfl rfl rfl rfl (fun g => op_moveD (.e rfl)) ?_
  refine AL.sF rfl rfl rfl rfl (fun g => op_gtr (.we (nt g) rfl rfl) (.r rfl)) ?_
  refine AL.s rfl (op_or (.r rfl) rfl (fun h => (.we (nt h) rfl rfl))) ?_
  refine AL.nil ?_
  refine AW.cond (b := _) rfl (fun hc1 => ?_) (fun hc1 => ?_)
  · skip
    exact absurd hc1 (by decide)
  · skip
    refine AW.skip ?_
    refine nq ?_
    refine AW.seqR ?_
    refine AL.s rfl (op_moveE (.e rfl)) ?_
    refine AL.s rfl (op_moveD (.e rfl)) ?_
    refine AL.s rfl (op_sub (.r rfl) (.r rfl) (w64 (by decide) (by decide))) ?_
    refine AL.s rfl (op_indexAddr (.r rfl) (.r rfl) (show ((9 : Int) - 1) = ((8 : Nat) : Int) from rfl) rfl sl22 rfl) ?_
    refine AL.s rfl (op_load_vp1 (.e rfl) rfl sc9) ?_
    refine AL.s rfl (op_assignD (.e rfl)) ?_
    refine AL.nil ?_
    refine AW.ret ?_
    refine EndQ.d (.tmp (.e rfl) .nil) rfl ?_
    rfl

/-- bookplate/bookplateref55.StateName -/
theorem rstateName_out (n : Int) (h : inI n 1 9 = false) : Fn Try.prog 24 [.int .i64 n] (.str [117, 110, 107, 110, 111, 119, 110]) := by
  refine Fn.of_AW (fnn := Try.f24) Try.func24 rfl (Nat.le_of_ble_eq_true rfl) (fun g0 w0 hw0 => ?_)
  refine AW.seqR ?_
  refine AL.s rfl (op_assignD (.e rfl)) ?_
  refine AL.nil ?_
  refine AW.seqR ?_
  refine AL.s rfl (op_buildSlice sl22 (.cons (.r rfl) rfl (by simp [absD, absC, D.cells, D.one]) (.cons (.r rfl) rfl (by simp [absD, absC, D.cells, D.one]) (.cons (.r rfl) rfl (by simp [absD, absC, D.cells, D.one]) (.cons (.r rfl) rfl (by simp [absD, absC, D.cells, D.one]) (.cons (.r rfl) rfl (by simp [absD, absC, D.cells, D.one]) (.cons (.r rfl) rfl (by simp [absD, absC, D.cells, D.one]) (.cons (.r rfl) rfl (by simp [absD, absC, D.cells, D.one]) (.cons (.r rfl) rfl (by simp [absD, absC, D.cells, D.one]) (.cons (.r rfl) rfl (by simp [absD, absC, D.cells, D.one]) .nil))))))))) rfl (by decide)) ?_
  refine AL.s rfl (op_assignE (.e rfl)) ?_
  refine AL.nil ?_
  refine AW.seq ?_
  refine AW.seqR ?_
  refine AL.s rfl (op_moveD (.e rfl)) ?_
  refine AL.s rfl (op_lss (.r rfl) (.r rfl)) ?_
  refine AL.s rfl (op_moveD (.e rfl)) ?_
  refine AL.sF rfl rfl rfl rfl (fun g => op_moveD (.e rfl)) ?_
  refine AL.sF rfl rfl rfl rfl (fun g => op_gtr (.we (nt g) rfl rfl) (.r rfl)) ?_
  refine AL.s rfl (op_or (.r rfl) rfl (fun h => (.we (nt h) rfl rfl))) ?_
  refine AL.nil ?_
  refine AW.cond (b := _) rfl (fun hc1 => ?_) (fun hc1 => ?_)
  · skip
    refine AW.seqR ?_
    refine AL.s rfl (op_assignD (.e rfl)) ?_
    refine AL.nil ?_
    refine AW.ret ?_
    refine tq_ret ?_
    refine EndQ.d (.tmp (.e rfl) .nil) rfl ?_
    rfl
  · skip
    rw [inI_eq, h] at hc1; cases hc1

theorem rstateName_ok (n : Int) : Fn Try.prog 24 [.int .i64 n] (.str (stateNameL n)) := by
  cases h : inI n 1 9 with
  | false =>
    have : stateNameL n = [117, 110, 107, 110, 111, 119, 110] := by
      simp only [inI, Bool.and_eq_false_imp, decide_eq_true_eq, decide_eq_false_iff_not] at h
      unfold stateNameL
      repeat rw [if_neg (by omega)]
    rw [this]; exact rstateName_out n h
  | true =>
    have h' : n = 1 ∨ n = 2 ∨ n = 3 ∨ n = 4 ∨ n = 5 ∨ n = 6 ∨ n = 7 ∨ n = 8 ∨ n = 9 := by simp only [inI, Bool.and_eq_true, decide_eq_true_eq] at h; omega
    rcases h' with rfl | rfl | rfl | rfl | rfl | rfl | rfl | rfl | rfl
    · exact rstateName_1
    · exact rstateName_2
    · exact rstateName_3
    · exact rstateName_4
    · exact rstateName_5
    · exact rstateName_6
    · exact rstateName_7
    · exact rstateName_8
    · exact rstateName_9


/-- bookplate/bookplateref55.KindName -/
theorem rkindName_1  : Fn Try.prog 26 [.int .i64 1] (.str [114, 111, 117, 116, 101]) := by
  refine Fn.of_AW (fnn := Try.f26) Try.func26 rfl (Nat.le_of_ble_eq_true rfl) (fun g0 w0 hw0 => ?_)
  refine AW.seqR ?_
  refine AL.s rfl (op_assignD (.e rfl)) ?_
  refine AL.nil ?_
  refine AW.seqR ?_
  refine AL.s rfl (op_buildSlice sl22 (.cons (.r rfl) rfl (by simp [absD, absC, D.cells, D.one]) (.cons (.r rfl) rfl (by simp [absD, absC, D.cells, D.one]) (.cons (.r rfl) rfl (by simp [absD, absC, D.cells, D.one]) (.cons (.r rfl) rfl (by simp [absD, absC, D.cells, D.one]) (.cons (.r rfl) rfl (by simp [absD, absC, D.cells, D.one]) (.cons (.r rfl) rfl (by simp [absD, absC, D.cells, D.one]) (.cons (.r rfl) rfl (by simp [absD, absC, D.cells, D.one]) (.cons (.r rfl) rfl (by simp [absD, absC, D.cells, D.one]) (.cons (.r rfl) rfl (by simp [absD, absC, D.cells, D.one]) (.cons (.r rfl) rfl (by simp [absD, absC, D.cells, D.one]) .nil)))))))))) rfl (by decide)) ?_
  refine AL.s rfl (op_assignE (.e rfl)) ?_
  refine AL.nil ?_
  refine AW.seq ?_
  refine AW.seqR ?_
  refine AL.s rfl (op_moveD (.e rfl)) ?_
  refine AL.s rfl (op_lss (.r rfl) (.r rfl)) ?_
  refine AL.s rfl (op_moveD (.e rfl)) ?_
  refine AL.sF rfl rfl rfl rfl (fun g => op_moveD (.e rfl)) ?_
  refine AL.sF rfl rfl rfl rfl (fun g => op_gtr (.we (nt g) rfl rfl) (.r rfl)) ?_
  refine AL.s rfl (op_or (.r rfl) rfl (fun h => (.we (nt h) rfl rfl))) ?_
  refine AL.nil ?_
  refine AW.cond (b := _) rfl (fun hc1 => ?_) (fun hc1 => ?_)
  · skip
    exact absurd hc1 (by decide)
  · skip
    refine AW.skip ?_
    refine nq ?_
    refine AW.seqR ?_
    refine AL.s rfl (op_moveE (.e rfl)) ?_
    refine AL.s rfl (op_moveD (.e rfl)) ?_
    refine AL.s rfl (op_sub (.r rfl) (.r rfl) (w64 (by decide) (by decide))) ?_
    refine AL.s rfl (op_indexAddr (.r rfl) (.r rfl) (show ((1 : Int) - 1) = ((0 : Nat) : Int) from rfl) rfl sl22 rfl) ?_
    refine AL.s rfl (op_load_vp1 (.e rfl) rfl sc9) ?_
    refine AL.s rfl (op_assignD (.e rfl)) ?_
    refine AL.nil ?_
    refine AW.ret ?_
    refine EndQ.d (.tmp (.e rfl) .nil) rfl ?_
    rfl

/-- bookplate/bookplateref55.KindName -/
theorem rkindName_2  : Fn Try.prog 26 [.int .i64 2] (.str [114, 101, 102, 117, 115, 101]) := by
  refine Fn.of_AW (fnn := Try.f26) Try.func26 rfl (Nat.le_of_ble_eq_true rfl) (fun g0 w0 hw0 => ?_)
  refine AW.seqR ?_
  refine AL.s rfl (op_assignD (.e rfl)) ?_
  refine AL.nil ?_
  refine AW.seqR ?_
  refine AL.s rfl (op_buildSlice sl22 (.cons (.r rfl) rfl (by simp [absD, absC, D.cells, D.one]) (.cons (.r rfl) rfl (by simp [absD, absC, D.cells, D.one]) (.cons (.r rfl) rfl (by simp [absD, absC, D.cells, D.one]) (.cons (.r rfl) rfl (by simp [absD, absC, D.cells, D.one]) (.cons (.r rfl) rfl (by simp [absD, absC, D.cells, D.one]) (.cons (.r rfl) rfl (by simp [absD, absC, D.cells, D.one]) (.cons (.r rfl) rfl (by simp [absD, absC, D.cells, D.one]) (.cons (.r rfl) rfl (by simp [absD, absC, D.cells, D.one]) (.cons (.r rfl) rfl (by simp [absD, absC, D.cells, D.one]) (.cons (.r rfl) rfl (by simp [absD, absC, D.cells, D.one]) .nil)))))))))) rfl (by decide)) ?_
  refine AL.s rfl (op_assignE (.e rfl)) ?_
  refine AL.nil ?_
  refine AW.seq ?_
  refine AW.seqR ?_
  refine AL.s rfl (op_moveD (.e rfl)) ?_
  refine AL.s rfl (op_lss (.r rfl) (.r rfl)) ?_
  refine AL.s rfl (op_moveD (.e rfl)) ?_
  refine AL.sF rfl rfl rfl rfl (fun g => op_moveD (.e rfl)) ?_
  refine AL.sF rfl rfl rfl rfl (fun g => op_gtr (.we (nt g) rfl rfl) (.r rfl)) ?_
  refine AL.s rfl (op_or (.r rfl) rfl (fun h => (.we (nt h) rfl rfl))) ?_
  refine AL.nil ?_
  refine AW.cond (b := _) rfl (fun hc1 => ?_) (fun hc1 => ?_)
  · skip
    exact absurd hc1 (by decide)
  · skip
    refine AW.skip ?_
    refine nq ?_
    refine AW.seqR ?_
    refine AL.s rfl (op_moveE (.e rfl)) ?_
    refine AL.s rfl (op_moveD (.e rfl)) ?_
    refine AL.s rfl (op_sub (.r rfl) (.r rfl) (w64 (by decide) (by decide))) ?_
    refine AL.s rfl (op_indexAddr (.r rfl) (.r rfl) (show ((2 : Int) - 1) = ((1 : Nat) : Int) from rfl) rfl sl22 rfl) ?_
    refine AL.s rfl (op_load_vp1 (.e rfl) rfl sc9) ?_
    refine AL.s rfl (op_assignD (.e rfl)) ?_
    refine AL.nil ?_
    refine AW.ret ?_
    refine EndQ.d (.tmp (.e rfl) .nil) rfl ?_
    rfl

/-- bookplate/bookplateref55.KindName -/
theorem rkindName_3  : Fn Try.prog 26 [.int .i64 3] (.str [115, 104, 105, 112]) := by
  refine Fn.of_AW (fnn := Try.f26) Try.func26 rfl (Nat.le_of_ble_eq_true rfl) (fun g0 w0 hw0 => ?_)
  refine AW.seqR ?_
  refine AL.s rfl (op_assignD (.e rfl)) ?_
  refine AL.nil ?_
  refine AW.seqR ?_
  refine AL.s rfl (op_buildSlice sl22 (.cons (.r rfl) rfl (by simp [absD, absC, D.cells, D.one]) (.cons (.r rfl) rfl (by simp [absD, absC, D.cells, D.one]) (.cons (.r rfl) rfl (by simp [absD, absC, D.cells, D.one]) (.cons (.r rfl) rfl (by simp [absD, absC, D.cells, D.one]) (.cons (.r rfl) rfl (by simp [absD, absC, D.cells, D.one]) (.cons (.r rfl) rfl (by simp [absD, absC, D.cells, D.one]) (.cons (.r rfl) rfl (by simp [absD, absC, D.cells, D.one]) (.cons (.r rfl) rfl (by simp [absD, absC, D.cells, D.one]) (.cons (.r rfl) rfl (by simp [absD, absC, D.cells, D.one]) (.cons (.r rfl) rfl (by simp [absD, absC, D.cells, D.one]) .nil)))))))))) rfl (by decide)) ?_
  refine AL.s rfl (op_assignE (.e rfl)) ?_
  refine AL.nil ?_
  refine AW.seq ?_
  refine AW.seqR ?_
  refine AL.s rfl (op_moveD (.e rfl)) ?_
  refine AL.s rfl (op_lss (.r rfl) (.r rfl)) ?_
  refine AL.s rfl (op_moveD (.e rfl)) ?_
  refine AL.sF rfl rfl rfl rfl (fun g => op_moveD (.e rfl)) ?_
  refine AL.sF rfl rfl rfl rfl (fun g => op_gtr (.we (nt g) rfl rfl) (.r rfl)) ?_
  refine AL.s rfl (op_or (.r rfl) rfl (fun h => (.we (nt h) rfl rfl))) ?_
  refine AL.nil ?_
  refine AW.cond (b := _) rfl (fun hc1 => ?_) (fun hc1 => ?_)
  · skip
    exact absurd hc1 (by decide)
  · skip
    refine AW.skip ?_
    refine nq ?_
    refine AW.seqR ?_
    refine AL.s rfl (op_moveE (.e rfl)) ?_
    refine AL.s rfl (op_moveD (.e rfl)) ?_
    refine AL.s rfl (op_sub (.r rfl) (.r rfl) (w64 (by decide) (by decide))) ?_
    refine AL.s rfl (op_indexAddr (.r rfl) (.r rfl) (show ((3 : Int) - 1) = ((2 : Nat) : Int) from rfl) rfl sl22 rfl) ?_
    refine AL.s rfl (op_load_vp1 (.e rfl) rfl sc9) ?_
    refine AL.s rfl (op_assignD (.e rfl)) ?_
    refine AL.nil ?_
    refine AW.ret ?_
    refine EndQ.d (.tmp (.e rfl) .nil) rfl ?_
    rfl

/-- bookplate/bookplateref55.KindName -/
theorem rkindName_4  : Fn Try.prog 26 [.int .i64 4] (.str [114, 101, 99, 101, 105, 118, 101]) := by
  refine Fn.of_AW (fnn := Try.f26) Try.func26 rfl (Nat.le_of_ble_eq_true rfl) (fun g0 w0 hw0 => ?_)
  refine AW.seqR ?_
  refine AL.s rfl (op_assignD (.e rfl)) ?_
  refine AL.nil ?_
  refine AW.seqR ?_
  refine AL.s rfl (op_buildSlice sl22 (.cons (.r rfl) rfl (by simp [absD, absC, D.cells, D.one]) (.cons (.r rfl) rfl (by simp [absD, absC, D.cells, D.one]) (.cons (.r rfl) rfl (by simp [absD, absC, D.cells, D.one]) (.cons (.r rfl) rfl (by simp [absD, absC, D.cells, D.one]) (.cons (.r rfl) rfl (by simp [absD, absC, D.cells, D.one]) (.cons (.r rfl) rfl (by simp [absD, absC, D.cells, D.one]) (.cons (.r rfl) rfl (by simp [absD, absC, D.cells, D.one]) (.cons (.r rfl) rfl (by simp [absD, absC, D.cells, D.one]) (.cons (.r rfl) rfl (by simp [absD, absC, D.cells, D.one]) (.cons (.r rfl) rfl (by simp [absD, absC, D.cells, D.one]) .nil)))))))))) rfl (by decide)) ?_
  refine AL.s rfl (op_assignE (.e rfl)) ?_
  refine AL.nil ?_
  refine AW.seq ?_
  refine AW.seqR ?_
  refine AL.s rfl (op_moveD (.e rfl)) ?_
  refine AL.s rfl (op_lss (.r rfl) (.r rfl)) ?_
  refine AL.s rfl (op_moveD (.e rfl)) ?_
  refine AL.sF rfl rfl rfl rfl (fun g => op_moveD (.e rfl)) ?_
  refine AL.sF rfl rfl rfl rfl (fun g => op_gtr (.we (nt g) rfl rfl) (.r rfl)) ?_
  refine AL.s rfl (op_or (.r rfl) rfl (fun h => (.we (nt h) rfl rfl))) ?_
  refine AL.nil ?_
  refine AW.cond (b := _) rfl (fun hc1 => ?_) (fun hc1 => ?_)
  · skip
    exact absurd hc1 (by decide)
  · skip
    refine AW.skip ?_
    refine nq ?_
    refine AW.seqR ?_
    refine AL.s rfl (op_moveE (.e rfl)) ?_
    refine AL.s rfl (op_moveD (.e rfl)) ?_
    refine AL.s rfl (op_sub (.r rfl) (.r rfl) (w64 (by decide) (by decide))) ?_
    refine AL.s rfl (op_indexAddr (.r rfl) (.r rfl) (show ((4 : Int) - 1) = ((3 : Nat) : Int) from rfl) rfl sl22 rfl) ?_
    refine AL.s rfl (op_load_vp1 (.e rfl) rfl sc9) ?_
    refine AL.s rfl (op_assignD (.e rfl)) ?_
    refine AL.nil ?_
    refine AW.ret ?_
    refine EndQ.d (.tmp (.e rfl) .nil) rfl ?_
    rfl

/-- bookplate/bookplateref55.KindName -/
theorem rkindName_5  : Fn Try.prog 26 [.int .i64 5] (.str [114, 101, 110, 101, 119]) := by
  refine Fn.of_AW (fnn := Try.f26) Try.func26 rfl (Nat.le_of_ble_eq_true rfl) (fun g0 w0 hw0 => ?_)
  refine AW.seqR ?_
  refine AL.s rfl (op_assignD (.e rfl)) ?_
  refine AL.nil ?_
  refine AW.seqR ?_
  refine AL.s rfl (op_buildSlice sl22 (.cons (.r rfl) rfl (by simp [absD, absC, D.cells, D.one]) (.cons (.r rfl) rfl (by simp [absD, absC, D.cells, D.one]) (.cons (.r rfl) rfl (by simp [absD, absC, D.cells, D.one]) (.cons (.r rfl) rfl (by simp [absD, absC, D.cells, D.one]) (.cons (.r rfl) rfl (by simp [absD, absC, D.cells, D.one]) (.cons (.r rfl) rfl (by simp [absD, absC, D.cells, D.one]) (.cons (.r rfl) rfl (by simp [absD, absC, D.cells, D.one]) (.cons (.r rfl) rfl (by simp [absD, absC, D.cells, D.one]) (.cons (.r rfl) rfl (by simp [absD, absC, D.cells, D.one]) (.cons (.r rfl) rfl (by simp [absD, absC, D.cells, D.one]) .nil)))))))))) rfl (by decide)) ?_
  refine AL.s rfl (op_assignE (.e rfl)) ?_
  refine AL.nil ?_
  refine AW.seq ?_
  refine AW.seqR ?_
  refine AL.s rfl (op_moveD (.e rfl)) ?_
  refine AL.s rfl (op_lss (.r rfl) (.r rfl)) ?_
  refine AL.s rfl (op_moveD (.e rfl)) ?_
  refine AL.sF rfl rfl rfl rfl (fun g => op_moveD (.e rfl)) ?_
  refine AL.sF rfl rfl rfl rfl (fun g => op_gtr (.we (nt g) rfl rfl) (.r rfl)) ?_
  refine AL.s rfl (op_or (.r rfl) rfl (fun h => (.we (nt h) rfl rfl))) ?_
  refine AL.nil ?_
  refine AW.cond (b := _) rfl (fun hc1 => ?_) (fun hc1 => ?_)
  · skip
    exact absurd hc1 (by decide)
  · skip
    refine AW.skip ?_
    refine nq ?_
    refine AW.seqR ?_
    refine AL.s rfl (op_moveE (.e rfl)) ?_
    refine AL.s rfl (op_moveD (.e rfl)) ?_
    refine AL.s rfl (op_sub (.r rfl) (.r rfl) (w64 (by decide) (by decide))) ?_
    refine AL.s rfl (op_indexAddr (.r rfl) (.r rfl) (show ((5 : Int) - 1) = ((4 : Nat) : Int) from rfl) rfl sl22 rfl) ?_
    refine AL.s rfl (op_load_vp1 (.e rfl) rfl sc9) ?_
    refine AL.s rfl (op_assignD (.e rfl)) ?_
    refine AL.nil ?_
    refine AW.ret ?_
    refine EndQ.d (.tmp (.e rfl) .nil) rfl ?_
    rfl

/-- bookplate/bookplateref55.KindName -/
theorem rkindName_6  : Fn Try.prog 26 [.int .i64 6] (.str [114, 101, 99, 97, 108, 108]) := by
  refine Fn.of_AW (fnn := Try.f26) Try.func26 rfl (Nat.le_of_ble_eq_true rfl) (fun g0 w0 hw0 => ?_)
  refine AW.seqR ?_
  refine AL.s rfl (op_assignD (.e rfl)) ?_
  refine AL.nil ?_
  refine AW.seqR ?_
  refine AL.s rfl (op_buildSlice sl22 (.cons (.r rfl) rfl (by simp [absD, absC, D.cells, D.one]) (.cons (.r rfl) rfl (by simp [absD, absC, D.cells, D.one]) (.cons (.r rfl) rfl (by simp [absD, absC, D.cells, D.one]) (.cons (.r rfl) rfl (by simp [absD, absC, D.cells, D.one]) (.cons (.r rfl) rfl (by simp [absD, absC, D.cells, D.one]) (.cons (.r rfl) rfl (by simp [absD, absC, D.cells, D.one]) (.cons (.r rfl) rfl (by simp [absD, absC, D.cells, D.one]) (.cons (.r rfl) rfl (by simp [absD, absC, D.cells, D.one]) (.cons (.r rfl) rfl (by simp [absD, absC, D.cells, D.one]) (.cons (.r rfl) rfl (by simp [absD, absC, D.cells, D.one]) .nil)))))))))) rfl (by decide)) ?_
  refine AL.s rfl (op_assignE (.e rfl)) ?_
  refine AL.nil ?_
  refine AW.seq ?_
  refine AW.seqR ?_
  refine AL.s rfl (op_moveD (.e rfl)) ?_
  refine AL.s rfl (op_lss (.r rfl) (.r rfl)) ?_
  refine AL.s rfl (op_moveD (.e rfl)) ?_
  refine AL.sF rfl rfl rfl rfl (fun g => op_moveD (.e rfl)) ?_
  refine AL.sF rfl rfl rfl rfl (fun g => op_gtr (.we (nt g) rfl rfl) (.r rfl)) ?_
  refine AL.s rfl (op_or (.r rfl) rfl (fun h => (.we (nt h) rfl rfl))) ?_
  refine AL.nil ?_
  refine AW.cond (b := _) rfl (fun hc1 => ?_) (fun hc1 => ?_)
  · skip
    exact absurd hc1 (by decide)
  · skip
    refine AW.skip ?_
    refine nq ?_
    refine AW.seqR ?_
    refine AL.s rfl (op_moveE (.e rfl)) ?_
    refine AL.s rfl (op_moveD (.e rfl)) ?_
    refine AL.s rfl (op_sub (.r rfl) (.r rfl) (w64 (by decide) (by decide))) ?_
    refine AL.s rfl (op_indexAddr (.r rfl) (.r rfl) (show ((6 : Int) - 1) = ((5 : Nat) : Int) from rfl) rfl sl22 rfl) ?_
    refine AL.s rfl (op_load_vp1 (.e rfl) rfl sc9) ?_
    refine AL.s rfl (op_assignD (.e rfl)) ?_
    refine AL.nil ?_
    refine AW.ret ?_
    refine EndQ.d (.tmp (.e rfl) .nil) rfl ?_
    rfl

/-- bookplate/bookplateref55.KindName -/
theorem rkindName_7  : Fn Try.prog 26 [.int .i64 7] (.str [114, 101, 116, 117, 114, 110]) := by
  refine Fn.of_AW (fnn := Try.f26) Try.func26 rfl (Nat.le_of_ble_eq_true rfl) (fun g0 w0 hw0 => ?_)
  refine AW.seqR ?_
  refine AL.s rfl (op_assignD (.e rfl)) ?_
  refine AL.nil ?_
  refine AW.seqR ?_
  refine AL.s rfl (op_buildSlice sl22 (.cons (.r rfl) rfl (by simp [absD, absC, D.cells, D.one]) (.cons (.r rfl) rfl (by simp [absD, absC, D.cells, D.one]) (.cons (.r rfl) rfl (by simp [absD, absC, D.cells, D.one]) (.cons (.r rfl) rfl (by simp [absD, absC, D.cells, D.one]) (.cons (.r rfl) rfl (by simp [absD, absC, D.cells, D.one]) (.cons (.r rfl) rfl (by simp [absD, absC, D.cells, D.one]) (.cons (.r rfl) rfl (by simp [absD, absC, D.cells, D.one]) (.cons (.r rfl) rfl (by simp [absD, absC, D.cells, D.one]) (.cons (.r rfl) rfl (by simp [absD, absC, D.cells, D.one]) (.cons (.r rfl) rfl (by simp [absD, absC, D.cells, D.one]) .nil)))))))))) rfl (by decide)) ?_
  refine AL.s rfl (op_assignE (.e rfl)) ?_
  refine AL.nil ?_
  refine AW.seq ?_
  refine AW.seqR ?_
  refine AL.s rfl (op_moveD (.e rfl)) ?_
  refine AL.s rfl (op_lss (.r rfl) (.r rfl)) ?_
  refine AL.s rfl (op_moveD (.e rfl)) ?_
  refine AL.sF rfl rfl rfl rfl (fun g => op_moveD (.e rfl)) ?_
  refine AL.sF rfl rfl rfl rfl (fun g => op_gtr (.we (nt g) rfl rfl) (.r rfl)) ?_
  refine AL.s rfl (op_or (.r rfl) rfl (fun h => (.we (nt h) rfl rfl))) ?_
  refine AL.nil ?_
  refine AW.cond (b := _) rfl (fun hc1 => ?_) (fun hc1 => ?_)
  · skip
    exact absurd hc1 (by decide)
  · skip
    refine AW.skip ?_
    refine nq ?_
    refine AW.seqR ?_
    refine AL.s rfl (op_moveE (.e rfl)) ?_
    refine AL.s rfl (op_moveD (.e rfl)) ?_
    refine AL.s rfl (op_sub (.r rfl) (.r rfl) (w64 (by decide) (by decide))) ?_
    refine AL.s rfl (op_indexAddr (.r rfl) (.r rfl) (show ((7 : Int) - 1) = ((6 : Nat) : Int) from rfl) rfl sl22 rfl) ?_
    refine AL.s rfl (op_load_vp1 (.e rfl) rfl sc9) ?_
    refine AL.s rfl (op_assignD (.e rfl)) ?_
    refine AL.nil ?_
    refine AW.ret ?_
    refine EndQ.d (.tmp (.e rfl) .nil) rfl ?_
    rfl

/-- bookplate/bookplateref55.KindName -/
theorem rkindName_8  : Fn Try.prog 26 [.int .i64 8] (.str [99, 108, 111, 115, 101]) := by
  refine Fn.of_AW (fnn := Try.f26) Try.func26 rfl (Nat.le_of_ble_eq_true rfl) (fun g0 w0 hw0 => ?_)
  refine AW.seqR ?_
  refine AL.s rfl (op_assignD (.e rfl)) ?_
  refine AL.nil ?_
  refine AW.seqR ?_
  refine AL.s rfl (op_buildSlice sl22 (.cons (.r rfl) rfl (by simp [absD, absC, D.cells, D.one]) (.cons (.r rfl) rfl (by simp [absD, absC, D.cells, D.one]) (.cons (.r rfl) rfl (by simp [absD, absC, D.cells, D.one]) (.cons (.r rfl) rfl (by simp [absD, absC, D.cells, D.one]) (.cons (.r rfl) rfl (by simp [absD, absC, D.cells, D.one]) (.cons (.r rfl) rfl (by simp [absD, absC, D.cells, D.one]) (.cons (.r rfl) rfl (by simp [absD, absC, D.cells, D.one]) (.cons (.r rfl) rfl (by simp [absD, absC, D.cells, D.one]) (.cons (.r rfl) rfl (by simp [absD, absC, D.cells, D.one]) (.cons (.r rfl) rfl (by simp [absD, absC, D.cells, D.one]) .nil)))))))))) rfl (by decide)) ?_
  refine AL.s rfl (op_assignE (.e rfl)) ?_
  refine AL.nil ?_
  refine AW.seq ?_
  refine AW.seqR ?_
  refine AL.s rfl (op_moveD (.e rfl)) ?_
  refine AL.s rfl (op_lss (.r rfl) (.r rfl)) ?_
  refine AL.s rfl (op_moveD (.e rfl)) ?_
  refine AL.sF rfl rfl rfl rfl (fun g => op_moveD (.e rfl)) ?_
  refine AL.sF rfl rfl rfl rfl (fun g => op_gtr (.we (nt g) rfl rfl) (.r rfl)) ?_
  refine AL.s rfl (op_or (.r rfl) rfl (fun h => (.we (nt h) rfl rfl))) ?_
  refine AL.nil ?_
  refine AW.cond (b := _) rfl (fun hc1 => ?_) (fun hc1 => ?_)
  · skip
    exact absurd hc1 (by decide)
  · skip
    refine AW.skip ?_
    refine nq ?_
    refine AW.seqR ?_
    refine AL.s rfl (op_moveE (.e rfl)) ?_
    refine AL.s rfl (op_moveD (.e rfl)) ?_
    refine AL.s rfl (op_sub (.r rfl) (.r rfl) (w64 (by decide) (by decide))) ?_
    refine AL.s rfl (op_indexAddr (.r rfl) (.r rfl) (show ((8 : Int) - 1) = ((7 : Nat) : Int) from rfl) rfl sl22 rfl) ?_
    refine AL.s rfl (op_load_vp1 (.e rfl) rfl sc9) ?_
    refine AL.s rfl (op_assignD (.e rfl)) ?_
    refine AL.nil ?_
    refine AW.ret ?_
    refine EndQ.d (.tmp (.e rfl) .nil) rfl ?_
    rfl

/-- bookplate/bookplateref55.KindName -/
theorem rkindName_9  : Fn Try.prog 26 [.int .i64 9] (.str [99, 97, 110, 99, 101, 108]) := by
  refine Fn.of_AW (fnn := Try.f26) Try.func26 rfl (Nat.le_of_ble_eq_true rfl) (fun g0 w0 hw0 => ?_)
  refine AW.seqR ?_
  refine AL.s rfl (op_assignD (.e rfl)) ?_
  refine AL.nil ?_
  refine AW.seqR ?_
  refine AL.s rfl (op_buildSlice sl22 (.cons (.r rfl) rfl (by simp [absD, absC, D.cells, D.one]) (.cons (.r rfl) rfl (by simp [absD, absC, D.cells, D.one]) (.cons (.r rfl) rfl (by simp [absD, absC, D.cells, D.one]) (.cons (.r rfl) rfl (by simp [absD, absC, D.cells, D.one]) (.cons (.r rfl) rfl (by simp [absD, absC, D.cells, D.one]) (.cons (.r rfl) rfl (by simp [absD, absC, D.cells, D.one]) (.cons (.r rfl) rfl (by simp [absD, absC, D.cells, D.one]) (.cons (.r rfl) rfl (by simp [absD, absC, D.cells, D.one]) (.cons (.r rfl) rfl (by simp [absD, absC, D.cells, D.one]) (.cons (.r rfl) rfl (by simp [absD, absC, D.cells, D.one]) .nil)))))))))) rfl (by decide)) ?_
  refine AL.s rfl (op_assignE (.e rfl)) ?_
  refine AL.nil ?_
  refine AW.seq ?_
  refine AW.seqR ?_
  refine AL.s rfl (op_moveD (.e rfl)) ?_
  refine AL.s rfl (op_lss (.r rfl) (.r rfl)) ?_
  refine AL.s rfl (op_moveD (.e rfl)) ?_
  refine AL.sF rfl rfl rfl rfl (fun g => op_moveD (.e rfl)) ?_
  refine AL.sF rfl rfl rfl rfl (fun g => op_gtr (.we (nt g) rfl rfl) (.r rfl)) ?_
  refine AL.s rfl (op_or (.r rfl) rfl (fun h => (.we (nt h) rfl rfl))) ?_
  refine AL.nil ?_
  refine AW.cond (b := _) rfl (fun hc1 => ?_) (fun hc1 => ?_)
  · skip
    exact absurd hc1 (by decide)
  · skip
    refine AW.skip ?_
    refine nq ?_
    refine AW.seqR ?_
    refine AL.s rfl (op_moveE (.e rfl)) ?_
    refine AL.s rfl (op_moveD (.e rfl)) ?_
    refine AL.s rfl (op_sub (.r rfl) (.r rfl) (w64 (by decide) (by decide))) ?_
    refine AL.s rfl (op_indexAddr (.r rfl) (.r rfl) (show ((9 : Int) - 1) = ((8 : Nat) : Int) from rfl) rfl sl22 rfl) ?_
    refine AL.s rfl (op_load_vp1 (.e rfl) rfl sc9) ?_
    refine AL.s rfl (op_assignD (.e rfl)) ?_
    refine AL.nil ?_
    refine AW.ret ?_
    refine EndQ.d (.tmp (.e rfl) .nil) rfl ?_
    rfl

/-- bookplate/bookplateref55.KindName -/
theorem rkindName_10  : Fn Try.prog 26 [.int .i64 10] (.str [102, 97, 105, 108]) := by
  refine Fn.of_AW (fnn := Try.f26) Try.func26 rfl (Nat.le_of_ble_eq_true rfl) (fun g0 w0 hw0 => ?_)
  refine AW.seqR ?_
  refine AL.s rfl (op_assignD (.e rfl)) ?_
  refine AL.nil ?_
  refine AW.seqR ?_
  refine AL.s rfl (op_buildSlice sl22 (.cons (.r rfl) rfl (by simp [absD, absC, D.cells, D.one]) (.cons (.r rfl) rfl (by simp [absD, absC, D.cells, D.one]) (.cons (.r rfl) rfl (by simp [absD, absC, D.cells, D.one]) (.cons (.r rfl) rfl (by simp [absD, absC, D.cells, D.one]) (.cons (.r rfl) rfl (by simp [absD, absC, D.cells, D.one]) (.cons (.r rfl) rfl (by simp [absD, absC, D.cells, D.one]) (.cons (.r rfl) rfl (by simp [absD, absC, D.cells, D.one]) (.cons (.r rfl) rfl (by simp [absD, absC, D.cells, D.one]) (.cons (.r rfl) rfl (by simp [absD, absC, D.cells, D.one]) (.cons (.r rfl) rfl (by simp [absD, absC, D.cells, D.one]) .nil)))))))))) rfl (by decide)) ?_
  refine AL.s rfl (op_assignE (.e rfl)) ?_
  refine AL.nil ?_
  refine AW.seq ?_
  refine AW.seqR ?_
  refine AL.s rfl (op_moveD (.e rfl)) ?_
  refine AL.s rfl (op_lss (.r rfl) (.r rfl)) ?_
  refine AL.s rfl (op_moveD (.e rfl)) ?_
  refine AL.sF rfl rfl rfl rfl (fun g => op_moveD (.e rfl)) ?_
  refine AL.sF rfl rfl rfl rfl (fun g => op_gtr (.we (nt g) rfl rfl) (.r rfl)) ?_
  refine AL.s rfl (op_or (.r rfl) rfl (fun h => (.we (nt h) rfl rfl))) ?_
  refine AL.nil ?_
  refine AW.cond (b := _) rfl (fun hc1 => ?_) (fun hc1 => ?_)
  · skip
    exact absurd hc1 (by decide)
  · skip
    refine AW.skip ?_
    refine nq ?_
    refine AW.seqR ?_
    refine AL.s rfl (op_moveE (.e rfl)) ?_
    refine AL.s rfl (op_moveD (.e rfl)) ?_
    refine AL.s rfl (op_sub (.r rfl) (.r rfl) (w64 (by decide) (by decide))) ?_
    refine AL.s rfl (op_indexAddr (.r rfl) (.r rfl) (show ((10 : Int) - 1) = ((9 : Nat) : Int) from rfl) rfl sl22 rfl) ?_
    refine AL.s rfl (op_load_vp1 (.e rfl) rfl sc9) ?_
    refine AL.s rfl (op_assignD (.e rfl)) ?_
    refine AL.nil ?_
    refine AW.ret ?_
    refine EndQ.d (.tmp (.e rfl) .nil) rfl ?_
    rfl

/-- bookplate/bookplateref55.KindName -/
theorem rkindName_out (n : Int) (h : inI n 1 10 = false) : Fn Try.prog 26 [.int .i64 n] (.str [117, 110, 107, 110, 111, 119, 110]) := by
  refine Fn.of_AW (fnn := Try.f26) Try.func26 rfl (Nat.le_of_ble_eq_true rfl) (fun g0 w0 hw0 => ?_)
  refine AW.seqR ?_
  refine AL.s rfl (op_assignD (.e rfl)) ?_
  refine AL.nil ?_
  refine AW.seqR ?_
  refine AL.s rfl (op_buildSlice sl22 (.cons (.r rfl) rfl (by simp [absD, absC, D.cells, D.one]) (.cons (.r rfl) rfl (by simp [absD, absC, D.cells, D.one]) (.cons (.r rfl) rfl (by simp [absD, absC, D.cells, D.one]) (.cons (.r rfl) rfl (by simp [absD, absC, D.cells, D.one]) (.cons (.r rfl) rfl (by simp [absD, absC, D.cells, D.one]) (.cons (.r rfl) rfl (by simp [absD, absC, D.cells, D.one]) (.cons (.r rfl) rfl (by simp [absD, absC, D.cells, D.one]) (.cons (.r rfl) rfl (by simp [absD, absC, D.cells, D.one]) (.cons (.r rfl) rfl (by simp [absD, absC, D.cells, D.one]) (.cons (.r rfl) rfl (by simp [absD, absC, D.cells, D.one]) .nil)))))))))) rfl (by decide)) ?_
  refine AL.s rfl (op_assignE (.e rfl)) ?_
  refine AL.nil ?_
  refine AW.seq ?_
  refine AW.seqR ?_
  refine AL.s rfl (op_moveD (.e rfl)) ?_
  refine AL.s rfl (op_lss (.r rfl) (.r rfl)) ?_
  refine AL.s rfl (op_moveD (.e rfl)) ?_
  refine AL.sF rfl rfl rfl rfl (fun g => op_moveD (.e rfl)) ?_
  refine AL.sF rfl rfl rfl rfl (fun g => op_gtr (.we (nt g) rfl rfl) (.r rfl)) ?_
  refine AL.s rfl (op_or (.r rfl) rfl (fun h => (.we (nt h) rfl rfl))) ?_
  refine AL.nil ?_
  refine AW.cond (b := _) rfl (fun hc1 => ?_) (fun hc1 => ?_)
  · skip
    refine AW.seqR ?_
    refine AL.s rfl (op_assignD (.e rfl)) ?_
    refine AL.nil ?_
    refine AW.ret ?_
    refine tq_ret ?_
    refine EndQ.d (.tmp (.e rfl) .nil) rfl ?_
    rfl
  · skip
    rw [inI_eq, h] at hc1; cases hc1

theorem rkindName_ok (n : Int) : Fn Try.prog 26 [.int .i64 n] (.str (kindNameL n)) := by
  cases h : inI n 1 10 with
  | false =>
    have : kindNameL n = [117, 110, 107, 110, 111, 119, 110] := by
      simp only [inI, Bool.and_eq_false_imp, decide_eq_true_eq, decide_eq_false_iff_not] at h
      unfold kindNameL
      repeat rw [if_neg (by omega)]
    rw [this]; exact rkindName_out n h
  | true =>
    have h' : n = 1 ∨ n = 2 ∨ n = 3 ∨ n = 4 ∨ n = 5 ∨ n = 6 ∨ n = 7 ∨ n = 8 ∨ n = 9 ∨ n = 10 := by simp only [inI, Bool.and_eq_true, decide_eq_true_eq] at h; omega
    rcases h' with rfl | rfl | rfl | rfl | rfl | rfl | rfl | rfl | rfl | rfl
    · exact rkindName_1
    · exact rkindName_2
    · exact rkindName_3
    · exact rkindName_4
    · exact rkindName_5
    · exact rkindName_6
    · exact rkindName_7
    · exact rkindName_8
    · exact rkindName_9
    · exact rkindName_10


/-- bookplate/bookplateref55.ParseKind -/
theorem rparseKind_ok (s : List UInt8) : Fn Try.prog 28 [.str s] (.tup [.int .i64 (parseK s 10 1).1, .int .i64 (parseK s 10 1).2]) := by
  refine Fn.of_AW (fnn := Try.f28) Try.func28 rfl (Nat.le_of_ble_eq_true rfl) (fun g0 w0 hw0 => ?_)
  refine AW.seqR ?_
  refine AL.s rfl (op_assignD (.e rfl)) ?_
  refine AL.s rfl (op_assignD (.e rfl)) ?_
  refine AL.nil ?_
  refine AW.seq ?_
  refine AW.seqR ?_
  refine AL.s rfl (op_assignD (.e rfl)) ?_
  refine AL.nil ?_
  refine AW.block ?_
  refine AW.loopE (α := Nat) (fun k => k ≤ 10 ∧ parseK s 10 1 = parseK s (10 - k) ((k : Int) + 1)) [0] (fun k => [(4, .d (.int .i64 ((k : Int) + 1)))]) (fun k => 10 - k) (0) (⟨by omega, rfl⟩) ⟨by first | exact .of rfl | exact .d rfl | exact .any | exact .int (by simp), trivial⟩ ?_
  intro k hI
  obtain ⟨hI, hJ⟩ := hI
  refine AW.seq ?_
  refine AW.seqR ?_
  refine AL.s rfl (op_moveD (.e rfl)) ?_
  refine AL.s rfl (op_leq (.r rfl) (.r rfl)) ?_
  refine AL.nil ?_
  refine AW.cond (b := _) rfl (fun hc1 => ?_) (fun hc1 => ?_)
  · skip
    refine AW.skip ?_
    refine nq ?_
    refine AW.seq ?_
    refine AW.block ?_
    refine AW.seqR ?_
    refine AL.s rfl (op_moveD (.e rfl)) ?_
    refine AL.s rfl (op_fn Try.call26 (.e rfl) (.cons (.r rfl) .nil) (rkindName_ok _)) ?_
    refine AL.s rfl (op_moveD (.e rfl)) ?_
    refine AL.s rfl (op_eqlS (.r rfl) (.r rfl)) ?_
    refine AL.nil ?_
    refine AW.cond (b := _) rfl (fun hc2 => ?_) (fun hc2 => ?_)
    · skip
      refine AW.seqR ?_
      refine AL.s rfl (op_moveD (.e rfl)) ?_
      refine AL.s rfl (op_assignD (.e rfl)) ?_
      refine AL.s rfl (op_assignD (.e rfl)) ?_
      refine AL.nil ?_
      refine AW.ret ?_
      refine bq_ret ?_
      refine tq_ret ?_
      refine tq_ret ?_
      refine bq_ret ?_
      refine tq_ret ?_
      refine EndQ.d (.tmp (.e rfl) (.tmp (.e rfl) .nil)) rfl ?_
      simp at hc1; obtain ⟨m, hm⟩ : ∃ m, 10 - k = m + 1 := ⟨9 - k, by omega⟩; rw [hJ, hm, parseK]; simp only [hc2, if_true]; rfl
    · skip
      refine AW.skip ?_
      refine bq_n ?_
      refine nq ?_
      refine AW.region ?_
      refine AL.s rfl (op_moveD (.e rfl)) ?_
      refine AL.s rfl (op_add (.r rfl) (.r rfl) (w64 (by omega) (by omega))) ?_
      refine AL.s rfl (op_assignD (.e rfl)) ?_
      refine AL.nil ?_
      refine nq ⟨k + 1, ?_, ?_, ⟨by first | exact .of rfl | exact .int (by omega) | exact .d rfl | exact .any, trivial⟩, ⟨rfl, trivial⟩, rfl⟩
      · simp at hc1; obtain ⟨m, hm⟩ : ∃ m, 10 - k = m + 1 := ⟨9 - k, by omega⟩; exact ⟨by omega, by rw [hJ, hm, parseK]; simp only [hc2, if_false, Bool.false_eq_true, ↓reduceIte]; congr 1; omega⟩
      · simp at hc1; omega
  · skip
    refine AW.exit ?_
    refine tq_exit ?_
    refine tq_exit ?_
    refine bq_hit ?_
    refine nq ?_
    refine AW.seqR ?_
    refine AL.s rfl (op_assignD (.e rfl)) ?_
    refine AL.s rfl (op_assignD (.e rfl)) ?_
    refine AL.nil ?_
    refine AW.ret ?_
    refine EndQ.d (.tmp (.e rfl) (.tmp (.e rfl) .nil)) rfl ?_
    have hk : k = 10 := (by simp at hc1; omega); subst hk; rw [hJ]; rfl

end Go.Proofs.Ytciojlggdnmncaa.Ab
