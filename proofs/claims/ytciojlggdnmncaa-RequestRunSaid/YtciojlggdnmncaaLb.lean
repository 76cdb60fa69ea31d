/- The law on runs. Conditions: none. -/
import Derived.Test.YtciojlggdnmncaaSx
import Derived.Test.YtciojlggdnmncaaFu
set_option maxRecDepth 100000
namespace Go.Proofs.Ytciojlggdnmncaa.Ab
open Go 

/-- bookplate/bookplatelaw55.RequestRun -/
theorem requestRun_ok (r : Req) (l : List Stp) (c : Int) (hr : r.Fits) (hl : ∀ s ∈ l, s.lender.length ≤ 9223372036854775807) (hn : l.length ≤ 9223372036854775807) (hc : 0 ≤ c ∧ c ≤ 255) : Fn Try.prog 3 [r.e, .sl (l.map Stp.e), .int .u8 c] (.bool true) := by
  have hf := run_fits (l := l) hr hl
  refine Fn.of_AW (fnn := Try.f3) Try.func3 rfl (Nat.le_of_ble_eq_true rfl) (fun g0 w0 hw0 => ?_)
  refine AW.seqR ?_
  refine AL.s rfl (op_box (n := 0) (.e rfl) rfl rfl rfl) ?_
  refine AL.s rfl (op_assignD (.e rfl)) ?_
  refine AL.nil ?_
  refine AW.seq ?_
  refine AW.seqR ?_
  refine AL.s rfl (op_fn Try.call8 (.e rfl) .nil awake_ok) ?_
  refine AL.s rfl (op_not (.r rfl)) ?_
  refine AL.s rfl (op_moveD (.e rfl)) ?_
  refine AL.sF rfl rfl rfl rfl (fun g => op_load_ptrA (.e rfl) rfl rfl rfl ag24) ?_
  refine AL.sF rfl rfl rfl rfl (fun g => op_fn Try.call9 (.e rfl) (.cons (.we (nt g) rfl rfl) .nil) (few_ok ⟨_, _, _, _, _, _, _, _, _⟩ hr.tried)) ?_
  refine AL.sF rfl rfl rfl rfl (fun g => op_not (.we (nt g) rfl rfl)) ?_
  refine AL.s rfl (op_or (.r rfl) rfl (fun h => (.we (nt h) rfl rfl))) ?_
  refine AL.s rfl (op_moveD (.e rfl)) ?_
  refine AL.sF rfl rfl rfl rfl (fun g => op_moveD (.e rfl)) ?_
  refine AL.sF rfl rfl rfl rfl (fun g => op_fn Try.call10 (.e rfl) (.cons (.we (nt g) rfl rfl) .nil) (fewSteps_ok _ (by omega))) ?_
  refine AL.sF rfl rfl rfl rfl (fun g => op_not (.we (nt g) rfl rfl)) ?_
  refine AL.s rfl (op_or (.r rfl) rfl (fun h => (.we (nt h) rfl rfl))) ?_
  refine AL.nil ?_
  refine AW.cond (b := _) rfl (fun hc1 => ?_) (fun hc1 => ?_)
  · skip
    refine AW.seqR ?_
    refine AL.s rfl (op_fn Try.call8 (.e rfl) .nil awake_ok) ?_
    refine AL.s rfl (op_assignD (.e rfl)) ?_
    refine AL.nil ?_
    refine AW.ret ?_
    refine tq_ret ?_
    refine EndQ.d (.tmp (.e rfl) .nil) rfl ?_
    rfl
  · skip
    have h15 := fewSteps_ok' (l := l) (by simp at hc1; exact hc1.2)
    refine AW.skip ?_
    refine nq ?_
    refine AW.seqR ?_
    refine AL.s rfl (op_load_ptrA (.e rfl) rfl rfl rfl ag24) ?_
    refine AL.s rfl (op_fn Try.call12 (.e rfl) (.cons (.r rfl) .nil) (own_ok ⟨_, _, _, _, _, _, _, _, _⟩)) ?_
    refine AL.s rfl (op_moveD (.e rfl)) ?_
    refine AL.s rfl (op_fn Try.call13 (.e rfl) (.cons (.r rfl) .nil) (steps_ok _ (by omega))) ?_
    refine AL.s rfl (op_fn Try.call11 (.e rfl) (.cons (.r rfl) (.cons (.r rfl) .nil)) (run_ok r l hr hn (getD_len hl))) ?_
    refine AL.s rfl (op_moveD (.e rfl)) ?_
    refine AL.s rfl (op_extractD (.e rfl) rfl) ?_
    refine AL.s rfl (op_extractD (.e rfl) rfl) ?_
    refine AL.s rfl (op_extractD (.e rfl) rfl) ?_
    refine AL.s rfl (op_alloc (n := 1) zr29 rfl) ?_
    refine AL.s rfl (op_store (.e rfl) (.e rfl) rfl rfl rfl ⟨_, rfl, rfl⟩ rfl (Nat.le_of_ble_eq_true rfl)) ?_
    refine AL.s rfl (op_assignD (.e rfl)) ?_
    refine AL.s rfl (op_assignD (.e rfl)) ?_
    refine AL.nil ?_
    refine AW.seqR ?_
    refine AL.s rfl (op_load_ptrA (.e rfl) rfl rfl rfl ag24) ?_
    refine AL.s rfl (op_moveD (.e rfl)) ?_
    refine AL.s rfl (op_fn Try.call14 (.e rfl) (.cons (.r rfl) (.cons (.r rfl) .nil)) (rrun_ok r l hr hn (getD_len hl))) ?_
    refine AL.s rfl (op_moveD (.e rfl)) ?_
    refine AL.s rfl (op_extractD (.e rfl) rfl) ?_
    refine AL.s rfl (op_extractD (.e rfl) rfl) ?_
    refine AL.s rfl (op_extractD (.e rfl) rfl) ?_
    refine AL.s rfl (op_alloc (n := 2) zr24 rfl) ?_
    refine AL.s rfl (op_store (.e rfl) (.e rfl) rfl rfl rfl ⟨_, rfl, rfl⟩ rfl (Nat.le_of_ble_eq_true rfl)) ?_
    refine AL.s rfl (op_assignD (.e rfl)) ?_
    refine AL.s rfl (op_assignD (.e rfl)) ?_
    refine AL.nil ?_
    refine AW.seq ?_
    refine AW.seqD [([1], []), ([2], []), ([], []), ([], []), ([], []), ([], []), ([], []), ([], []), ([], []), ([], []), ([], []), ([], []), ([], []), ([], []), ([], [])] mo (by decide +kernel) ?_
    refine AD.s (ws := []) rfl rfl (fun H' _ hH => op_load_ptrA (.e rfl) ((hH _ (by first | exact List.Mem.head _ | simp)).trans rfl) rfl rfl ag29) ?_
    refine AD.s (ws := []) rfl rfl (fun H' _ hH => op_load_ptrA (.e rfl) ((hH _ (by first | exact List.Mem.head _ | simp)).trans rfl) rfl rfl ag24) ?_
    refine AD.s (ws := []) rfl rfl (fun H' _ hH => op_fn Try.call12 (.e rfl) (.cons (.r rfl) .nil) (own_ok ⟨_, _, _, _, _, _, _, _, _⟩)) ?_
    refine AD.s (ws := []) rfl rfl (fun H' _ hH => op_fn Try.call15 (.e rfl) (.cons (.r rfl) (.cons (.r rfl) .nil)) (same_ok (runI r l).1 (runI r l).1 hf.tried)) ?_
    refine AD.s (ws := []) rfl rfl (fun H' _ hH => op_not (.r rfl)) ?_
    refine AD.s (ws := []) rfl rfl (fun H' _ hH => op_moveD (.e rfl)) ?_
    refine AD.sF rfl rfl rfl rfl (fun g H' _ hH => op_moveD (.e rfl)) ?_
    refine AD.sF rfl rfl rfl rfl (fun g H' _ hH => op_moveD (.e rfl)) ?_
    refine AD.sF rfl rfl rfl rfl (fun g H' _ hH => op_neq (.we (nt g) rfl rfl) (.we (nt g) rfl rfl)) ?_
    refine AD.s (ws := []) rfl rfl (fun H' _ hH => op_or (.r rfl) rfl (fun h => (.we (nt h) rfl rfl))) ?_
    refine AD.s (ws := []) rfl rfl (fun H' _ hH => op_moveD (.e rfl)) ?_
    refine AD.sF rfl rfl rfl rfl (fun g H' _ hH => op_moveD (.e rfl)) ?_
    refine AD.sF rfl rfl rfl rfl (fun g H' _ hH => op_moveD (.e rfl)) ?_
    refine AD.sF rfl rfl rfl rfl (fun g H' _ hH => op_neq (.we (nt g) rfl rfl) (.we (nt g) rfl rfl)) ?_
    refine AD.s (ws := []) rfl rfl (fun H' _ hH => op_or (.r rfl) rfl (fun h => (.we (nt h) rfl rfl))) ?_
    refine AD.nil ?_
    refine AW.cond (b := _) rfl (fun hc2 => ?_) (fun hc2 => ?_)
    · skip
      rw [show sameB _ _ = true from same_refl (runI r l).1] at hc2; simp at hc2
    · skip
      refine AW.skip ?_
      refine nq ?_
      refine AW.seq ?_
      refine AW.seqR ?_
      refine AL.s rfl (op_load_ptrA (.e rfl) rfl rfl rfl ag24) ?_
      refine AL.s rfl (op_fn Try.call12 (.e rfl) (.cons (.r rfl) .nil) (own_ok ⟨_, _, _, _, _, _, _, _, _⟩)) ?_
      refine AL.s rfl (op_fn Try.call16 (.e rfl) (.cons (.r rfl) .nil) (valid_ok ⟨_, _, _, _, _, _, _, _, _⟩ hr)) ?_
      refine AL.s rfl (op_not (.r rfl)) ?_
      refine AL.nil ?_
      refine AW.cond (b := _) rfl (fun hc3 => ?_) (fun hc3 => ?_)
      · skip
        refine AW.seqR ?_
        refine AL.s rfl (op_moveD (.e rfl)) ?_
        refine AL.s rfl (op_eql (.r rfl) (.r rfl)) ?_
        refine AL.s rfl (op_assignD (.e rfl)) ?_
        refine AL.nil ?_
        refine AW.ret ?_
        refine tq_ret ?_
        refine EndQ.d (.tmp (.e rfl) .nil) rfl ?_
        exact congrArg D.bool (by have : validB r = false := (by simpa using hc3); simp [runI, this])
      · skip
        have hv : validB r = true := (by simpa using hc3); have hb := run_bounds (r := r) (l := l)
        refine AW.skip ?_
        refine nq ?_
        refine AW.seqR ?_
        refine AL.s rfl (op_load_ptrA (.e rfl) rfl rfl rfl ag24) ?_
        refine AL.s rfl (op_fn Try.call12 (.e rfl) (.cons (.r rfl) .nil) (own_ok ⟨_, _, _, _, _, _, _, _, _⟩)) ?_
        refine AL.s rfl (op_alloc (n := 3) zr29 rfl) ?_
        refine AL.s rfl (op_store (.e rfl) (.e rfl) rfl rfl rfl ⟨_, rfl, rfl⟩ rfl (Nat.le_of_ble_eq_true rfl)) ?_
        refine AL.nil ?_
        refine AW.seq ?_
        refine AW.seqR ?_
        refine AL.s rfl (op_moveD (.e rfl)) ?_
        refine AL.s rfl (op_moveD (.e rfl)) ?_
        refine AL.nil ?_
        refine AW.block ?_
        refine AW.loopT 4 (α := Nat × Req) (fun x => match x with | ⟨k, x⟩ => ((k : Int) ≤ (runI r l).2.1 ∧ x.Fits) ∧ runG r l 0 = runG x (l.drop k) (k : Int)) [1, 2, 3, 7, 8, 9, 13, 76] (fun x => match x with | ⟨k, x⟩ => [(77, .d (.int .i64 (k : Int)))]) (fun x => match x with | ⟨k, x⟩ => [.row [.d (.int .i64 r.id), .d (.int .i64 r.work), .d (.str r.lib), .d (.int .i64 r.st), .d (.int .i64 r.tm), .d (.str r.lender), .d (.sl (r.tried.map .str)), .d (.int .i64 r.due), .d (.int .i64 r.ren)], .row [.d (.int .i64 (runI r l).1.id), .d (.int .i64 (runI r l).1.work), .d (.str (runI r l).1.lib), .d (.int .i64 (runI r l).1.st), .d (.int .i64 (runI r l).1.tm), .d (.str (runI r l).1.lender), .d (.sl ((runI r l).1.tried.map .str)), .d (.int .i64 (runI r l).1.due), .d (.int .i64 (runI r l).1.ren)], .row [.d (.int .i64 (runI r l).1.id), .d (.int .i64 (runI r l).1.work), .d (.str (runI r l).1.lib), .d (.int .i64 (runI r l).1.st), .d (.int .i64 (runI r l).1.tm), .d (.str (runI r l).1.lender), .d (.sl ((runI r l).1.tried.map .str)), .d (.int .i64 (runI r l).1.due), .d (.int .i64 (runI r l).1.ren)], .row [.d (.int .i64 x.id), .d (.int .i64 x.work), .d (.str x.lib), .d (.int .i64 x.st), .d (.int .i64 x.tm), .d (.str x.lender), .d (.sl (x.tried.map .str)), .d (.int .i64 x.due), .d (.int .i64 x.ren)]]) (fun x => match x with | ⟨k, x⟩ => ((runI r l).2.1 - k).toNat) ((0, r)) (⟨⟨hb.1, hr⟩, rfl⟩) (WOK.g0 hw0 (by simp)) (fun x => .ofB (by first | rfl | (cases x; rfl))) (.ofB rfl) (fun x => .ofB (by first | rfl | (cases x; rfl))) ⟨by first | exact .of rfl | exact .d rfl | exact .any | exact .int (by simp), trivial⟩ rfl ?_
        rintro ⟨k, x⟩ hI
        obtain ⟨⟨hI, hx⟩, hJ⟩ := hI
        refine AW.seqR ?_
        refine AL.s rfl (op_lss (.r rfl) (.r rfl)) ?_
        refine AL.nil ?_
        refine AW.seq ?_
        refine AW.cond (b := _) rfl (fun hc4 => ?_) (fun hc4 => ?_)
        · skip
          refine AW.skip ?_
          refine nq ?_
          refine AW.seq ?_
          refine AW.block ?_
          refine AW.seqR ?_
          refine AL.s rfl (op_moveD (.e rfl)) ?_
          refine AL.s rfl (op_assignD (.e rfl)) ?_
          refine AL.nil ?_
          refine AW.free ?_
          refine AW.seqD [([3], []), ([], []), ([], []), ([], []), ([], []), ([], []), ([], []), ([], []), ([], []), ([], [4]), ([4], [4]), ([], [])] mo (by decide +kernel) ?_
          refine AD.s (ws := []) rfl rfl (fun H' _ hH => op_load_ptrA (.e rfl) ((hH _ (by first | exact List.Mem.head _ | simp)).trans rfl) rfl rfl ag29) ?_
          refine AD.s (ws := []) rfl rfl (fun H' _ hH => op_moveD (.e rfl)) ?_
          refine AD.s (ws := []) rfl rfl (fun H' _ hH => op_moveD (.e rfl)) ?_
          refine AD.s (ws := []) rfl rfl (fun H' _ hH => op_indexAddr (.r rfl) (.r rfl) rfl (getMapD (d := zeroStp) (run_round hv hJ (by simpa using hc4)).1) sl25 rfl) ?_
          refine AD.s (ws := []) rfl rfl (fun H' _ hH => op_loadA (.e rfl) rfl ag44) ?_
          refine AD.s (ws := []) rfl rfl (fun H' _ hH => op_fn Try.call17 (.e rfl) (.cons (.r rfl) (.cons (.r rfl) .nil)) (do_ok x (l.getD k zeroStp) hx (getD_len hl k))) ?_
          refine AD.s (ws := []) rfl rfl (fun H' _ hH => op_moveD (.e rfl)) ?_
          refine AD.s (ws := []) rfl rfl (fun H' _ hH => op_extractD (.e rfl) rfl) ?_
          refine AD.s (ws := []) rfl rfl (fun H' _ hH => op_extractD (.e rfl) rfl) ?_
          refine AD.s (ws := [(4, _)]) rfl rfl (fun H' _ hH => op_allocR zr29 ((hH _ (by first | exact List.Mem.head _ | simp)).trans rfl)) ?_
          refine AD.s (ws := [(4, _)]) rfl rfl (fun H' _ hH => op_store (.e rfl) (.e rfl) ((hH _ (by first | exact List.Mem.head _ | simp)).trans rfl) rfl rfl ⟨_, rfl, rfl⟩ rfl (Nat.le_of_ble_eq_true rfl)) ?_
          refine AD.s (ws := []) rfl rfl (fun H' _ hH => op_assignD (.e rfl)) ?_
          refine AD.nil ?_
          refine AW.seq ?_
          refine AW.seqR ?_
          refine AL.s rfl (op_moveD (.e rfl)) ?_
          refine AL.s rfl (op_neq (.r rfl) (.r rfl)) ?_
          refine AL.nil ?_
          refine AW.cond (b := _) rfl (fun hc5 => ?_) (fun hc5 => ?_)
          · skip
            have h0 := (run_round hv hJ (by simpa using hc4)).2.1; have e : (!decide ((doI x (l.getD k zeroStp)).2 = 0)) = true := hc5; rw [h0] at e; exact absurd e (by decide)
          · skip
            refine AW.skip ?_
            refine nq ?_
            refine AW.region ?_
            refine AL.s rfl (op_load_ptrA (.e rfl) rfl rfl rfl ag29) ?_
            refine AL.s rfl (op_storeA (.e rfl) (.e rfl) rfl rfl ⟨_, rfl, rfl⟩ rfl (Nat.le_of_ble_eq_true rfl)) ?_
            refine AL.nil ?_
            refine bq_n ?_
            refine nq ?_
            refine AW.region ?_
            refine AL.s rfl (op_add (.r rfl) (.r rfl) (w64 (by omega) (by have := (run_round hv hJ (by simpa using hc4)).1; omega))) ?_
            refine AL.s rfl (op_moveD (.e rfl)) ?_
            refine AL.nil ?_
            refine nq ⟨(k + 1, (doI x (l.getD k zeroStp)).1), ?_, ?_, ⟨by first | exact .of rfl | exact .int (by omega) | exact .d rfl | exact .any, trivial⟩, ⟨rfl, rfl, rfl, rfl, rfl, rfl, rfl, rfl, trivial⟩, rfl, by first | exact Nat.le_of_ble_eq_true rfl | simp⟩
            · have hd := run_round hv hJ (by simpa using hc4); exact ⟨⟨by simp at hc4; show ((k + 1 : Nat) : Int) ≤ _; omega, do_fits hx (getD_len hl k)⟩, by rw [hd.2.2]; congr 1⟩
            · simp at hc4; show ((runI r l).2.1 - ((k + 1 : Nat) : Int)).toNat < ((runI r l).2.1 - (k : Int)).toNat; omega
        · skip
          have hcw : IntKind.i64.wrap c = c := w64 (by omega) (by omega); obtain ⟨m, hm0, hml⟩ := cut_of (l := l) hc.1; have hm := (congrArg (fun x => x % ((l.length : Int) + 1)) hcw).trans hm0; have hk : (k : Int) = (runI r l).2.1 := (by simp at hc4; omega); have hxe := run_last hv hJ hk; have hy := run_fits (l := l.take m) hr (take_len hl m)
          refine AW.exit ?_
          refine tq_exit ?_
          refine tq_exit ?_
          refine bq_hit ?_
          refine nq ?_
          refine AW.seqR ?_
          refine AL.s rfl (op_moveD (.e rfl)) ?_
          refine AL.s rfl (op_conv_int (.r rfl) ⟨_, Try.underlying5⟩ Try.underlying3) ?_
          refine AL.s rfl (op_moveD (.e rfl)) ?_
          refine AL.s rfl (op_lenN (.r rfl) (by first | exact List.length_map _ | rfl) sl25) ?_
          refine AL.s rfl (op_add (.r rfl) (.r rfl) (w64 (by omega) (by omega))) ?_
          refine AL.s rfl (op_rem (.r rfl) (.r rfl) (by omega) (rem64 (by rw [hcw]; exact hc.1))) ?_
          refine AL.s rfl (op_assignD (.e rfl)) ?_
          refine AL.nil ?_
          refine AW.free ?_
          refine AW.seqD [([0], []), ([], []), ([], []), ([], []), ([], []), ([], []), ([], []), ([], []), ([], []), ([], []), ([], []), ([], [4]), ([4], [4]), ([], []), ([], [])] mo (by decide +kernel) ?_
          refine AD.s (ws := []) rfl rfl (fun H' _ hH => op_load_ptrA (.e rfl) ((hH _ (by first | exact List.Mem.head _ | simp)).trans rfl) rfl rfl ag24) ?_
          refine AD.s (ws := []) rfl rfl (fun H' _ hH => op_fn Try.call12 (.e rfl) (.cons (.r rfl) .nil) (own_ok ⟨_, _, _, _, _, _, _, _, _⟩)) ?_
          refine AD.s (ws := []) rfl rfl (fun H' _ hH => op_moveD (.e rfl)) ?_
          refine AD.s (ws := []) rfl rfl (fun H' _ hH => op_moveD (.e rfl)) ?_
          refine AD.s (ws := []) rfl rfl (fun H' _ hH => op_sliceTo (.r rfl) sl25 (.r rfl) hm hml (fun _ => rfl)) ?_
          refine AD.s (ws := []) rfl rfl (fun H' _ hH => op_fn Try.call13 (.e rfl) (.cons (.r rfl) .nil) (steps_ok (l.take m) (by simp; omega))) ?_
          refine AD.s (ws := []) rfl rfl (fun H' _ hH => op_fn Try.call11 (.e rfl) (.cons (.r rfl) (.cons (.r rfl) .nil)) (run_ok r (l.take m) hr (by simp; omega) (getD_len (take_len hl m)))) ?_
          refine AD.s (ws := []) rfl rfl (fun H' _ hH => op_moveD (.e rfl)) ?_
          refine AD.s (ws := []) rfl rfl (fun H' _ hH => op_extractD (.e rfl) rfl) ?_
          refine AD.s (ws := []) rfl rfl (fun H' _ hH => op_extractD (.e rfl) rfl) ?_
          refine AD.s (ws := []) rfl rfl (fun H' _ hH => op_extractD (.e rfl) rfl) ?_
          refine AD.s (ws := [(4, _)]) rfl rfl (fun H' _ hH => op_allocR zr29 ((hH _ (by first | exact List.Mem.head _ | simp)).trans rfl)) ?_
          refine AD.s (ws := [(4, _)]) rfl rfl (fun H' _ hH => op_store (.e rfl) (.e rfl) ((hH _ (by first | exact List.Mem.head _ | simp)).trans rfl) rfl rfl ⟨_, rfl, rfl⟩ rfl (Nat.le_of_ble_eq_true rfl)) ?_
          refine AD.s (ws := []) rfl rfl (fun H' _ hH => op_assignD (.e rfl)) ?_
          refine AD.s (ws := []) rfl rfl (fun H' _ hH => op_assignD (.e rfl)) ?_
          refine AD.nil ?_
          refine AW.seq ?_
          refine AW.seqR ?_
          refine AL.s rfl (op_moveD (.e rfl)) ?_
          refine AL.s rfl (op_neq (.r rfl) (.r rfl)) ?_
          refine AL.nil ?_
          refine AW.cond (b := _) rfl (fun hc6 => ?_) (fun hc6 => ?_)
          · skip
            refine AW.seqR ?_
            refine AL.s rfl (op_load_ptrA (.e rfl) rfl rfl rfl ag29) ?_
            refine AL.s rfl (op_load_ptrA (.e rfl) rfl rfl rfl ag29) ?_
            refine AL.s rfl (op_fn Try.call15 (.e rfl) (.cons (.r rfl) (.cons (.r rfl) .nil)) (same_ok x (runI r l).1 hx.tried)) ?_
            refine AL.s rfl (op_moveD (.e rfl)) ?_
            refine AL.sT rfl rfl rfl rfl (fun g => op_moveD (.e rfl)) ?_
            refine AL.sT rfl rfl rfl rfl (fun g => op_moveD (.e rfl)) ?_
            refine AL.sT rfl rfl rfl rfl (fun g => op_eql (.we g rfl rfl) (.we g rfl rfl)) ?_
            refine AL.s rfl (op_and (.r rfl) (fun h => (.we h rfl rfl)) rfl) ?_
            refine AL.s rfl (op_moveD (.e rfl)) ?_
            refine AL.sT rfl rfl rfl rfl (fun g => op_moveD (.e rfl)) ?_
            refine AL.sT rfl rfl rfl rfl (fun g => op_moveD (.e rfl)) ?_
            refine AL.sT rfl rfl rfl rfl (fun g => op_eql (.we g rfl rfl) (.we g rfl rfl)) ?_
            refine AL.s rfl (op_and (.r rfl) (fun h => (.we h rfl rfl)) rfl) ?_
            refine AL.s rfl (op_assignD (.e rfl)) ?_
            refine AL.nil ?_
            refine AW.ret ?_
            refine tq_ret ?_
            refine EndQ.d (.tmp (.e rfl) .nil) rfl ?_
            exact congrArg D.bool (by rw [show sameB _ _ = true from (by rw [← hxe]; exact same_refl (runI r l).1), run_cut1 (l := l) (m := m) hv (by simpa using hc6)]; simp)
          · skip
            obtain ⟨hu, hw⟩ := run_cut2 hv hml (by simpa using hc6); have hz := run_fits (l := l.drop m) hy (drop_len hl m); have hzb := run_bounds (r := (runI r (l.take m)).1) (l := l.drop m)
            refine AW.skip ?_
            refine nq ?_
            refine AW.free ?_
            refine AW.seqD [([4], []), ([], []), ([], []), ([], []), ([], []), ([], []), ([], []), ([], []), ([], []), ([], []), ([], [5]), ([5], [5]), ([], []), ([], [])] mo (by decide +kernel) ?_
            refine AD.s (ws := []) rfl rfl (fun H' _ hH => op_load_ptrA (.e rfl) ((hH _ (by first | exact List.Mem.head _ | simp)).trans rfl) rfl rfl ag29) ?_
            refine AD.s (ws := []) rfl rfl (fun H' _ hH => op_moveD (.e rfl)) ?_
            refine AD.s (ws := []) rfl rfl (fun H' _ hH => op_moveD (.e rfl)) ?_
            refine AD.s (ws := []) rfl rfl (fun H' _ hH => op_sliceFrom (.r rfl) sl25 (.r rfl) hm hml (fun _ => rfl)) ?_
            refine AD.s (ws := []) rfl rfl (fun H' _ hH => op_fn Try.call13 (.e rfl) (.cons (.r rfl) .nil) (steps_ok (l.drop m) (by simp; omega))) ?_
            refine AD.s (ws := []) rfl rfl (fun H' _ hH => op_fn Try.call11 (.e rfl) (.cons (.r rfl) (.cons (.r rfl) .nil)) (run_ok (runI r (l.take m)).1 (l.drop m) hy (by simp; omega) (getD_len (drop_len hl m)))) ?_
            refine AD.s (ws := []) rfl rfl (fun H' _ hH => op_moveD (.e rfl)) ?_
            refine AD.s (ws := []) rfl rfl (fun H' _ hH => op_extractD (.e rfl) rfl) ?_
            refine AD.s (ws := []) rfl rfl (fun H' _ hH => op_extractD (.e rfl) rfl) ?_
            refine AD.s (ws := []) rfl rfl (fun H' _ hH => op_extractD (.e rfl) rfl) ?_
            refine AD.s (ws := [(5, _)]) rfl rfl (fun H' _ hH => op_allocR zr29 ((hH _ (by first | exact List.Mem.head _ | simp)).trans rfl)) ?_
            refine AD.s (ws := [(5, _)]) rfl rfl (fun H' _ hH => op_store (.e rfl) (.e rfl) ((hH _ (by first | exact List.Mem.head _ | simp)).trans rfl) rfl rfl ⟨_, rfl, rfl⟩ rfl (Nat.le_of_ble_eq_true rfl)) ?_
            refine AD.s (ws := []) rfl rfl (fun H' _ hH => op_assignD (.e rfl)) ?_
            refine AD.s (ws := []) rfl rfl (fun H' _ hH => op_assignD (.e rfl)) ?_
            refine AD.nil ?_
            refine AW.seqR ?_
            refine AL.s rfl (op_load_ptrA (.e rfl) rfl rfl rfl ag29) ?_
            refine AL.s rfl (op_load_ptrA (.e rfl) rfl rfl rfl ag29) ?_
            refine AL.s rfl (op_fn Try.call15 (.e rfl) (.cons (.r rfl) (.cons (.r rfl) .nil)) (same_ok x (runI r l).1 hx.tried)) ?_
            refine AL.s rfl (op_moveD (.e rfl)) ?_
            refine AL.sT rfl rfl rfl rfl (fun g => op_load_ptrA (.e rfl) rfl rfl rfl ag29) ?_
            refine AL.sT rfl rfl rfl rfl (fun g => op_load_ptrA (.e rfl) rfl rfl rfl ag29) ?_
            refine AL.sT rfl rfl rfl rfl (fun g => op_fn Try.call15 (.e rfl) (.cons (.we g rfl rfl) (.cons (.we g rfl rfl) .nil)) (same_ok (runI (runI r (l.take m)).1 (l.drop m)).1 (runI r l).1 hz.tried)) ?_
            refine AL.s rfl (op_and (.r rfl) (fun h => (.we h rfl rfl)) rfl) ?_
            refine AL.s rfl (op_moveD (.e rfl)) ?_
            refine AL.sT rfl rfl rfl rfl (fun g => op_moveD (.e rfl)) ?_
            refine AL.sT rfl rfl rfl rfl (fun g => op_moveD (.e rfl)) ?_
            refine AL.sT rfl rfl rfl rfl (fun g => op_add (.we g rfl rfl) (.we g rfl rfl) (w64 (by omega) (by simp at hzb; omega))) ?_
            refine AL.sT rfl rfl rfl rfl (fun g => op_moveD (.e rfl)) ?_
            refine AL.sT rfl rfl rfl rfl (fun g => op_eql (.we g rfl rfl) (.we g rfl rfl)) ?_
            refine AL.s rfl (op_and (.r rfl) (fun h => (.we h rfl rfl)) rfl) ?_
            refine AL.s rfl (op_moveD (.e rfl)) ?_
            refine AL.sT rfl rfl rfl rfl (fun g => op_moveD (.e rfl)) ?_
            refine AL.sT rfl rfl rfl rfl (fun g => op_moveD (.e rfl)) ?_
            refine AL.sT rfl rfl rfl rfl (fun g => op_eql (.we g rfl rfl) (.we g rfl rfl)) ?_
            refine AL.s rfl (op_and (.r rfl) (fun h => (.we h rfl rfl)) rfl) ?_
            refine AL.s rfl (op_assignD (.e rfl)) ?_
            refine AL.nil ?_
            refine AW.ret ?_
            refine EndQ.d (.tmp (.e rfl) .nil) rfl ?_
            exact congrArg D.bool (by rw [show sameB x (runI r l).1 = true from (by rw [← hxe]; exact same_refl _), show sameB (runI (runI r (l.take m)).1 (l.drop m)).1 (runI r l).1 = true from (by rw [hw]; exact same_refl _), hu, hw]; simp; omega)

end Go.Proofs.Ytciojlggdnmncaa.Ab
