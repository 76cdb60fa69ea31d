/- The law on time. Conditions: none. -/
import Derived.Test.YtciojlggdnmncaaTz
import Derived.Test.YtciojlggdnmncaaFu
set_option maxRecDepth 100000
namespace Go.Proofs.Ytciojlggdnmncaa.Ab
open Go 

/-- bookplate/bookplatelaw55.RequestTime -/
theorem requestTime_ok (r : Req) (l : List Stp) (hr : r.Fits) (hl : ∀ s ∈ l, s.lender.length ≤ 9223372036854775807) (hn : l.length ≤ 9223372036854775807) : Fn Try.prog 4 [r.e, .sl (l.map Stp.e)] (.bool true) := by
  refine Fn.of_AW (fnn := Try.f4) Try.func4 rfl (Nat.le_of_ble_eq_true rfl) (fun g0 w0 hw0 => ?_)
  refine AW.seqR ?_
  refine AL.s rfl (op_box (n := 0) (.e rfl) rfl rfl rfl) ?_
  refine AL.s rfl (op_assignD (.e rfl)) ?_
  refine AL.nil ?_
  refine AW.seq ?_
  refine AW.seqR ?_
  refine AL.s rfl (op_fn Try.call8 (.e rfl) .nil awake_ok) ?_
  refine AL.s rfl (op_not (.r rfl)) ?_
  refine AL.s rfl (op_moveD (.e rfl)) ?_
  refine AL.sF rfl rfl rfl rfl (fun g => op_load_ptrA (.e rfl) rfl rfl rfl ag24) ?_
  refine AL.sF rfl rfl rfl rfl (fun g => op_fn Try.call9 (.e rfl) (.cons (.we (nt g) rfl rfl) .nil) (few_ok ⟨_, _, _, _, _, _, _, _, _⟩ hr.tried)) ?_
  refine AL.sF rfl rfl rfl rfl (fun g => op_not (.we (nt g) rfl rfl)) ?_
  refine AL.s rfl (op_or (.r rfl) rfl (fun h => (.we (nt h) rfl rfl))) ?_
  refine AL.s rfl (op_moveD (.e rfl)) ?_
  refine AL.sF rfl rfl rfl rfl (fun g => op_load_ptrA (.e rfl) rfl rfl rfl ag24) ?_
  refine AL.sF rfl rfl rfl rfl (fun g => op_fn Try.call18 (.e rfl) (.cons (.we (nt g) rfl rfl) .nil) (rvalid_ok ⟨_, _, _, _, _, _, _, _, _⟩ hr)) ?_
  refine AL.sF rfl rfl rfl rfl (fun g => op_not (.we (nt g) rfl rfl)) ?_
  refine AL.s rfl (op_or (.r rfl) rfl (fun h => (.we (nt h) rfl rfl))) ?_
  refine AL.s rfl (op_moveD (.e rfl)) ?_
  refine AL.sF rfl rfl rfl rfl (fun g => op_moveD (.e rfl)) ?_
  refine AL.sF rfl rfl rfl rfl (fun g => op_fn Try.call10 (.e rfl) (.cons (.we (nt g) rfl rfl) .nil) (fewSteps_ok _ (by omega))) ?_
  refine AL.sF rfl rfl rfl rfl (fun g => op_not (.we (nt g) rfl rfl)) ?_
  refine AL.s rfl (op_or (.r rfl) rfl (fun h => (.we (nt h) rfl rfl))) ?_
  refine AL.nil ?_
  refine AW.cond (b := _) rfl (fun hc1 => ?_) (fun hc1 => ?_)
  · skip
    refine AW.seqR ?_
    refine AL.s rfl (op_fn Try.call8 (.e rfl) .nil awake_ok) ?_
    refine AL.s rfl (op_assignD (.e rfl)) ?_
    refine AL.nil ?_
    refine AW.ret ?_
    refine tq_ret ?_
    refine EndQ.d (.tmp (.e rfl) .nil) rfl ?_
    rfl
  · skip
    have hv : validB r = true := (by simp at hc1; exact hc1.1.2); have h15 := fewSteps_ok' (l := l) (by simp at hc1; exact hc1.2)
    refine AW.skip ?_
    refine nq ?_
    refine AW.seqR ?_
    refine AL.s rfl (op_load_ptrA (.e rfl) rfl rfl rfl ag24) ?_
    refine AL.s rfl (op_fn Try.call12 (.e rfl) (.cons (.r rfl) .nil) (own_ok ⟨_, _, _, _, _, _, _, _, _⟩)) ?_
    refine AL.s rfl (op_alloc (n := 1) zr29 rfl) ?_
    refine AL.s rfl (op_store (.e rfl) (.e rfl) rfl rfl rfl ⟨_, rfl, rfl⟩ rfl (Nat.le_of_ble_eq_true rfl)) ?_
    refine AL.nil ?_
    refine AW.seq ?_
    refine AW.seqR ?_
    refine AL.s rfl (op_moveD (.e rfl)) ?_
    refine AL.s rfl (op_lenN (.r rfl) (by first | exact List.length_map _ | rfl) sl25) ?_
    refine AL.s rfl (op_moveD (.e rfl)) ?_
    refine AL.nil ?_
    refine AW.block ?_
    refine AW.loopT 2 (α := Nat × Req) (fun x => match x with | ⟨k, x⟩ => k ≤ l.length ∧ TimeI r x) [2, 5, 35, 36] (fun x => match x with | ⟨k, x⟩ => [(37, .d (.int .i64 (k : Int)))]) (fun x => match x with | ⟨k, x⟩ => [.row [.d (.int .i64 r.id), .d (.int .i64 r.work), .d (.str r.lib), .d (.int .i64 r.st), .d (.int .i64 r.tm), .d (.str r.lender), .d (.sl (r.tried.map .str)), .d (.int .i64 r.due), .d (.int .i64 r.ren)], .row [.d (.int .i64 x.id), .d (.int .i64 x.work), .d (.str x.lib), .d (.int .i64 x.st), .d (.int .i64 x.tm), .d (.str x.lender), .d (.sl (x.tried.map .str)), .d (.int .i64 x.due), .d (.int .i64 x.ren)]]) (fun x => match x with | ⟨k, x⟩ => l.length - k) ((0, r)) (⟨Nat.zero_le _, hv, hr, rfl, rfl⟩) (WOK.g0 hw0 (by simp)) (fun x => .ofB (by first | rfl | (cases x; rfl))) (.ofB rfl) (fun x => .ofB (by first | rfl | (cases x; rfl))) ⟨by first | exact .of rfl | exact .d rfl | exact .any | exact .int (by simp), trivial⟩ rfl ?_
    rintro ⟨k, x⟩ hI
    obtain ⟨hkl, hI⟩ := hI
    refine AW.seqR ?_
    refine AL.s rfl (op_lss (.r rfl) (.r rfl)) ?_
    refine AL.nil ?_
    refine AW.seq ?_
    refine AW.cond (b := _) rfl (fun hc2 => ?_) (fun hc2 => ?_)
    · skip
      refine AW.skip ?_
      refine nq ?_
      refine AW.seq ?_
      refine AW.block ?_
      refine AW.seqR ?_
      refine AL.s rfl (op_indexAddr (.r rfl) (.r rfl) rfl (getMapD (d := zeroStp) (by simp at hc2; omega)) sl25 rfl) ?_
      refine AL.s rfl (op_loadA (.e rfl) rfl ag44) ?_
      refine AL.s rfl (op_alloc (n := 2) zr44 rfl) ?_
      refine AL.s rfl (op_store (.e rfl) (.e rfl) rfl rfl rfl ⟨_, rfl, rfl⟩ rfl (Nat.le_of_ble_eq_true rfl)) ?_
      refine AL.nil ?_
      refine AW.seqR ?_
      refine AL.s rfl (op_load_ptrA (.e rfl) rfl rfl rfl ag29) ?_
      refine AL.s rfl (op_load_ptrA (.e rfl) rfl rfl rfl ag44) ?_
      refine AL.s rfl (op_fn Try.call17 (.e rfl) (.cons (.r rfl) (.cons (.r rfl) .nil)) (do_ok x (l.getD k zeroStp) hI.f (getD_len hl k))) ?_
      refine AL.s rfl (op_moveD (.e rfl)) ?_
      refine AL.s rfl (op_extractD (.e rfl) rfl) ?_
      refine AL.s rfl (op_extractD (.e rfl) rfl) ?_
      refine AL.s rfl (op_alloc (n := 3) zr29 rfl) ?_
      refine AL.s rfl (op_store (.e rfl) (.e rfl) rfl rfl rfl ⟨_, rfl, rfl⟩ rfl (Nat.le_of_ble_eq_true rfl)) ?_
      refine AL.s rfl (op_assignD (.e rfl)) ?_
      refine AL.nil ?_
      refine AW.seq ?_
      refine AW.seqR ?_
      refine AL.s rfl (op_moveD (.e rfl)) ?_
      refine AL.s rfl (op_neq (.r rfl) (.r rfl)) ?_
      refine AL.nil ?_
      refine AW.cond (b := _) rfl (fun hc3 => ?_) (fun hc3 => ?_)
      · skip
        refine AW.exit ?_
        refine tq_exit ?_
        refine bq_hit ?_
        refine nq ?_
        refine AW.region ?_
        refine AL.s rfl (op_add (.r rfl) (.r rfl) (w64 (by omega) (by simp at hc2; omega))) ?_
        refine AL.s rfl (op_moveD (.e rfl)) ?_
        refine AL.nil ?_
        refine nq ⟨(k + 1, x), ?_, ?_, ⟨by first | exact .of rfl | exact .int (by omega) | exact .d rfl | exact .any, trivial⟩, ⟨rfl, rfl, rfl, rfl, trivial⟩, rfl, by first | exact Nat.le_of_ble_eq_true rfl | simp⟩
        · exact ⟨by simp at hc2; omega, hI⟩
        · simp at hc2; show l.length - (k + 1) < l.length - k; omega
      · skip
        have h0 : (doI x (l.getD k zeroStp)).2 = 0 := (by simpa using hc3); have hxt := hI.f.tried; have hxo := (validB_ok hI.v).tried
        refine AW.skip ?_
        refine nq ?_
        refine AW.seq ?_
        refine AW.seqR ?_
        refine AL.s rfl (op_field_ptr (.e rfl) fd29_4) ?_
        refine AL.s rfl (op_load_ptr1 (.e rfl) rfl rfl sc3) ?_
        refine AL.s rfl (op_field_ptr (.e rfl) fd29_4) ?_
        refine AL.s rfl (op_load_ptr1 (.e rfl) rfl rfl sc3) ?_
        refine AL.s rfl (op_lss (.r rfl) (.r rfl)) ?_
        refine AL.s rfl (op_moveD (.e rfl)) ?_
        refine AL.sF rfl rfl rfl rfl (fun g => op_field_ptr (.e rfl) fd29_4) ?_
        refine AL.sF rfl rfl rfl rfl (fun g => op_load_ptr1 (.we (nt g) rfl) rfl rfl sc3) ?_
        refine AL.sF rfl rfl rfl rfl (fun g => op_field_ptr (.e rfl) fd44_1) ?_
        refine AL.sF rfl rfl rfl rfl (fun g => op_load_ptr1 (.we (nt g) rfl) rfl rfl sc3) ?_
        refine AL.sF rfl rfl rfl rfl (fun g => op_neq (.we (nt g) rfl rfl) (.we (nt g) rfl rfl)) ?_
        refine AL.s rfl (op_or (.r rfl) rfl (fun h => (.we (nt h) rfl rfl))) ?_
        refine AL.s rfl (op_moveD (.e rfl)) ?_
        refine AL.sF rfl rfl rfl rfl (fun g => op_field_ptr (.e rfl) fd44_0) ?_
        refine AL.sF rfl rfl rfl rfl (fun g => op_load_ptr1 (.we (nt g) rfl) rfl rfl sc3) ?_
        refine AL.sF rfl rfl rfl rfl (fun g => op_eql (.we (nt g) rfl rfl) (.r rfl)) ?_
        refine AL.sF rfl rfl rfl rfl (fun g => op_moveD (.we (nt g) rfl)) ?_
        refine AL.sTT rfl rfl rfl rfl (fun gp g => op_field_ptr (.e rfl) fd29_7) ?_
        refine AL.sTT rfl rfl rfl rfl (fun gp g => op_load_ptr1 (.we (an gp g) rfl) rfl rfl sc3) ?_
        refine AL.sTT rfl rfl rfl rfl (fun gp g => op_field_ptr (.e rfl) fd29_7) ?_
        refine AL.sTT rfl rfl rfl rfl (fun gp g => op_load_ptr1 (.we (an gp g) rfl) rfl rfl sc3) ?_
        refine AL.sTT rfl rfl rfl rfl (fun gp g => op_gtr (.we (an gp g) rfl rfl) (.we (an gp g) rfl rfl)) ?_
        refine AL.sF rfl rfl rfl rfl (fun g => op_and (.we (nt g) rfl rfl) (fun h => (.we (an (nt g) h) rfl rfl)) rfl) ?_
        refine AL.s rfl (op_or (.r rfl) rfl (fun h => (.we (nt h) rfl rfl))) ?_
        refine AL.s rfl (op_moveD (.e rfl)) ?_
        refine AL.sF rfl rfl rfl rfl (fun g => op_field_ptr (.e rfl) fd29_8) ?_
        refine AL.sF rfl rfl rfl rfl (fun g => op_load_ptr1 (.we (nt g) rfl) rfl rfl sc3) ?_
        refine AL.sF rfl rfl rfl rfl (fun g => op_field_ptr (.e rfl) fd29_8) ?_
        refine AL.sF rfl rfl rfl rfl (fun g => op_load_ptr1 (.we (nt g) rfl) rfl rfl sc3) ?_
        refine AL.sF rfl rfl rfl rfl (fun g => op_lss (.we (nt g) rfl rfl) (.we (nt g) rfl rfl)) ?_
        refine AL.s rfl (op_or (.r rfl) rfl (fun h => (.we (nt h) rfl rfl))) ?_
        refine AL.s rfl (op_moveD (.e rfl)) ?_
        refine AL.sF rfl rfl rfl rfl (fun g => op_field_ptr (.e rfl) fd29_8) ?_
        refine AL.sF rfl rfl rfl rfl (fun g => op_load_ptr1 (.we (nt g) rfl) rfl rfl sc3) ?_
        refine AL.sF rfl rfl rfl rfl (fun g => op_gtr (.we (nt g) rfl rfl) (.r rfl)) ?_
        refine AL.s rfl (op_or (.r rfl) rfl (fun h => (.we (nt h) rfl rfl))) ?_
        refine AL.s rfl (op_moveD (.e rfl)) ?_
        refine AL.sF rfl rfl rfl rfl (fun g => op_field_ptr (.e rfl) fd29_6) ?_
        refine AL.sF rfl rfl rfl rfl (fun g => op_load_ptr1 (.we (nt g) rfl) rfl rfl sc22) ?_
        refine AL.sF rfl rfl rfl rfl (fun g => op_lenN (.we (nt g) rfl rfl) (by first | exact List.length_map _ | rfl) sl22) ?_
        refine AL.sF rfl rfl rfl rfl (fun g => op_field_ptr (.e rfl) fd29_6) ?_
        refine AL.sF rfl rfl rfl rfl (fun g => op_load_ptr1 (.we (nt g) rfl) rfl rfl sc22) ?_
        refine AL.sF rfl rfl rfl rfl (fun g => op_lenN (.we (nt g) rfl rfl) (by first | exact List.length_map _ | rfl) sl22) ?_
        refine AL.sF rfl rfl rfl rfl (fun g => op_lss (.we (nt g) rfl rfl) (.we (nt g) rfl rfl)) ?_
        refine AL.s rfl (op_or (.r rfl) rfl (fun h => (.we (nt h) rfl rfl))) ?_
        refine AL.s rfl (op_moveD (.e rfl)) ?_
        refine AL.sF rfl rfl rfl rfl (fun g => op_field_ptr (.e rfl) fd29_0) ?_
        refine AL.sF rfl rfl rfl rfl (fun g => op_load_ptr1 (.we (nt g) rfl) rfl rfl sc3) ?_
        refine AL.sF rfl rfl rfl rfl (fun g => op_field_ptr (.e rfl) fd24_0) ?_
        refine AL.sF rfl rfl rfl rfl (fun g => op_load_ptr1 (.we (nt g) rfl) rfl rfl sc3) ?_
        refine AL.sF rfl rfl rfl rfl (fun g => op_neq (.we (nt g) rfl rfl) (.we (nt g) rfl rfl)) ?_
        refine AL.s rfl (op_or (.r rfl) rfl (fun h => (.we (nt h) rfl rfl))) ?_
        refine AL.s rfl (op_moveD (.e rfl)) ?_
        refine AL.sF rfl rfl rfl rfl (fun g => op_field_ptr (.e rfl) fd29_2) ?_
        refine AL.sF rfl rfl rfl rfl (fun g => op_load_ptr1 (.we (nt g) rfl) rfl rfl sc9) ?_
        refine AL.sF rfl rfl rfl rfl (fun g => op_field_ptr (.e rfl) fd24_2) ?_
        refine AL.sF rfl rfl rfl rfl (fun g => op_load_ptr1 (.we (nt g) rfl) rfl rfl sc9) ?_
        refine AL.sF rfl rfl rfl rfl (fun g => op_neqS (.we (nt g) rfl rfl) (.we (nt g) rfl rfl)) ?_
        refine AL.s rfl (op_or (.r rfl) rfl (fun h => (.we (nt h) rfl rfl))) ?_
        refine AL.nil ?_
        refine AW.cond (b := _) rfl (fun hc4 => ?_) (fun hc4 => ?_)
        · skip
          exact absurd hc4 (by rw [show _ = false from time_no hI h0]; decide)
        · skip
          refine AW.skip ?_
          refine nq ?_
          refine AW.seq ?_
          refine AW.seqR ?_
          refine AL.s rfl (op_field_ptr (.e rfl) fd29_6) ?_
          refine AL.s rfl (op_load_ptr1 (.e rfl) rfl rfl sc22) ?_
          refine AL.s rfl (op_lenN (.r rfl) (by first | exact List.length_map _ | rfl) sl22) ?_
          refine AL.s rfl (op_moveD (.e rfl)) ?_
          refine AL.nil ?_
          refine AW.block ?_
          refine AW.loopE (α := Nat) (fun i => i ≤ x.tried.length) [2, 5, 8, 35, 36, 37, 110] (fun i => [(111, .d (.int .i64 (i : Int)))]) (fun i => x.tried.length - i) (0) (Nat.zero_le _) ⟨by first | exact .of rfl | exact .d rfl | exact .any | exact .int (by simp), trivial⟩ ?_
          intro i hIi
          refine AW.seqR ?_
          refine AL.s rfl (op_lss (.r rfl) (.r rfl)) ?_
          refine AL.nil ?_
          refine AW.seq ?_
          refine AW.cond (b := _) rfl (fun hc5 => ?_) (fun hc5 => ?_)
          · skip
            refine AW.skip ?_
            refine nq ?_
            refine AW.seq ?_
            refine AW.block ?_
            refine AW.seqR ?_
            refine AL.s rfl (op_moveD (.e rfl)) ?_
            refine AL.s rfl (op_assignD (.e rfl)) ?_
            refine AL.nil ?_
            refine AW.seqD [([], []), ([3], []), ([], []), ([], []), ([], []), ([], []), ([1], []), ([], []), ([], []), ([], []), ([], [])] mo (by decide +kernel) ?_
            refine AD.s (ws := []) rfl rfl (fun H' _ hH => op_field_ptr (.e rfl) fd29_6) ?_
            refine AD.s (ws := []) rfl rfl (fun H' _ hH => op_load_ptr1 (.e rfl) ((hH _ (by first | exact List.Mem.head _ | simp)).trans rfl) rfl sc22) ?_
            refine AD.s (ws := []) rfl rfl (fun H' _ hH => op_moveD (.e rfl)) ?_
            refine AD.s (ws := []) rfl rfl (fun H' _ hH => op_indexAddr (.r rfl) (.r rfl) rfl (getMapD (d := []) (time_tried h0 (show i < x.tried.length by simp at hc5; omega)).1) sl22 rfl) ?_
            refine AD.s (ws := []) rfl rfl (fun H' _ hH => op_load_vp1 (.e rfl) rfl sc9) ?_
            refine AD.s (ws := []) rfl rfl (fun H' _ hH => op_field_ptr (.e rfl) fd29_6) ?_
            refine AD.s (ws := []) rfl rfl (fun H' _ hH => op_load_ptr1 (.e rfl) ((hH _ (by first | exact List.Mem.head _ | simp)).trans rfl) rfl sc22) ?_
            refine AD.s (ws := []) rfl rfl (fun H' _ hH => op_moveD (.e rfl)) ?_
            refine AD.s (ws := []) rfl rfl (fun H' _ hH => op_indexAddr (.r rfl) (.r rfl) rfl (getMapD (d := []) (show i < x.tried.length by simp at hc5; omega)) sl22 rfl) ?_
            refine AD.s (ws := []) rfl rfl (fun H' _ hH => op_load_vp1 (.e rfl) rfl sc9) ?_
            refine AD.s (ws := []) rfl rfl (fun H' _ hH => op_neqS (.r rfl) (.r rfl)) ?_
            refine AD.nil ?_
            refine AW.cond (b := _) rfl (fun hc6 => ?_) (fun hc6 => ?_)
            · skip
              exact absurd hc6 (by rw [(time_tried h0 (show i < x.tried.length by simp at hc5; omega)).2]; simp)
            · skip
              refine AW.skip ?_
              refine bq_n ?_
              refine nq ?_
              refine AW.region ?_
              refine AL.s rfl (op_add (.r rfl) (.r rfl) (w64 (by omega) (by simp at hc5; omega))) ?_
              refine AL.s rfl (op_moveD (.e rfl)) ?_
              refine AL.nil ?_
              refine nq ⟨i + 1, ?_, ?_, ⟨by first | exact .of rfl | exact .int (by omega) | exact .d rfl | exact .any, trivial⟩, ⟨rfl, rfl, rfl, rfl, rfl, rfl, rfl, trivial⟩, rfl⟩
              · simp at hc5; omega
              · simp at hc5; omega
          · skip
            refine AW.exit ?_
            refine tq_exit ?_
            refine tq_exit ?_
            refine bq_hit ?_
            refine nq ?_
            refine AW.region ?_
            refine AL.s rfl (op_load_ptrA (.e rfl) rfl rfl rfl ag29) ?_
            refine AL.s rfl (op_storeA (.e rfl) (.e rfl) rfl rfl ⟨_, rfl, rfl⟩ rfl (Nat.le_of_ble_eq_true rfl)) ?_
            refine AL.nil ?_
            refine bq_n ?_
            refine nq ?_
            refine AW.region ?_
            refine AL.s rfl (op_add (.r rfl) (.r rfl) (w64 (by omega) (by simp at hc2; omega))) ?_
            refine AL.s rfl (op_moveD (.e rfl)) ?_
            refine AL.nil ?_
            refine nq ⟨(k + 1, (doI x (l.getD k zeroStp)).1), ?_, ?_, ⟨by first | exact .of rfl | exact .int (by omega) | exact .d rfl | exact .any, trivial⟩, ⟨rfl, rfl, rfl, rfl, trivial⟩, rfl, by first | exact Nat.le_of_ble_eq_true rfl | simp⟩
            · exact ⟨by simp at hc2; omega, time_round hI (getD_len hl k) h0⟩
            · simp at hc2; show l.length - (k + 1) < l.length - k; omega
    · skip
      have hxt := (validB_ok hI.v).tried
      refine AW.exit ?_
      refine tq_exit ?_
      refine tq_exit ?_
      refine bq_hit ?_
      refine nq ?_
      refine AW.seq ?_
      refine AW.seqR ?_
      refine AL.s rfl (op_field_ptr (.e rfl) fd29_6) ?_
      refine AL.s rfl (op_load_ptr1 (.e rfl) rfl rfl sc22) ?_
      refine AL.s rfl (op_lenN (.r rfl) (by first | exact List.length_map _ | rfl) sl22) ?_
      refine AL.s rfl (op_moveD (.e rfl)) ?_
      refine AL.nil ?_
      refine AW.block ?_
      refine AW.loopT 2 (α := Nat) (fun j => j ≤ x.tried.length) [5, 129, 130] (fun j => [(131, .d (.int .i64 (j : Int)))]) (fun j => [.row [.d (.int .i64 r.id), .d (.int .i64 r.work), .d (.str r.lib), .d (.int .i64 r.st), .d (.int .i64 r.tm), .d (.str r.lender), .d (.sl (r.tried.map .str)), .d (.int .i64 r.due), .d (.int .i64 r.ren)], .row [.d (.int .i64 x.id), .d (.int .i64 x.work), .d (.str x.lib), .d (.int .i64 x.st), .d (.int .i64 x.tm), .d (.str x.lender), .d (.sl (x.tried.map .str)), .d (.int .i64 x.due), .d (.int .i64 x.ren)]]) (fun j => x.tried.length - j) (0) (Nat.zero_le _) (WOK.g0 hw0 (by simp)) (fun x => .ofB (by first | rfl | (cases x; rfl))) (.ofB rfl) (fun x => .ofB (by first | rfl | (cases x; rfl))) ⟨by first | exact .of rfl | exact .d rfl | exact .any | exact .int (by simp), trivial⟩ rfl ?_
      intro j hIj
      refine AW.seqR ?_
      refine AL.s rfl (op_lss (.r rfl) (.r rfl)) ?_
      refine AL.nil ?_
      refine AW.seq ?_
      refine AW.cond (b := _) rfl (fun hc7 => ?_) (fun hc7 => ?_)
      · skip
        refine AW.skip ?_
        refine nq ?_
        refine AW.seq ?_
        refine AW.block ?_
        refine AW.seqR ?_
        refine AL.s rfl (op_indexAddr (.r rfl) (.r rfl) rfl (getMapD (d := []) (show j < x.tried.length by simp at hc7; omega)) sl22 rfl) ?_
        refine AL.s rfl (op_load_vp1 (.e rfl) rfl sc9) ?_
        refine AL.s rfl (op_assignD (.e rfl)) ?_
        refine AL.nil ?_
        refine AW.seqR ?_
        refine AL.s rfl (op_load_ptrA (.e rfl) rfl rfl rfl ag29) ?_
        refine AL.s rfl (op_field_ptr (.e rfl) fd29_4) ?_
        refine AL.s rfl (op_load_ptr1 (.e rfl) rfl rfl sc3) ?_
        refine AL.s rfl (op_moveD (.e rfl)) ?_
        refine AL.s rfl (op_build bd43 (.cons (.e rfl) rfl rfl rfl rfl (Nat.le_of_ble_eq_true rfl) (.cons (.e rfl) rfl rfl rfl rfl (Nat.le_of_ble_eq_true rfl) (.cons (.e rfl) rfl rfl rfl rfl (Nat.le_of_ble_eq_true rfl) .nil)))) ?_
        refine AL.s rfl (op_fn Try.call17 (.e rfl) (.cons (.r rfl) (.cons (.r rfl) .nil)) (do_ok x ⟨1, x.tm, x.tried.getD j [], 0⟩ hI.f (hI.f.each j))) ?_
        refine AL.s rfl (op_moveD (.e rfl)) ?_
        refine AL.s rfl (op_extractD (.e rfl) rfl) ?_
        refine AL.s rfl (op_extractD (.e rfl) rfl) ?_
        refine AL.s rfl (op_alloc (n := 2) zr29 rfl) ?_
        refine AL.s rfl (op_store (.e rfl) (.e rfl) rfl rfl rfl ⟨_, rfl, rfl⟩ rfl (Nat.le_of_ble_eq_true rfl)) ?_
        refine AL.s rfl (op_assignD (.e rfl)) ?_
        refine AL.nil ?_
        refine AW.seqR ?_
        refine AL.s rfl (op_moveD (.e rfl)) ?_
        refine AL.s rfl (op_eql (.r rfl) (.r rfl)) ?_
        refine AL.nil ?_
        refine AW.cond (b := _) rfl (fun hc8 => ?_) (fun hc8 => ?_)
        · skip
          exact absurd (of_decide_eq_true hc8) (time_refused (show j < x.tried.length by simp at hc7; omega))
        · skip
          refine AW.skip ?_
          refine bq_n ?_
          refine nq ?_
          refine AW.region ?_
          refine AL.s rfl (op_add (.r rfl) (.r rfl) (w64 (by omega) (by simp at hc7; omega))) ?_
          refine AL.s rfl (op_moveD (.e rfl)) ?_
          refine AL.nil ?_
          refine nq ⟨j + 1, ?_, ?_, ⟨by first | exact .of rfl | exact .int (by omega) | exact .d rfl | exact .any, trivial⟩, ⟨rfl, rfl, rfl, trivial⟩, rfl, by first | exact Nat.le_of_ble_eq_true rfl | simp⟩
          · simp at hc7; omega
          · simp at hc7; omega
      · skip
        refine AW.exit ?_
        refine tq_exit ?_
        refine tq_exit ?_
        refine bq_hit ?_
        refine nq ?_
        refine AW.seqR ?_
        refine AL.s rfl (op_assignD (.e rfl)) ?_
        refine AL.nil ?_
        refine AW.ret ?_
        refine EndQ.d (.tmp (.e rfl) .nil) rfl ?_
        rfl

end Go.Proofs.Ytciojlggdnmncaa.Ab
