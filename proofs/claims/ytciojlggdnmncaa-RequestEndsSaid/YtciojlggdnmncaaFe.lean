/- Lists of steps, delays, names of kinds. Conditions: none. -/
import Derived.Test.YtciojlggdnmncaaFd
set_option maxRecDepth 100000
namespace Go.Proofs.Ytciojlggdnmncaa.Ab
open Go 

/-- bookplate/request.Run -/
theorem run_ok (r : Req) (l : List Stp) (hr : r.Fits) (hn : l.length ≤ 9223372036854775807) (hl : ∀ k, (l.getD k zeroStp).lender.length ≤ 9223372036854775807) : Fn Try.prog 11 [r.e, .sl (l.map Stp.e)] (.tup [(runI r l).1.e, .int .i64 (runI r l).2.1, .int .i64 (runI r l).2.2]) := by
  refine Fn.of_AW (fnn := Try.f11) Try.func11 rfl (Nat.le_of_ble_eq_true rfl) (fun g0 w0 hw0 => ?_)
  refine AW.seqR ?_
  refine AL.s rfl (op_box (n := 0) (.e rfl) rfl rfl rfl) ?_
  refine AL.s rfl (op_alloc (n := 1) zr29 rfl) ?_
  refine AL.s rfl (op_assignD (.e rfl)) ?_
  refine AL.s rfl (op_assignD (.e rfl)) ?_
  refine AL.nil ?_
  refine AW.seq ?_
  refine AW.seqR ?_
  refine AL.s rfl (op_load_ptrA (.e rfl) rfl rfl rfl ag29) ?_
  refine AL.s rfl (op_fn Try.call16 (.e rfl) (.cons (.r rfl) .nil) (valid_ok ⟨_, _, _, _, _, _, _, _, _⟩ hr)) ?_
  refine AL.s rfl (op_not (.r rfl)) ?_
  refine AL.nil ?_
  refine AW.cond (b := _) rfl (fun hc1 => ?_) (fun hc1 => ?_)
  · skip
    refine AW.seqR ?_
    refine AL.s rfl (op_build bd29 .nil) ?_
    refine AL.s rfl (op_storeA (.e rfl) (.e rfl) rfl rfl ⟨_, rfl, rfl⟩ rfl (Nat.le_of_ble_eq_true rfl)) ?_
    refine AL.s rfl (op_assignD (.e rfl)) ?_
    refine AL.s rfl (op_assignD (.e rfl)) ?_
    refine AL.nil ?_
    refine AW.ret ?_
    refine tq_ret ?_
    refine EndQ.d (.cellA (.e rfl) rfl rfl rfl ag29 (.tmp (.e rfl) (.tmp (.e rfl) .nil))) rfl ?_
    simp only [runI, *, Bool.false_eq_true, ↓reduceIte] <;> rfl
  · skip
    refine AW.skip ?_
    refine nq ?_
    refine AW.seqR ?_
    refine AL.s rfl (op_field_ptr (.e rfl) fd29_6) ?_
    refine AL.s rfl (op_load_ptr1 (.e rfl) rfl rfl sc22) ?_
    refine AL.s rfl (op_callD Try.call31 (.e rfl) (.cons (.r rfl) .nil) (FnK.at (n := 2) (cloneS_ok _ (by have := (validB_ok (r := r) (by simpa using hc1)).tried; omega)) rfl)) ?_
    refine AL.s rfl (op_field_ptr (.e rfl) fd29_6) ?_
    refine AL.s rfl (op_store (.e rfl) (.e rfl) rfl rfl rfl ⟨_, rfl, rfl⟩ rfl (Nat.le_of_ble_eq_true rfl)) ?_
    refine AL.nil ?_
    refine AW.seq ?_
    refine AW.seqR ?_
    refine AL.s rfl (op_moveD (.e rfl)) ?_
    refine AL.s rfl (op_lenN (.r rfl) (by first | exact List.length_map _ | rfl) sl34) ?_
    refine AL.s rfl (op_moveD (.e rfl)) ?_
    refine AL.nil ?_
    refine AW.block ?_
    refine AW.relax ([.row [.d (.int .i64 r.id), .d (.int .i64 r.work), .d (.str r.lib), .d (.int .i64 r.st), .d (.int .i64 r.tm), .d (.str r.lender), .d (.sl (r.tried.map .str)), .d (.int .i64 r.due), .d (.int .i64 r.ren)], .row [.d (.int .i64 0), .d (.int .i64 0), .d (.str []), .d (.int .i64 0), .d (.int .i64 0), .d (.str []), .d (.sl []), .d (.int .i64 0), .d (.int .i64 0)], .dead]) (.row (.cons (.of rfl) (.cons (.of rfl) (.cons (.of rfl) (.cons (.of rfl) (.cons (.of rfl) (.cons (.of rfl) (.cons (.d rfl) (.cons (.of rfl) (.cons (.of rfl) .nil))))))))) (.row (.cons (.of rfl) (.cons (.of rfl) (.cons (.of rfl) (.cons (.of rfl) (.cons (.of rfl) (.cons (.of rfl) (.cons (.d rfl) (.cons (.of rfl) (.cons (.of rfl) .nil))))))))) (.kill .nil))) (fun i hi => absurd hi (noFree_spec rfl i)) ?_
    refine AW.loopT 3 (α := Nat × Req) (fun x => match x with | ⟨k, x⟩ => (k ≤ l.length ∧ x.Fits) ∧ runG r l 0 = runG x (l.drop k) (k : Int)) [1, 2, 4, 19, 20] (fun x => match x with | ⟨k, x⟩ => [(21, .d (.int .i64 (k : Int)))]) (fun x => match x with | ⟨k, x⟩ => [.row [.d (.int .i64 x.id), .d (.int .i64 x.work), .d (.str x.lib), .d (.int .i64 x.st), .d (.int .i64 x.tm), .d (.str x.lender), .d (.sl (x.tried.map .str)), .d (.int .i64 x.due), .d (.int .i64 x.ren)], .row [.d (.int .i64 0), .d (.int .i64 0), .d (.str []), .d (.int .i64 0), .d (.int .i64 0), .d (.str []), .d (.sl []), .d (.int .i64 0), .d (.int .i64 0)], .dead]) (fun x => match x with | ⟨k, x⟩ => l.length - k) ((0, r)) (⟨⟨by omega, hr⟩, rfl⟩) (WOK.g0 hw0 (by simp)) (fun x => .ofB (by first | rfl | (cases x; rfl))) (.ofB rfl) (fun x => .ofB (by first | rfl | (cases x; rfl))) ⟨by first | exact .of rfl | exact .d rfl | exact .any | exact .int (by simp), trivial⟩ rfl ?_
    rintro ⟨k, x⟩ hI
    obtain ⟨⟨hI, hx⟩, hJ⟩ := hI
    refine AW.seqR ?_
    refine AL.s rfl (op_lss (.r rfl) (.r rfl)) ?_
    refine AL.nil ?_
    refine AW.seq ?_
    refine AW.cond (b := _) rfl (fun hc2 => ?_) (fun hc2 => ?_)
    · skip
      refine AW.skip ?_
      refine nq ?_
      refine AW.seq ?_
      refine AW.block ?_
      refine AW.seqR ?_
      refine AL.s rfl (op_moveD (.e rfl)) ?_
      refine AL.s rfl (op_indexAddr (.r rfl) (.r rfl) rfl (getMapD (d := zeroStp) (by simp at hc2; omega)) sl34 rfl) ?_
      refine AL.s rfl (op_loadA (.e rfl) rfl ag43) ?_
      refine AL.s rfl (op_alloc (n := 3) zr43 rfl) ?_
      refine AL.s rfl (op_assignD (.e rfl)) ?_
      refine AL.s rfl (op_store (.e rfl) (.e rfl) rfl rfl rfl ⟨_, rfl, rfl⟩ rfl (Nat.le_of_ble_eq_true rfl)) ?_
      refine AL.nil ?_
      refine AW.seqR ?_
      refine AL.s rfl (op_load_ptrA (.e rfl) rfl rfl rfl ag29) ?_
      refine AL.s rfl (op_load_ptrA (.e rfl) rfl rfl rfl ag43) ?_
      refine AL.s rfl (op_fn Try.call17 (.e rfl) (.cons (.r rfl) (.cons (.r rfl) .nil)) (do_ok x (l.getD k zeroStp) hx (hl k))) ?_
      refine AL.s rfl (op_moveD (.e rfl)) ?_
      refine AL.s rfl (op_extractD (.e rfl) rfl) ?_
      refine AL.s rfl (op_extractD (.e rfl) rfl) ?_
      refine AL.s rfl (op_alloc (n := 4) zr29 rfl) ?_
      refine AL.s rfl (op_store (.e rfl) (.e rfl) rfl rfl rfl ⟨_, rfl, rfl⟩ rfl (Nat.le_of_ble_eq_true rfl)) ?_
      refine AL.s rfl (op_assignD (.e rfl)) ?_
      refine AL.nil ?_
      refine AW.seq ?_
      refine AW.seqR ?_
      refine AL.s rfl (op_moveD (.e rfl)) ?_
      refine AL.s rfl (op_neq (.r rfl) (.r rfl)) ?_
      refine AL.nil ?_
      refine AW.cond (b := _) rfl (fun hc3 => ?_) (fun hc3 => ?_)
      · skip
        refine AW.seqR ?_
        refine AL.s rfl (op_load_ptrA (.e rfl) rfl rfl rfl ag29) ?_
        refine AL.s rfl (op_moveD (.e rfl)) ?_
        refine AL.s rfl (op_moveD (.e rfl)) ?_
        refine AL.s rfl (op_storeA (.e rfl) (.e rfl) rfl rfl ⟨_, rfl, rfl⟩ rfl (Nat.le_of_ble_eq_true rfl)) ?_
        refine AL.s rfl (op_assignD (.e rfl)) ?_
        refine AL.s rfl (op_assignD (.e rfl)) ?_
        refine AL.nil ?_
        refine AW.ret ?_
        refine tq_ret ?_
        refine bq_ret ?_
        refine tq_ret ?_
        refine tq_ret ?_
        refine bq_ret ?_
        refine tq_ret ?_
        refine EndQ.d (.cellA (.e rfl) rfl rfl rfl ag29 (.tmp (.e rfl) (.tmp (.e rfl) .nil))) rfl ?_
        simp only [runI, hc1, if_false, Bool.false_eq_true, ↓reduceIte]; rw [hJ, runG_at (by simp at hc2; omega)]; simp only [hc3, if_true]; rfl
      · skip
        refine AW.skip ?_
        refine nq ?_
        refine AW.region ?_
        refine AL.s rfl (op_load_ptrA (.e rfl) rfl rfl rfl ag29) ?_
        refine AL.s rfl (op_storeA (.e rfl) (.e rfl) rfl rfl ⟨_, rfl, rfl⟩ rfl (Nat.le_of_ble_eq_true rfl)) ?_
        refine AL.nil ?_
        refine bq_n ?_
        refine nq ?_
        refine AW.region ?_
        refine AL.s rfl (op_add (.r rfl) (.r rfl) (w64 (by omega) (by simp at hc2; omega))) ?_
        refine AL.s rfl (op_moveD (.e rfl)) ?_
        refine AL.nil ?_
        refine nq ⟨(k + 1, (doI x (l.getD k zeroStp)).1), ?_, ?_, ⟨by first | exact .of rfl | exact .int (by omega) | exact .d rfl | exact .any, trivial⟩, ⟨rfl, rfl, rfl, rfl, rfl, trivial⟩, rfl, by first | exact Nat.le_of_ble_eq_true rfl | simp⟩
        · exact ⟨⟨by simp at hc2; omega, do_fits hx (hl k)⟩, by rw [hJ, runG_at (by simp at hc2; omega)]; simp only [hc3, if_false, Bool.false_eq_true, ↓reduceIte]; congr 1⟩
        · show l.length - (k + 1) < l.length - k; simp at hc2; omega
    · skip
      refine AW.exit ?_
      refine tq_exit ?_
      refine tq_exit ?_
      refine bq_hit ?_
      refine nq ?_
      refine AW.seqR ?_
      refine AL.s rfl (op_load_ptrA (.e rfl) rfl rfl rfl ag29) ?_
      refine AL.s rfl (op_moveD (.e rfl)) ?_
      refine AL.s rfl (op_lenN (.r rfl) (by first | exact List.length_map _ | rfl) sl34) ?_
      refine AL.s rfl (op_storeA (.e rfl) (.e rfl) rfl rfl ⟨_, rfl, rfl⟩ rfl (Nat.le_of_ble_eq_true rfl)) ?_
      refine AL.s rfl (op_assignD (.e rfl)) ?_
      refine AL.s rfl (op_assignD (.e rfl)) ?_
      refine AL.nil ?_
      refine AW.ret ?_
      refine EndQ.d (.cellA (.e rfl) rfl rfl rfl ag29 (.tmp (.e rfl) (.tmp (.e rfl) .nil))) rfl ?_
      simp only [runI, hc1, if_false, Bool.false_eq_true, ↓reduceIte]; rw [hJ, runG_end (by simp at hc2; omega)]; have : k = l.length := (by simp at hc2; omega); rw [this]; rfl

/-- bookplate/request.Late -/
theorem late_ok (r : Req) (now : Int) (hr : r.Fits) (hn : now ≤ 9223372036854775807) : Fn Try.prog 30 [r.e, .int .i64 now] (.int .i64 (lateI r now)) := by
  refine Fn.of_AW (fnn := Try.f30) Try.func30 rfl (Nat.le_of_ble_eq_true rfl) (fun g0 w0 hw0 => ?_)
  refine AW.seqR ?_
  refine AL.s rfl (op_box (n := 0) (.e rfl) rfl rfl rfl) ?_
  refine AL.s rfl (op_assignD (.e rfl)) ?_
  refine AL.nil ?_
  refine AW.seq ?_
  refine AW.seqR ?_
  refine AL.s rfl (op_load_ptrA (.e rfl) rfl rfl rfl ag29) ?_
  refine AL.s rfl (op_fn Try.call16 (.e rfl) (.cons (.r rfl) .nil) (valid_ok ⟨_, _, _, _, _, _, _, _, _⟩ hr)) ?_
  refine AL.s rfl (op_not (.r rfl)) ?_
  refine AL.s rfl (op_moveD (.e rfl)) ?_
  refine AL.sF rfl rfl rfl rfl (fun g => op_field_ptr (.e rfl) fd29_3) ?_
  refine AL.sF rfl rfl rfl rfl (fun g => op_load_ptr1 (.we (nt g) rfl) rfl rfl sc3) ?_
  refine AL.sF rfl rfl rfl rfl (fun g => op_neq (.we (nt g) rfl rfl) (.r rfl)) ?_
  refine AL.sF rfl rfl rfl rfl (fun g => op_moveD (.we (nt g) rfl)) ?_
  refine AL.sTT rfl rfl rfl rfl (fun gp g => op_field_ptr (.e rfl) fd29_3) ?_
  refine AL.sTT rfl rfl rfl rfl (fun gp g => op_load_ptr1 (.we (an gp g) rfl) rfl rfl sc3) ?_
  refine AL.sTT rfl rfl rfl rfl (fun gp g => op_neq (.we (an gp g) rfl rfl) (.r rfl)) ?_
  refine AL.sF rfl rfl rfl rfl (fun g => op_and (.we (nt g) rfl rfl) (fun h => (.we (an (nt g) h) rfl rfl)) rfl) ?_
  refine AL.s rfl (op_or (.r rfl) rfl (fun h => (.we (nt h) rfl rfl))) ?_
  refine AL.s rfl (op_moveD (.e rfl)) ?_
  refine AL.sF rfl rfl rfl rfl (fun g => op_moveD (.e rfl)) ?_
  refine AL.sF rfl rfl rfl rfl (fun g => op_field_ptr (.e rfl) fd29_7) ?_
  refine AL.sF rfl rfl rfl rfl (fun g => op_load_ptr1 (.we (nt g) rfl) rfl rfl sc3) ?_
  refine AL.sF rfl rfl rfl rfl (fun g => op_leq (.we (nt g) rfl rfl) (.we (nt g) rfl rfl)) ?_
  refine AL.s rfl (op_or (.r rfl) rfl (fun h => (.we (nt h) rfl rfl))) ?_
  refine AL.nil ?_
  refine AW.cond (b := _) rfl (fun hc1 => ?_) (fun hc1 => ?_)
  · skip
    refine AW.seqR ?_
    refine AL.s rfl (op_assignD (.e rfl)) ?_
    refine AL.nil ?_
    refine AW.ret ?_
    refine tq_ret ?_
    refine EndQ.d (.tmp (.e rfl) .nil) rfl ?_
    simp only [lateI, *, Bool.false_eq_true, ↓reduceIte] <;> rfl
  · skip
    refine AW.skip ?_
    refine nq ?_
    refine AW.seqR ?_
    refine AL.s rfl (op_moveD (.e rfl)) ?_
    refine AL.s rfl (op_field_ptr (.e rfl) fd29_7) ?_
    refine AL.s rfl (op_load_ptr1 (.e rfl) rfl rfl sc3) ?_
    refine AL.s rfl (op_sub (.r rfl) (.r rfl) (by have hv : validB r = true := (by revert hc1; cases validB r <;> simp); have o := (validB_ok hv).due; simp at hc1; exact w64 (by omega) (by omega))) ?_
    refine AL.s rfl (op_assignD (.e rfl)) ?_
    refine AL.nil ?_
    refine AW.ret ?_
    refine EndQ.d (.tmp (.e rfl) .nil) rfl ?_
    simp only [lateI, *, Bool.false_eq_true, ↓reduceIte] <;> rfl

/-- bookplate/request.ParseKind -/
theorem parseKind_ok (s : List UInt8) : Fn Try.prog 27 [.str s] (.tup [.int .i64 (parseK s 10 1).1, .int .i64 (parseK s 10 1).2]) := by
  refine Fn.of_AW (fnn := Try.f27) Try.func27 rfl (Nat.le_of_ble_eq_true rfl) (fun g0 w0 hw0 => ?_)
  refine AW.seqR ?_
  refine AL.s rfl (op_assignD (.e rfl)) ?_
  refine AL.s rfl (op_assignD (.e rfl)) ?_
  refine AL.nil ?_
  refine AW.seq ?_
  refine AW.seqR ?_
  refine AL.s rfl (op_assignD (.e rfl)) ?_
  refine AL.nil ?_
  refine AW.block ?_
  refine AW.loopE (α := Nat) (fun k => k ≤ 10 ∧ parseK s 10 1 = parseK s (10 - k) ((k : Int) + 1)) [0] (fun k => [(4, .d (.int .i64 ((k : Int) + 1)))]) (fun k => 10 - k) (0) (⟨by omega, rfl⟩) ⟨by first | exact .of rfl | exact .d rfl | exact .any | exact .int (by simp), trivial⟩ ?_
  intro k hI
  obtain ⟨hI, hJ⟩ := hI
  refine AW.seq ?_
  refine AW.seqR ?_
  refine AL.s rfl (op_moveD (.e rfl)) ?_
  refine AL.s rfl (op_leq (.r rfl) (.r rfl)) ?_
  refine AL.nil ?_
  refine AW.cond (b := _) rfl (fun hc1 => ?_) (fun hc1 => ?_)
  · skip
    refine AW.skip ?_
    refine nq ?_
    refine AW.seq ?_
    refine AW.block ?_
    refine AW.seqR ?_
    refine AL.s rfl (op_moveD (.e rfl)) ?_
    refine AL.s rfl (op_fn Try.call25 (.e rfl) (.cons (.r rfl) .nil) (kindName_ok _)) ?_
    refine AL.s rfl (op_moveD (.e rfl)) ?_
    refine AL.s rfl (op_eqlS (.r rfl) (.r rfl)) ?_
    refine AL.nil ?_
    refine AW.cond (b := _) rfl (fun hc2 => ?_) (fun hc2 => ?_)
    · skip
      refine AW.seqR ?_
      refine AL.s rfl (op_moveD (.e rfl)) ?_
      refine AL.s rfl (op_assignD (.e rfl)) ?_
      refine AL.s rfl (op_assignD (.e rfl)) ?_
      refine AL.nil ?_
      refine AW.ret ?_
      refine bq_ret ?_
      refine tq_ret ?_
      refine tq_ret ?_
      refine bq_ret ?_
      refine tq_ret ?_
      refine EndQ.d (.tmp (.e rfl) (.tmp (.e rfl) .nil)) rfl ?_
      simp at hc1; obtain ⟨m, hm⟩ : ∃ m, 10 - k = m + 1 := ⟨9 - k, by omega⟩; rw [hJ, hm, parseK]; simp only [hc2, if_true]; rfl
    · skip
      refine AW.skip ?_
      refine bq_n ?_
      refine nq ?_
      refine AW.region ?_
      refine AL.s rfl (op_moveD (.e rfl)) ?_
      refine AL.s rfl (op_add (.r rfl) (.r rfl) (w64 (by omega) (by omega))) ?_
      refine AL.s rfl (op_assignD (.e rfl)) ?_
      refine AL.nil ?_
      refine nq ⟨k + 1, ?_, ?_, ⟨by first | exact .of rfl | exact .int (by omega) | exact .d rfl | exact .any, trivial⟩, ⟨rfl, trivial⟩, rfl⟩
      · simp at hc1; obtain ⟨m, hm⟩ : ∃ m, 10 - k = m + 1 := ⟨9 - k, by omega⟩; exact ⟨by omega, by rw [hJ, hm, parseK]; simp only [hc2, if_false, Bool.false_eq_true, ↓reduceIte]; congr 1; omega⟩
      · simp at hc1; omega
  · skip
    refine AW.exit ?_
    refine tq_exit ?_
    refine tq_exit ?_
    refine bq_hit ?_
    refine nq ?_
    refine AW.seqR ?_
    refine AL.s rfl (op_assignD (.e rfl)) ?_
    refine AL.s rfl (op_assignD (.e rfl)) ?_
    refine AL.nil ?_
    refine AW.ret ?_
    refine EndQ.d (.tmp (.e rfl) (.tmp (.e rfl) .nil)) rfl ?_
    have hk : k = 10 := (by simp at hc1; omega); subst hk; rw [hJ]; rfl

end Go.Proofs.Ytciojlggdnmncaa.Ab
