/- The law on ends. Conditions: none. -/
import Derived.Test.YtciojlggdnmncaaSz
import Derived.Test.YtciojlggdnmncaaFu
set_option maxRecDepth 100000
namespace Go.Proofs.Ytciojlggdnmncaa.Ab
open Go 

/-- bookplate/bookplatelaw55.RequestEnds -/
theorem requestEnds_ok (r : Req) (hr : r.Fits) : Fn Try.prog 6 [r.e] (.bool true) := by
  refine Fn.of_AW (fnn := Try.f6) Try.func6 rfl (Nat.le_of_ble_eq_true rfl) (fun g0 w0 hw0 => ?_)
  refine AW.seqR ?_
  refine AL.s rfl (op_box (n := 0) (.e rfl) rfl rfl rfl) ?_
  refine AL.s rfl (op_assignD (.e rfl)) ?_
  refine AL.nil ?_
  refine AW.seq ?_
  refine AW.seqR ?_
  refine AL.s rfl (op_fn Try.call8 (.e rfl) .nil awake_ok) ?_
  refine AL.s rfl (op_not (.r rfl)) ?_
  refine AL.s rfl (op_moveD (.e rfl)) ?_
  refine AL.sF rfl rfl rfl rfl (fun g => op_load_ptrA (.e rfl) rfl rfl rfl ag24) ?_
  refine AL.sF rfl rfl rfl rfl (fun g => op_fn Try.call9 (.e rfl) (.cons (.we (nt g) rfl rfl) .nil) (few_ok ⟨_, _, _, _, _, _, _, _, _⟩ hr.tried)) ?_
  refine AL.sF rfl rfl rfl rfl (fun g => op_not (.we (nt g) rfl rfl)) ?_
  refine AL.s rfl (op_or (.r rfl) rfl (fun h => (.we (nt h) rfl rfl))) ?_
  refine AL.s rfl (op_moveD (.e rfl)) ?_
  refine AL.sF rfl rfl rfl rfl (fun g => op_load_ptrA (.e rfl) rfl rfl rfl ag24) ?_
  refine AL.sF rfl rfl rfl rfl (fun g => op_fn Try.call18 (.e rfl) (.cons (.we (nt g) rfl rfl) .nil) (rvalid_ok ⟨_, _, _, _, _, _, _, _, _⟩ hr)) ?_
  refine AL.sF rfl rfl rfl rfl (fun g => op_not (.we (nt g) rfl rfl)) ?_
  refine AL.s rfl (op_or (.r rfl) rfl (fun h => (.we (nt h) rfl rfl))) ?_
  refine AL.s rfl (op_moveD (.e rfl)) ?_
  refine AL.sF rfl rfl rfl rfl (fun g => op_field_ptr (.e rfl) fd24_3) ?_
  refine AL.sF rfl rfl rfl rfl (fun g => op_load_ptr1 (.we (nt g) rfl) rfl rfl sc3) ?_
  refine AL.sF rfl rfl rfl rfl (fun g => op_eql (.we (nt g) rfl rfl) (.r rfl)) ?_
  refine AL.sF rfl rfl rfl rfl (fun g => op_moveD (.we (nt g) rfl)) ?_
  refine AL.sTT rfl rfl rfl rfl (fun gp g => op_field_ptr (.e rfl) fd24_4) ?_
  refine AL.sTT rfl rfl rfl rfl (fun gp g => op_load_ptr1 (.we (an gp g) rfl) rfl rfl sc3) ?_
  refine AL.sTT rfl rfl rfl rfl (fun gp g => op_eql (.we (an gp g) rfl rfl) (.r rfl)) ?_
  refine AL.sF rfl rfl rfl rfl (fun g => op_and (.we (nt g) rfl rfl) (fun h => (.we (an (nt g) h) rfl rfl)) rfl) ?_
  refine AL.s rfl (op_or (.r rfl) rfl (fun h => (.we (nt h) rfl rfl))) ?_
  refine AL.nil ?_
  refine AW.cond (b := _) rfl (fun hc1 => ?_) (fun hc1 => ?_)
  · skip
    refine AW.seqR ?_
    refine AL.s rfl (op_fn Try.call8 (.e rfl) .nil awake_ok) ?_
    refine AL.s rfl (op_assignD (.e rfl)) ?_
    refine AL.nil ?_
    refine AW.ret ?_
    refine tq_ret ?_
    refine EndQ.d (.tmp (.e rfl) .nil) rfl ?_
    rfl
  · skip
    have hv : validB r = true := (by simp at hc1; exact hc1.1.2); have hq : ¬ (r.st = 3 ∧ r.tm = 1000000) := (by simp at hc1; intro h; exact hc1.2 h.1 h.2)
    refine AW.skip ?_
    refine nq ?_
    refine AW.seqR ?_
    refine AL.s rfl (op_load_ptrA (.e rfl) rfl rfl rfl ag24) ?_
    refine AL.s rfl (op_fn Try.call12 (.e rfl) (.cons (.r rfl) .nil) (own_ok ⟨_, _, _, _, _, _, _, _, _⟩)) ?_
    refine AL.s rfl (op_alloc (n := 1) zr29 rfl) ?_
    refine AL.s rfl (op_store (.e rfl) (.e rfl) rfl rfl rfl ⟨_, rfl, rfl⟩ rfl (Nat.le_of_ble_eq_true rfl)) ?_
    refine AL.nil ?_
    refine AW.seq ?_
    refine AW.seqR ?_
    refine AL.s rfl (op_moveD (.e rfl)) ?_
    refine AL.nil ?_
    refine AW.block ?_
    refine AW.loopT 2 (α := Nat × Req) (fun x => match x with | ⟨k, x⟩ => EndsI x k) [3] (fun x => match x with | ⟨k, x⟩ => [(32, .d (.int .i64 (k : Int)))]) (fun x => match x with | ⟨k, x⟩ => [.row [.d (.int .i64 r.id), .d (.int .i64 r.work), .d (.str r.lib), .d (.int .i64 r.st), .d (.int .i64 r.tm), .d (.str r.lender), .d (.sl (r.tried.map .str)), .d (.int .i64 r.due), .d (.int .i64 r.ren)], .row [.d (.int .i64 x.id), .d (.int .i64 x.work), .d (.str x.lib), .d (.int .i64 x.st), .d (.int .i64 x.tm), .d (.str x.lender), .d (.sl (x.tried.map .str)), .d (.int .i64 x.due), .d (.int .i64 x.ren)]]) (fun x => match x with | ⟨k, x⟩ => 5 - k) ((0, r)) (ends_start hv hr hq) (WOK.g0 hw0 (by simp)) (fun x => .ofB (by first | rfl | (cases x; rfl))) (.ofB rfl) (fun x => .ofB (by first | rfl | (cases x; rfl))) ⟨by first | exact .of rfl | exact .d rfl | exact .any | exact .int (by simp), trivial⟩ rfl ?_
    rintro ⟨k, x⟩ hI
    refine AW.seqR ?_
    refine AL.s rfl (op_lss (.r rfl) (.r rfl)) ?_
    refine AL.nil ?_
    refine AW.seq ?_
    refine AW.cond (b := _) rfl (fun hc2 => ?_) (fun hc2 => ?_)
    · skip
      have ht := (validB_ok hI.v).tm
      refine AW.skip ?_
      refine nq ?_
      refine AW.seq ?_
      refine AW.block ?_
      refine AW.seqR ?_
      refine AL.s rfl (op_field_ptr (.e rfl) fd29_4) ?_
      refine AL.s rfl (op_load_ptr1 (.e rfl) rfl rfl sc3) ?_
      refine AL.s rfl (op_build bd43 (.cons (.e rfl) rfl rfl rfl rfl (Nat.le_of_ble_eq_true rfl) .nil)) ?_
      refine AL.s rfl (op_alloc (n := 2) zr43 rfl) ?_
      refine AL.s rfl (op_storeA (.e rfl) (.e rfl) rfl rfl ⟨_, rfl, rfl⟩ rfl (Nat.le_of_ble_eq_true rfl)) ?_
      refine AL.nil ?_
      refine AW.seq ?_
      refine AW.seqR ?_
      refine AL.s rfl (op_field_ptr (.e rfl) fd29_3) ?_
      refine AL.s rfl (op_load_ptr1 (.e rfl) rfl rfl sc3) ?_
      refine AL.nil ?_
      refine AW.block ?_
      refine AW.seq ?_
      refine AW.seqR ?_
      refine AL.s rfl (op_eql (.r rfl) (.r rfl)) ?_
      refine AL.s rfl (op_assignD (.e rfl)) ?_
      refine AL.nil ?_
      refine AW.cond (b := _) rfl (fun hc3 => ?_) (fun hc3 => ?_)
      · skip
        refine AW.skip ?_
        refine nq ?_
        refine AW.cond (b := _) rfl (fun hc4 => ?_) (fun hc4 => ?_)
        · skip
          refine AW.region ?_
          refine AL.s rfl (op_field_ptr (.e rfl) fd43_0) ?_
          refine AL.s rfl (op_storeD (.e rfl) (.e rfl) rfl rfl rfl ⟨_, rfl, rfl⟩ (Nat.le_of_ble_eq_true rfl)) ?_
          refine AL.nil ?_
          refine bq_n ?_
          refine nq ?_
          refine AW.seqR ?_
          refine AL.s rfl (op_load_ptrA (.e rfl) rfl rfl rfl ag29) ?_
          refine AL.s rfl (op_load_ptrA (.e rfl) rfl rfl rfl ag43) ?_
          refine AL.s rfl (op_fn Try.call17 (.e rfl) (.cons (.r rfl) (.cons (.r rfl) .nil)) (do_ok ⟨_, _, _, _, _, _, _, _, _⟩ ⟨_, _, _, _⟩ hI.f (Nat.zero_le _))) ?_
          refine AL.s rfl (op_moveD (.e rfl)) ?_
          refine AL.s rfl (op_extractD (.e rfl) rfl) ?_
          refine AL.s rfl (op_extractD (.e rfl) rfl) ?_
          refine AL.s rfl (op_alloc (n := 3) zr29 rfl) ?_
          refine AL.s rfl (op_store (.e rfl) (.e rfl) rfl rfl rfl ⟨_, rfl, rfl⟩ rfl (Nat.le_of_ble_eq_true rfl)) ?_
          refine AL.s rfl (op_assignD (.e rfl)) ?_
          refine AL.nil ?_
          refine AW.seq ?_
          refine AW.seqR ?_
          refine AL.s rfl (op_moveD (.e rfl)) ?_
          refine AL.s rfl (op_neq (.r rfl) (.r rfl)) ?_
          refine AL.nil ?_
          refine AW.cond (b := _) rfl (fun hc5 => ?_) (fun hc5 => ?_)
          · skip
            exact (ends_dead hI (s := ⟨9, x.tm, [], 0⟩) (.inl ⟨.inl (of_decide_eq_true hc3), rfl⟩) hc5).elim
          · skip
            refine AW.skip ?_
            refine nq ?_
            refine AW.region ?_
            refine AL.s rfl (op_load_ptrA (.e rfl) rfl rfl rfl ag29) ?_
            refine AL.s rfl (op_storeA (.e rfl) (.e rfl) rfl rfl ⟨_, rfl, rfl⟩ rfl (Nat.le_of_ble_eq_true rfl)) ?_
            refine AL.nil ?_
            refine bq_n ?_
            refine nq ?_
            refine AW.region ?_
            refine AL.s rfl (op_add (.r rfl) (.r rfl) (w64 (by omega) (by simp at hc2; omega))) ?_
            refine AL.s rfl (op_moveD (.e rfl)) ?_
            refine AL.nil ?_
            refine nq ⟨(k + 1, (doI x ⟨9, x.tm, [], 0⟩).1), ?_, ?_, ⟨by first | exact .of rfl | exact .int (by omega) | exact .d rfl | exact .any, trivial⟩, ⟨rfl, trivial⟩, rfl, by first | exact Nat.le_of_ble_eq_true rfl | simp⟩
            · exact ends_round hI (.inl ⟨.inl (of_decide_eq_true hc3), rfl⟩) rfl
            · simp at hc2; show 5 - (k + 1) < 5 - k; omega
        · skip
          exact absurd hc3 (by rw [hc4]; decide)
      · skip
        refine AW.region ?_
        refine AL.s rfl (op_eql (.r rfl) (.r rfl)) ?_
        refine AL.s rfl (op_assignD (.e rfl)) ?_
        refine AL.nil ?_
        refine nq ?_
        refine AW.cond (b := _) rfl (fun hc6 => ?_) (fun hc6 => ?_)
        · skip
          refine AW.region ?_
          refine AL.s rfl (op_field_ptr (.e rfl) fd43_0) ?_
          refine AL.s rfl (op_storeD (.e rfl) (.e rfl) rfl rfl rfl ⟨_, rfl, rfl⟩ (Nat.le_of_ble_eq_true rfl)) ?_
          refine AL.nil ?_
          refine bq_n ?_
          refine nq ?_
          refine AW.seqR ?_
          refine AL.s rfl (op_load_ptrA (.e rfl) rfl rfl rfl ag29) ?_
          refine AL.s rfl (op_load_ptrA (.e rfl) rfl rfl rfl ag43) ?_
          refine AL.s rfl (op_fn Try.call17 (.e rfl) (.cons (.r rfl) (.cons (.r rfl) .nil)) (do_ok ⟨_, _, _, _, _, _, _, _, _⟩ ⟨_, _, _, _⟩ hI.f (Nat.zero_le _))) ?_
          refine AL.s rfl (op_moveD (.e rfl)) ?_
          refine AL.s rfl (op_extractD (.e rfl) rfl) ?_
          refine AL.s rfl (op_extractD (.e rfl) rfl) ?_
          refine AL.s rfl (op_alloc (n := 3) zr29 rfl) ?_
          refine AL.s rfl (op_store (.e rfl) (.e rfl) rfl rfl rfl ⟨_, rfl, rfl⟩ rfl (Nat.le_of_ble_eq_true rfl)) ?_
          refine AL.s rfl (op_assignD (.e rfl)) ?_
          refine AL.nil ?_
          refine AW.seq ?_
          refine AW.seqR ?_
          refine AL.s rfl (op_moveD (.e rfl)) ?_
          refine AL.s rfl (op_neq (.r rfl) (.r rfl)) ?_
          refine AL.nil ?_
          refine AW.cond (b := _) rfl (fun hc7 => ?_) (fun hc7 => ?_)
          · skip
            exact (ends_dead hI (s := ⟨9, x.tm, [], 0⟩) (.inl ⟨.inr (of_decide_eq_true hc6), rfl⟩) hc7).elim
          · skip
            refine AW.skip ?_
            refine nq ?_
            refine AW.region ?_
            refine AL.s rfl (op_load_ptrA (.e rfl) rfl rfl rfl ag29) ?_
            refine AL.s rfl (op_storeA (.e rfl) (.e rfl) rfl rfl ⟨_, rfl, rfl⟩ rfl (Nat.le_of_ble_eq_true rfl)) ?_
            refine AL.nil ?_
            refine bq_n ?_
            refine nq ?_
            refine AW.region ?_
            refine AL.s rfl (op_add (.r rfl) (.r rfl) (w64 (by omega) (by simp at hc2; omega))) ?_
            refine AL.s rfl (op_moveD (.e rfl)) ?_
            refine AL.nil ?_
            refine nq ⟨(k + 1, (doI x ⟨9, x.tm, [], 0⟩).1), ?_, ?_, ⟨by first | exact .of rfl | exact .int (by omega) | exact .d rfl | exact .any, trivial⟩, ⟨rfl, trivial⟩, rfl, by first | exact Nat.le_of_ble_eq_true rfl | simp⟩
            · exact ends_round hI (.inl ⟨.inr (of_decide_eq_true hc6), rfl⟩) rfl
            · simp at hc2; show 5 - (k + 1) < 5 - k; omega
        · skip
          refine AW.seqR ?_
          refine AL.s rfl (op_eql (.r rfl) (.r rfl)) ?_
          refine AL.s rfl (op_assignD (.e rfl)) ?_
          refine AL.nil ?_
          refine AW.cond (b := _) rfl (fun hc8 => ?_) (fun hc8 => ?_)
          · skip
            refine AW.drawn [([], []), ([1], []), ([], []), ([], []), ([2], [2]), ([], []), ([2], [2])] mo (by decide +kernel) ?_
            refine AD.s (ws := []) rfl rfl (fun H' _ hH => op_field_ptr (.e rfl) fd29_4) ?_
            refine AD.s (ws := []) rfl rfl (fun H' _ hH => op_load_ptr1 (.e rfl) ((hH _ (by first | exact List.Mem.head _ | simp)).trans rfl) rfl sc3) ?_
            refine AD.s (ws := []) rfl rfl (fun H' _ hH => op_add (.r rfl) (.r rfl) (w64 (by omega) (by omega))) ?_
            refine AD.s (ws := []) rfl rfl (fun H' _ hH => op_field_ptr (.e rfl) fd43_0) ?_
            refine AD.s (ws := [(2, _)]) rfl rfl (fun H' _ hH => op_storeD (.e rfl) (.e rfl) ((hH _ (by first | exact List.Mem.head _ | simp)).trans rfl) rfl rfl ⟨_, rfl, rfl⟩ (Nat.le_of_ble_eq_true rfl)) ?_
            refine AD.s (ws := []) rfl rfl (fun H' _ hH => op_field_ptr (.e rfl) fd43_3) ?_
            refine AD.s (ws := [(2, _)]) rfl rfl (fun H' _ hH => op_storeD (.e rfl) (.e rfl) ((hH _ (by first | exact List.Mem.head _ | simp)).trans rfl) rfl rfl ⟨_, rfl, rfl⟩ (Nat.le_of_ble_eq_true rfl)) ?_
            refine AD.nil ?_
            refine bq_n ?_
            refine nq ?_
            refine AW.seqR ?_
            refine AL.s rfl (op_load_ptrA (.e rfl) rfl rfl rfl ag29) ?_
            refine AL.s rfl (op_load_ptrA (.e rfl) rfl rfl rfl ag43) ?_
            refine AL.s rfl (op_fn Try.call17 (.e rfl) (.cons (.r rfl) (.cons (.r rfl) .nil)) (do_ok ⟨_, _, _, _, _, _, _, _, _⟩ ⟨_, _, _, _⟩ hI.f (Nat.zero_le _))) ?_
            refine AL.s rfl (op_moveD (.e rfl)) ?_
            refine AL.s rfl (op_extractD (.e rfl) rfl) ?_
            refine AL.s rfl (op_extractD (.e rfl) rfl) ?_
            refine AL.s rfl (op_alloc (n := 3) zr29 rfl) ?_
            refine AL.s rfl (op_store (.e rfl) (.e rfl) rfl rfl rfl ⟨_, rfl, rfl⟩ rfl (Nat.le_of_ble_eq_true rfl)) ?_
            refine AL.s rfl (op_assignD (.e rfl)) ?_
            refine AL.nil ?_
            refine AW.seq ?_
            refine AW.seqR ?_
            refine AL.s rfl (op_moveD (.e rfl)) ?_
            refine AL.s rfl (op_neq (.r rfl) (.r rfl)) ?_
            refine AL.nil ?_
            refine AW.cond (b := _) rfl (fun hc9 => ?_) (fun hc9 => ?_)
            · skip
              exact (ends_dead hI (s := ⟨4, x.tm, [], x.tm + 1⟩) (.inr (.inl ⟨of_decide_eq_true hc8, rfl⟩)) hc9).elim
            · skip
              refine AW.skip ?_
              refine nq ?_
              refine AW.region ?_
              refine AL.s rfl (op_load_ptrA (.e rfl) rfl rfl rfl ag29) ?_
              refine AL.s rfl (op_storeA (.e rfl) (.e rfl) rfl rfl ⟨_, rfl, rfl⟩ rfl (Nat.le_of_ble_eq_true rfl)) ?_
              refine AL.nil ?_
              refine bq_n ?_
              refine nq ?_
              refine AW.region ?_
              refine AL.s rfl (op_add (.r rfl) (.r rfl) (w64 (by omega) (by simp at hc2; omega))) ?_
              refine AL.s rfl (op_moveD (.e rfl)) ?_
              refine AL.nil ?_
              refine nq ⟨(k + 1, (doI x ⟨4, x.tm, [], x.tm + 1⟩).1), ?_, ?_, ⟨by first | exact .of rfl | exact .int (by omega) | exact .d rfl | exact .any, trivial⟩, ⟨rfl, trivial⟩, rfl, by first | exact Nat.le_of_ble_eq_true rfl | simp⟩
              · exact ends_round hI (.inr (.inl ⟨of_decide_eq_true hc8, rfl⟩)) rfl
              · simp at hc2; show 5 - (k + 1) < 5 - k; omega
          · skip
            refine AW.seq ?_
            refine AW.seqR ?_
            refine AL.s rfl (op_eql (.r rfl) (.r rfl)) ?_
            refine AL.s rfl (op_assignD (.e rfl)) ?_
            refine AL.nil ?_
            refine AW.cond (b := _) rfl (fun hc10 => ?_) (fun hc10 => ?_)
            · skip
              refine AW.skip ?_
              refine nq ?_
              refine AW.cond (b := _) rfl (fun hc11 => ?_) (fun hc11 => ?_)
              · skip
                refine AW.region ?_
                refine AL.s rfl (op_field_ptr (.e rfl) fd43_0) ?_
                refine AL.s rfl (op_storeD (.e rfl) (.e rfl) rfl rfl rfl ⟨_, rfl, rfl⟩ (Nat.le_of_ble_eq_true rfl)) ?_
                refine AL.nil ?_
                refine bq_n ?_
                refine nq ?_
                refine AW.seqR ?_
                refine AL.s rfl (op_load_ptrA (.e rfl) rfl rfl rfl ag29) ?_
                refine AL.s rfl (op_load_ptrA (.e rfl) rfl rfl rfl ag43) ?_
                refine AL.s rfl (op_fn Try.call17 (.e rfl) (.cons (.r rfl) (.cons (.r rfl) .nil)) (do_ok ⟨_, _, _, _, _, _, _, _, _⟩ ⟨_, _, _, _⟩ hI.f (Nat.zero_le _))) ?_
                refine AL.s rfl (op_moveD (.e rfl)) ?_
                refine AL.s rfl (op_extractD (.e rfl) rfl) ?_
                refine AL.s rfl (op_extractD (.e rfl) rfl) ?_
                refine AL.s rfl (op_alloc (n := 3) zr29 rfl) ?_
                refine AL.s rfl (op_store (.e rfl) (.e rfl) rfl rfl rfl ⟨_, rfl, rfl⟩ rfl (Nat.le_of_ble_eq_true rfl)) ?_
                refine AL.s rfl (op_assignD (.e rfl)) ?_
                refine AL.nil ?_
                refine AW.seq ?_
                refine AW.seqR ?_
                refine AL.s rfl (op_moveD (.e rfl)) ?_
                refine AL.s rfl (op_neq (.r rfl) (.r rfl)) ?_
                refine AL.nil ?_
                refine AW.cond (b := _) rfl (fun hc12 => ?_) (fun hc12 => ?_)
                · skip
                  exact (ends_dead hI (s := ⟨7, x.tm, [], 0⟩) (.inr (.inr (.inl ⟨.inl (of_decide_eq_true hc10), rfl⟩))) hc12).elim
                · skip
                  refine AW.skip ?_
                  refine nq ?_
                  refine AW.region ?_
                  refine AL.s rfl (op_load_ptrA (.e rfl) rfl rfl rfl ag29) ?_
                  refine AL.s rfl (op_storeA (.e rfl) (.e rfl) rfl rfl ⟨_, rfl, rfl⟩ rfl (Nat.le_of_ble_eq_true rfl)) ?_
                  refine AL.nil ?_
                  refine bq_n ?_
                  refine nq ?_
                  refine AW.region ?_
                  refine AL.s rfl (op_add (.r rfl) (.r rfl) (w64 (by omega) (by simp at hc2; omega))) ?_
                  refine AL.s rfl (op_moveD (.e rfl)) ?_
                  refine AL.nil ?_
                  refine nq ⟨(k + 1, (doI x ⟨7, x.tm, [], 0⟩).1), ?_, ?_, ⟨by first | exact .of rfl | exact .int (by omega) | exact .d rfl | exact .any, trivial⟩, ⟨rfl, trivial⟩, rfl, by first | exact Nat.le_of_ble_eq_true rfl | simp⟩
                  · exact ends_round hI (.inr (.inr (.inl ⟨.inl (of_decide_eq_true hc10), rfl⟩))) rfl
                  · simp at hc2; show 5 - (k + 1) < 5 - k; omega
              · skip
                exact absurd hc10 (by rw [hc11]; decide)
            · skip
              refine AW.region ?_
              refine AL.s rfl (op_eql (.r rfl) (.r rfl)) ?_
              refine AL.s rfl (op_assignD (.e rfl)) ?_
              refine AL.nil ?_
              refine nq ?_
              refine AW.cond (b := _) rfl (fun hc13 => ?_) (fun hc13 => ?_)
              · skip
                refine AW.region ?_
                refine AL.s rfl (op_field_ptr (.e rfl) fd43_0) ?_
                refine AL.s rfl (op_storeD (.e rfl) (.e rfl) rfl rfl rfl ⟨_, rfl, rfl⟩ (Nat.le_of_ble_eq_true rfl)) ?_
                refine AL.nil ?_
                refine bq_n ?_
                refine nq ?_
                refine AW.seqR ?_
                refine AL.s rfl (op_load_ptrA (.e rfl) rfl rfl rfl ag29) ?_
                refine AL.s rfl (op_load_ptrA (.e rfl) rfl rfl rfl ag43) ?_
                refine AL.s rfl (op_fn Try.call17 (.e rfl) (.cons (.r rfl) (.cons (.r rfl) .nil)) (do_ok ⟨_, _, _, _, _, _, _, _, _⟩ ⟨_, _, _, _⟩ hI.f (Nat.zero_le _))) ?_
                refine AL.s rfl (op_moveD (.e rfl)) ?_
                refine AL.s rfl (op_extractD (.e rfl) rfl) ?_
                refine AL.s rfl (op_extractD (.e rfl) rfl) ?_
                refine AL.s rfl (op_alloc (n := 3) zr29 rfl) ?_
                refine AL.s rfl (op_store (.e rfl) (.e rfl) rfl rfl rfl ⟨_, rfl, rfl⟩ rfl (Nat.le_of_ble_eq_true rfl)) ?_
                refine AL.s rfl (op_assignD (.e rfl)) ?_
                refine AL.nil ?_
                refine AW.seq ?_
                refine AW.seqR ?_
                refine AL.s rfl (op_moveD (.e rfl)) ?_
                refine AL.s rfl (op_neq (.r rfl) (.r rfl)) ?_
                refine AL.nil ?_
                refine AW.cond (b := _) rfl (fun hc14 => ?_) (fun hc14 => ?_)
                · skip
                  exact (ends_dead hI (s := ⟨7, x.tm, [], 0⟩) (.inr (.inr (.inl ⟨.inr (of_decide_eq_true hc13), rfl⟩))) hc14).elim
                · skip
                  refine AW.skip ?_
                  refine nq ?_
                  refine AW.region ?_
                  refine AL.s rfl (op_load_ptrA (.e rfl) rfl rfl rfl ag29) ?_
                  refine AL.s rfl (op_storeA (.e rfl) (.e rfl) rfl rfl ⟨_, rfl, rfl⟩ rfl (Nat.le_of_ble_eq_true rfl)) ?_
                  refine AL.nil ?_
                  refine bq_n ?_
                  refine nq ?_
                  refine AW.region ?_
                  refine AL.s rfl (op_add (.r rfl) (.r rfl) (w64 (by omega) (by simp at hc2; omega))) ?_
                  refine AL.s rfl (op_moveD (.e rfl)) ?_
                  refine AL.nil ?_
                  refine nq ⟨(k + 1, (doI x ⟨7, x.tm, [], 0⟩).1), ?_, ?_, ⟨by first | exact .of rfl | exact .int (by omega) | exact .d rfl | exact .any, trivial⟩, ⟨rfl, trivial⟩, rfl, by first | exact Nat.le_of_ble_eq_true rfl | simp⟩
                  · exact ends_round hI (.inr (.inr (.inl ⟨.inr (of_decide_eq_true hc13), rfl⟩))) rfl
                  · simp at hc2; show 5 - (k + 1) < 5 - k; omega
              · skip
                refine AW.seqR ?_
                refine AL.s rfl (op_eql (.r rfl) (.r rfl)) ?_
                refine AL.s rfl (op_assignD (.e rfl)) ?_
                refine AL.nil ?_
                refine AW.cond (b := _) rfl (fun hc15 => ?_) (fun hc15 => ?_)
                · skip
                  refine AW.region ?_
                  refine AL.s rfl (op_field_ptr (.e rfl) fd43_0) ?_
                  refine AL.s rfl (op_storeD (.e rfl) (.e rfl) rfl rfl rfl ⟨_, rfl, rfl⟩ (Nat.le_of_ble_eq_true rfl)) ?_
                  refine AL.nil ?_
                  refine bq_n ?_
                  refine nq ?_
                  refine AW.seqR ?_
                  refine AL.s rfl (op_load_ptrA (.e rfl) rfl rfl rfl ag29) ?_
                  refine AL.s rfl (op_load_ptrA (.e rfl) rfl rfl rfl ag43) ?_
                  refine AL.s rfl (op_fn Try.call17 (.e rfl) (.cons (.r rfl) (.cons (.r rfl) .nil)) (do_ok ⟨_, _, _, _, _, _, _, _, _⟩ ⟨_, _, _, _⟩ hI.f (Nat.zero_le _))) ?_
                  refine AL.s rfl (op_moveD (.e rfl)) ?_
                  refine AL.s rfl (op_extractD (.e rfl) rfl) ?_
                  refine AL.s rfl (op_extractD (.e rfl) rfl) ?_
                  refine AL.s rfl (op_alloc (n := 3) zr29 rfl) ?_
                  refine AL.s rfl (op_store (.e rfl) (.e rfl) rfl rfl rfl ⟨_, rfl, rfl⟩ rfl (Nat.le_of_ble_eq_true rfl)) ?_
                  refine AL.s rfl (op_assignD (.e rfl)) ?_
                  refine AL.nil ?_
                  refine AW.seq ?_
                  refine AW.seqR ?_
                  refine AL.s rfl (op_moveD (.e rfl)) ?_
                  refine AL.s rfl (op_neq (.r rfl) (.r rfl)) ?_
                  refine AL.nil ?_
                  refine AW.cond (b := _) rfl (fun hc16 => ?_) (fun hc16 => ?_)
                  · skip
                    exact (ends_dead hI (s := ⟨8, x.tm, [], 0⟩) (.inr (.inr (.inr ⟨of_decide_eq_true hc15, rfl⟩))) hc16).elim
                  · skip
                    refine AW.skip ?_
                    refine nq ?_
                    refine AW.region ?_
                    refine AL.s rfl (op_load_ptrA (.e rfl) rfl rfl rfl ag29) ?_
                    refine AL.s rfl (op_storeA (.e rfl) (.e rfl) rfl rfl ⟨_, rfl, rfl⟩ rfl (Nat.le_of_ble_eq_true rfl)) ?_
                    refine AL.nil ?_
                    refine bq_n ?_
                    refine nq ?_
                    refine AW.region ?_
                    refine AL.s rfl (op_add (.r rfl) (.r rfl) (w64 (by omega) (by simp at hc2; omega))) ?_
                    refine AL.s rfl (op_moveD (.e rfl)) ?_
                    refine AL.nil ?_
                    refine nq ⟨(k + 1, (doI x ⟨8, x.tm, [], 0⟩).1), ?_, ?_, ⟨by first | exact .of rfl | exact .int (by omega) | exact .d rfl | exact .any, trivial⟩, ⟨rfl, trivial⟩, rfl, by first | exact Nat.le_of_ble_eq_true rfl | simp⟩
                    · exact ends_round hI (.inr (.inr (.inr ⟨of_decide_eq_true hc15, rfl⟩))) rfl
                    · simp at hc2; show 5 - (k + 1) < 5 - k; omega
                · skip
                  refine AW.seqR ?_
                  refine AL.s rfl (op_field_ptr (.e rfl) fd29_3) ?_
                  refine AL.s rfl (op_load_ptr1 (.e rfl) rfl rfl sc3) ?_
                  refine AL.s rfl (op_fn Try.call20 (.e rfl) (.cons (.r rfl) .nil) (final_ok _)) ?_
                  refine AL.s rfl (op_assignD (.e rfl)) ?_
                  refine AL.nil ?_
                  refine AW.ret ?_
                  refine bq_ret ?_
                  refine tq_ret ?_
                  refine bq_ret ?_
                  refine tq_ret ?_
                  refine tq_ret ?_
                  refine bq_ret ?_
                  refine tq_ret ?_
                  refine EndQ.d (.tmp (.e rfl) .nil) rfl ?_
                  exact congrArg D.bool (ends_final hI (of_decide_eq_false hc3) (of_decide_eq_false hc6) (of_decide_eq_false hc8) (of_decide_eq_false hc10) (of_decide_eq_false hc13) (of_decide_eq_false hc15))
    · skip
      exact (ends_last hI (by simp at hc2; omega)).elim

end Go.Proofs.Ytciojlggdnmncaa.Ab
