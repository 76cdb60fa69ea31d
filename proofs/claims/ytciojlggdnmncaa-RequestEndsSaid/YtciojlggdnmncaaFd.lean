/- A step. Conditions: none. -/
import Derived.Test.YtciojlggdnmncaaSq
set_option maxRecDepth 100000
namespace Go.Proofs.Ytciojlggdnmncaa.Ab
open Go 

/-- bookplate/request.Do -/
theorem do_ok (r : Req) (s : Stp) (hr : r.Fits) (hs : s.lender.length ≤ 9223372036854775807) : Fn Try.prog 17 [r.e, s.e] (.tup [(doI r s).1.e, .int .i64 (doI r s).2]) := by
  refine Fn.of_AW (fnn := Try.f17) Try.func17 rfl (Nat.le_of_ble_eq_true rfl) (fun g0 w0 hw0 => ?_)
  refine AW.seqR ?_
  refine AL.s rfl (op_box (n := 0) (.e rfl) rfl rfl rfl) ?_
  refine AL.s rfl (op_box (n := 1) (.e rfl) rfl rfl rfl) ?_
  refine AL.s rfl (op_alloc (n := 2) zr29 rfl) ?_
  refine AL.s rfl (op_assignD (.e rfl)) ?_
  refine AL.nil ?_
  refine AW.seqR ?_
  refine AL.s rfl (op_field_ptr (.e rfl) fd43_0) ?_
  refine AL.s rfl (op_load_ptr1 (.e rfl) rfl rfl sc3) ?_
  refine AL.s rfl (op_eql (.r rfl) (.r rfl)) ?_
  refine AL.s rfl (op_moveD (.e rfl)) ?_
  refine AL.sF rfl rfl rfl rfl (fun g => op_field_ptr (.e rfl) fd43_0) ?_
  refine AL.sF rfl rfl rfl rfl (fun g => op_load_ptr1 (.we (nt g) rfl) rfl rfl sc3) ?_
  refine AL.sF rfl rfl rfl rfl (fun g => op_eql (.we (nt g) rfl rfl) (.r rfl)) ?_
  refine AL.s rfl (op_or (.r rfl) rfl (fun h => (.we (nt h) rfl rfl))) ?_
  refine AL.s rfl (op_assignD (.e rfl)) ?_
  refine AL.nil ?_
  refine AW.seq ?_
  refine AW.block ?_
  refine AW.seqR ?_
  refine AL.s rfl (op_load_ptrA (.e rfl) rfl rfl rfl ag29) ?_
  refine AL.s rfl (op_fn Try.call16 (.e rfl) (.cons (.r rfl) .nil) (valid_ok ⟨_, _, _, _, _, _, _, _, _⟩ hr)) ?_
  refine AL.s rfl (op_not (.r rfl)) ?_
  refine AL.s rfl (op_moveD (.e rfl)) ?_
  refine AL.sF rfl rfl rfl rfl (fun g => op_field_ptr (.e rfl) fd43_0) ?_
  refine AL.sF rfl rfl rfl rfl (fun g => op_load_ptr1 (.we (nt g) rfl) rfl rfl sc3) ?_
  refine AL.sF rfl rfl rfl rfl (fun g => op_fn Try.call35 (.e rfl) (.cons (.we (nt g) rfl rfl) (.cons (.r rfl) (.cons (.r rfl) .nil))) (in_ok _ _ _)) ?_
  refine AL.sF rfl rfl rfl rfl (fun g => op_not (.we (nt g) rfl rfl)) ?_
  refine AL.s rfl (op_or (.r rfl) rfl (fun h => (.we (nt h) rfl rfl))) ?_
  refine AL.s rfl (op_moveD (.e rfl)) ?_
  refine AL.sF rfl rfl rfl rfl (fun g => op_field_ptr (.e rfl) fd43_0) ?_
  refine AL.sF rfl rfl rfl rfl (fun g => op_load_ptr1 (.we (nt g) rfl) rfl rfl sc3) ?_
  refine AL.sF rfl rfl rfl rfl (fun g => op_neq (.we (nt g) rfl rfl) (.r rfl)) ?_
  refine AL.sF rfl rfl rfl rfl (fun g => op_moveD (.we (nt g) rfl)) ?_
  refine AL.sTT rfl rfl rfl rfl (fun gp g => op_field_ptr (.e rfl) fd43_2) ?_
  refine AL.sTT rfl rfl rfl rfl (fun gp g => op_load_ptr1 (.we (an gp g) rfl) rfl rfl sc9) ?_
  refine AL.sTT rfl rfl rfl rfl (fun gp g => op_neqS (.we (an gp g) rfl rfl) (.r rfl)) ?_
  refine AL.sF rfl rfl rfl rfl (fun g => op_and (.we (nt g) rfl rfl) (fun h => (.we (an (nt g) h) rfl rfl)) rfl) ?_
  refine AL.s rfl (op_or (.r rfl) rfl (fun h => (.we (nt h) rfl rfl))) ?_
  refine AL.s rfl (op_moveD (.e rfl)) ?_
  refine AL.sF rfl rfl rfl rfl (fun g => op_moveD (.e rfl)) ?_
  refine AL.sF rfl rfl rfl rfl (fun g => op_not (.we (nt g) rfl rfl)) ?_
  refine AL.sF rfl rfl rfl rfl (fun g => op_moveD (.we (nt g) rfl)) ?_
  refine AL.sTT rfl rfl rfl rfl (fun gp g => op_field_ptr (.e rfl) fd43_3) ?_
  refine AL.sTT rfl rfl rfl rfl (fun gp g => op_load_ptr1 (.we (an gp g) rfl) rfl rfl sc3) ?_
  refine AL.sTT rfl rfl rfl rfl (fun gp g => op_neq (.we (an gp g) rfl rfl) (.r rfl)) ?_
  refine AL.sF rfl rfl rfl rfl (fun g => op_and (.we (nt g) rfl rfl) (fun h => (.we (an (nt g) h) rfl rfl)) rfl) ?_
  refine AL.s rfl (op_or (.r rfl) rfl (fun h => (.we (nt h) rfl rfl))) ?_
  refine AL.s rfl (op_assignD (.e rfl)) ?_
  refine AL.nil ?_
  refine AW.cond (b := _) rfl (fun hc1 => ?_) (fun hc1 => ?_)
  · skip
    refine AW.seqR ?_
    refine AL.s rfl (op_build bd29 .nil) ?_
    refine AL.s rfl (op_storeA (.e rfl) (.e rfl) rfl rfl ⟨_, rfl, rfl⟩ rfl (Nat.le_of_ble_eq_true rfl)) ?_
    refine AL.s rfl (op_assignD (.e rfl)) ?_
    refine AL.nil ?_
    refine AW.ret ?_
    refine bq_ret ?_
    refine tq_ret ?_
    refine EndQ.d (.cellA (.e rfl) rfl rfl rfl ag29 (.tmp (.e rfl) .nil)) rfl ?_
    simp only [doI, hc1, Bool.false_eq_true, ↓reduceIte] <;> (try simp only [ Bool.false_eq_true, ↓reduceIte, stepR, Req.e, zeroReq, List.map_append, List.map_cons, List.map_nil]) <;> rfl
  · skip
    have ok : r.OK := validB_ok (pv hc1); have o1 := ok.tried; have o2 := ok.tm; have o3 := ok.ren
    refine AW.seqD [([], []), ([0], []), ([], []), ([], []), ([1], []), ([], []), ([], []), ([], [])] mo (by decide +kernel) ?_
    refine AD.s (ws := []) rfl rfl (fun H' _ hH => op_field_ptr (.e rfl) fd29_3) ?_
    refine AD.s (ws := []) rfl rfl (fun H' _ hH => op_load_ptr1 (.e rfl) ((hH _ (by first | exact List.Mem.head _ | simp)).trans rfl) rfl sc3) ?_
    refine AD.s (ws := []) rfl rfl (fun H' _ hH => op_fn Try.call19 (.e rfl) (.cons (.r rfl) .nil) (kinds_ok _)) ?_
    refine AD.s (ws := []) rfl rfl (fun H' _ hH => op_field_ptr (.e rfl) fd43_0) ?_
    refine AD.s (ws := []) rfl rfl (fun H' _ hH => op_load_ptr1 (.e rfl) ((hH _ (by first | exact List.Mem.head _ | simp)).trans rfl) rfl sc3) ?_
    refine AD.s (ws := []) rfl rfl (fun H' _ hH => op_fn Try.call40 (.e rfl) (.cons (.r rfl) (.cons (.r rfl) .nil)) (containsI_ok _ _ (kindsL_len _))) ?_
    refine AD.s (ws := []) rfl rfl (fun H' _ hH => op_not (.r rfl)) ?_
    refine AD.s (ws := []) rfl rfl (fun H' _ hH => op_assignD (.e rfl)) ?_
    refine AD.nil ?_
    refine AW.cond (b := _) rfl (fun hc2 => ?_) (fun hc2 => ?_)
    · skip
      refine AW.seqR ?_
      refine AL.s rfl (op_build bd29 .nil) ?_
      refine AL.s rfl (op_storeA (.e rfl) (.e rfl) rfl rfl ⟨_, rfl, rfl⟩ rfl (Nat.le_of_ble_eq_true rfl)) ?_
      refine AL.s rfl (op_assignD (.e rfl)) ?_
      refine AL.nil ?_
      refine AW.ret ?_
      refine bq_ret ?_
      refine tq_ret ?_
      refine EndQ.d (.cellA (.e rfl) rfl rfl rfl ag29 (.tmp (.e rfl) .nil)) rfl ?_
      simp only [doI, hc1, hc2, Bool.false_eq_true, ↓reduceIte] <;> (try simp only [ Bool.false_eq_true, ↓reduceIte, stepR, Req.e, zeroReq, List.map_append, List.map_cons, List.map_nil]) <;> rfl
    · skip
      refine AW.seqR ?_
      refine AL.s rfl (op_field_ptr (.e rfl) fd43_1) ?_
      refine AL.s rfl (op_load_ptr1 (.e rfl) rfl rfl sc3) ?_
      refine AL.s rfl (op_field_ptr (.e rfl) fd29_4) ?_
      refine AL.s rfl (op_load_ptr1 (.e rfl) rfl rfl sc3) ?_
      refine AL.s rfl (op_lss (.r rfl) (.r rfl)) ?_
      refine AL.s rfl (op_moveD (.e rfl)) ?_
      refine AL.sF rfl rfl rfl rfl (fun g => op_field_ptr (.e rfl) fd43_1) ?_
      refine AL.sF rfl rfl rfl rfl (fun g => op_load_ptr1 (.we (nt g) rfl) rfl rfl sc3) ?_
      refine AL.sF rfl rfl rfl rfl (fun g => op_gtr (.we (nt g) rfl rfl) (.r rfl)) ?_
      refine AL.s rfl (op_or (.r rfl) rfl (fun h => (.we (nt h) rfl rfl))) ?_
      refine AL.s rfl (op_assignD (.e rfl)) ?_
      refine AL.nil ?_
      refine AW.cond (b := _) rfl (fun hc3 => ?_) (fun hc3 => ?_)
      · skip
        refine AW.seqR ?_
        refine AL.s rfl (op_build bd29 .nil) ?_
        refine AL.s rfl (op_storeA (.e rfl) (.e rfl) rfl rfl ⟨_, rfl, rfl⟩ rfl (Nat.le_of_ble_eq_true rfl)) ?_
        refine AL.s rfl (op_assignD (.e rfl)) ?_
        refine AL.nil ?_
        refine AW.ret ?_
        refine bq_ret ?_
        refine tq_ret ?_
        refine EndQ.d (.cellA (.e rfl) rfl rfl rfl ag29 (.tmp (.e rfl) .nil)) rfl ?_
        simp only [doI, hc1, hc2, hc3, Bool.false_eq_true, ↓reduceIte] <;> (try simp only [ Bool.false_eq_true, ↓reduceIte, stepR, Req.e, zeroReq, List.map_append, List.map_cons, List.map_nil]) <;> rfl
      · skip
        refine AW.skip ?_
        refine bq_n ?_
        refine nq ?_
        refine AW.seq ?_
        refine AW.seqR ?_
        refine AL.s rfl (op_load_ptrA (.e rfl) rfl rfl rfl ag29) ?_
        refine AL.s rfl (op_load_ptrA (.e rfl) rfl rfl rfl ag43) ?_
        refine AL.s rfl (op_fn Try.call41 (.e rfl) (.cons (.r rfl) (.cons (.r rfl) .nil)) (refused_ok ⟨_, _, _, _, _, _, _, _, _⟩ ⟨_, _, _, _⟩ hr hs)) ?_
        refine AL.s rfl (op_assignD (.e rfl)) ?_
        refine AL.nil ?_
        refine AW.seqR ?_
        refine AL.s rfl (op_moveD (.e rfl)) ?_
        refine AL.s rfl (op_neq (.r rfl) (.r rfl)) ?_
        refine AL.nil ?_
        refine AW.cond (b := _) rfl (fun hc4 => ?_) (fun hc4 => ?_)
        · skip
          refine AW.seqR ?_
          refine AL.s rfl (op_build bd29 .nil) ?_
          refine AL.s rfl (op_moveD (.e rfl)) ?_
          refine AL.s rfl (op_storeA (.e rfl) (.e rfl) rfl rfl ⟨_, rfl, rfl⟩ rfl (Nat.le_of_ble_eq_true rfl)) ?_
          refine AL.s rfl (op_assignD (.e rfl)) ?_
          refine AL.nil ?_
          refine AW.ret ?_
          refine tq_ret ?_
          refine EndQ.d (.cellA (.e rfl) rfl rfl rfl ag29 (.tmp (.e rfl) .nil)) rfl ?_
          simp only [doI, hc1, hc2, hc3, hc4, Bool.false_eq_true, ↓reduceIte] <;> (try simp only [ Bool.false_eq_true, ↓reduceIte, stepR, Req.e, zeroReq, List.map_append, List.map_cons, List.map_nil]) <;> rfl
        · skip
          refine AW.skip ?_
          refine nq ?_
          refine AW.seqR ?_
          refine AL.s rfl (op_field_ptr (.e rfl) fd29_6) ?_
          refine AL.s rfl (op_load_ptr1 (.e rfl) rfl rfl sc22) ?_
          refine AL.s rfl (op_callD Try.call31 (.e rfl) (.cons (.r rfl) .nil) (FnK.at (n := 3) (cloneS_ok _ (by omega)) rfl)) ?_
          refine AL.s rfl (op_field_ptr (.e rfl) fd29_6) ?_
          refine AL.s rfl (op_store (.e rfl) (.e rfl) rfl rfl rfl ⟨_, rfl, rfl⟩ rfl (Nat.le_of_ble_eq_true rfl)) ?_
          refine AL.nil ?_
          refine AW.seqR ?_
          refine AL.s rfl (op_field_ptr (.e rfl) fd43_1) ?_
          refine AL.s rfl (op_load_ptr1 (.e rfl) rfl rfl sc3) ?_
          refine AL.s rfl (op_field_ptr (.e rfl) fd29_4) ?_
          refine AL.s rfl (op_storeD (.e rfl) (.e rfl) rfl rfl rfl ⟨_, rfl, rfl⟩ (Nat.le_of_ble_eq_true rfl)) ?_
          refine AL.nil ?_
          refine AW.seq ?_
          refine AW.seqR ?_
          refine AL.s rfl (op_field_ptr (.e rfl) fd43_0) ?_
          refine AL.s rfl (op_load_ptr1 (.e rfl) rfl rfl sc3) ?_
          refine AL.nil ?_
          refine AW.block ?_
          refine AW.seqR ?_
          refine AL.s rfl (op_eql (.r rfl) (.r rfl)) ?_
          refine AL.s rfl (op_assignD (.e rfl)) ?_
          refine AL.nil ?_
          refine AW.cond (b := _) rfl (fun hc5 => ?_) (fun hc5 => ?_)
          · skip
            refine AW.drawn [([], []), ([1], []), ([], []), ([0], [0]), ([], []), ([0], [0])] mo (by decide +kernel) ?_
            refine AD.s (ws := []) rfl rfl (fun H' _ hH => op_field_ptr (.e rfl) fd43_2) ?_
            refine AD.s (ws := []) rfl rfl (fun H' _ hH => op_load_ptr1 (.e rfl) ((hH _ (by first | exact List.Mem.head _ | simp)).trans rfl) rfl sc9) ?_
            refine AD.s (ws := []) rfl rfl (fun H' _ hH => op_field_ptr (.e rfl) fd29_3) ?_
            refine AD.s (ws := [(0, _)]) rfl rfl (fun H' _ hH => op_storeD (.e rfl) (.e rfl) ((hH _ (by first | exact List.Mem.head _ | simp)).trans rfl) rfl rfl ⟨_, rfl, rfl⟩ (Nat.le_of_ble_eq_true rfl)) ?_
            refine AD.s (ws := []) rfl rfl (fun H' _ hH => op_field_ptr (.e rfl) fd29_5) ?_
            refine AD.s (ws := [(0, _)]) rfl rfl (fun H' _ hH => op_storeD (.e rfl) (.e rfl) ((hH _ (by first | exact List.Mem.head _ | simp)).trans rfl) rfl rfl ⟨_, rfl, rfl⟩ (Nat.le_of_ble_eq_true rfl)) ?_
            refine AD.nil ?_
            refine bq_n ?_
            refine nq ?_
            refine AW.seqR ?_
            refine AL.s rfl (op_load_ptrA (.e rfl) rfl rfl rfl ag29) ?_
            refine AL.s rfl (op_storeA (.e rfl) (.e rfl) rfl rfl ⟨_, rfl, rfl⟩ rfl (Nat.le_of_ble_eq_true rfl)) ?_
            refine AL.s rfl (op_assignD (.e rfl)) ?_
            refine AL.nil ?_
            refine AW.ret ?_
            refine EndQ.d (.cellA (.e rfl) rfl rfl rfl ag29 (.tmp (.e rfl) .nil)) rfl ?_
            simp only [doI, hc1, hc2, hc3, hc4, Bool.false_eq_true, ↓reduceIte] <;> (try simp only [hc5,  Bool.false_eq_true, ↓reduceIte, stepR, Req.e, zeroReq, List.map_append, List.map_cons, List.map_nil]) <;> rfl
          · skip
            refine AW.seqR ?_
            refine AL.s rfl (op_eql (.r rfl) (.r rfl)) ?_
            refine AL.s rfl (op_assignD (.e rfl)) ?_
            refine AL.nil ?_
            refine AW.cond (b := _) rfl (fun hc6 => ?_) (fun hc6 => ?_)
            · skip
              refine AW.region ?_
              refine AL.s rfl (op_field_ptr (.e rfl) fd29_6) ?_
              refine AL.s rfl (op_load_ptr1 (.e rfl) rfl rfl sc22) ?_
              refine AL.s rfl (op_field_ptr (.e rfl) fd29_5) ?_
              refine AL.s rfl (op_load_ptr1 (.e rfl) rfl rfl sc9) ?_
              refine AL.s rfl (op_buildSlice sl22 (.cons (.r rfl) rfl (by simp [absD, absC, D.cells, D.one]) .nil) rfl (by decide)) ?_
              refine AL.s rfl (op_append sl22 (.e rfl) (.r rfl) rfl (by first | exact asz_pl (by simp [D.pl, absD, absC]; done) | simp [absD, absC, D.cells]) (by first | exact aone_pl (by simp [D.pl, absD, absC]; done) | simp [absD, absC, D.cells, D.one]) (by simp; omega) (by simp; omega)) ?_
              refine AL.s rfl (op_field_ptr (.e rfl) fd29_3) ?_
              refine AL.s rfl (op_storeD (.e rfl) (.e rfl) rfl rfl rfl ⟨_, rfl, rfl⟩ (Nat.le_of_ble_eq_true rfl)) ?_
              refine AL.s rfl (op_field_ptr (.e rfl) fd29_6) ?_
              refine AL.s rfl (op_store (.e rfl) (.e rfl) rfl rfl rfl ⟨_, rfl, rfl⟩ rfl (Nat.le_of_ble_eq_true rfl)) ?_
              refine AL.s rfl (op_field_ptr (.e rfl) fd29_5) ?_
              refine AL.s rfl (op_storeD (.e rfl) (.e rfl) rfl rfl rfl ⟨_, rfl, rfl⟩ (Nat.le_of_ble_eq_true rfl)) ?_
              refine AL.nil ?_
              refine bq_n ?_
              refine nq ?_
              refine AW.seqR ?_
              refine AL.s rfl (op_load_ptrA (.e rfl) rfl rfl rfl ag29) ?_
              refine AL.s rfl (op_storeA (.e rfl) (.e rfl) rfl rfl ⟨_, rfl, rfl⟩ rfl (Nat.le_of_ble_eq_true rfl)) ?_
              refine AL.s rfl (op_assignD (.e rfl)) ?_
              refine AL.nil ?_
              refine AW.ret ?_
              refine EndQ.d (.cellA (.e rfl) rfl rfl rfl ag29 (.tmp (.e rfl) .nil)) rfl ?_
              simp only [doI, hc1, hc2, hc3, hc4, Bool.false_eq_true, ↓reduceIte] <;> (try simp only [hc5, hc6,  Bool.false_eq_true, ↓reduceIte, stepR, Req.e, zeroReq, List.map_append, List.map_cons, List.map_nil]) <;> rfl
            · skip
              refine AW.seqR ?_
              refine AL.s rfl (op_eql (.r rfl) (.r rfl)) ?_
              refine AL.s rfl (op_assignD (.e rfl)) ?_
              refine AL.nil ?_
              refine AW.cond (b := _) rfl (fun hc7 => ?_) (fun hc7 => ?_)
              · skip
                refine AW.region ?_
                refine AL.s rfl (op_field_ptr (.e rfl) fd29_3) ?_
                refine AL.s rfl (op_storeD (.e rfl) (.e rfl) rfl rfl rfl ⟨_, rfl, rfl⟩ (Nat.le_of_ble_eq_true rfl)) ?_
                refine AL.nil ?_
                refine bq_n ?_
                refine nq ?_
                refine AW.seqR ?_
                refine AL.s rfl (op_load_ptrA (.e rfl) rfl rfl rfl ag29) ?_
                refine AL.s rfl (op_storeA (.e rfl) (.e rfl) rfl rfl ⟨_, rfl, rfl⟩ rfl (Nat.le_of_ble_eq_true rfl)) ?_
                refine AL.s rfl (op_assignD (.e rfl)) ?_
                refine AL.nil ?_
                refine AW.ret ?_
                refine EndQ.d (.cellA (.e rfl) rfl rfl rfl ag29 (.tmp (.e rfl) .nil)) rfl ?_
                simp only [doI, hc1, hc2, hc3, hc4, Bool.false_eq_true, ↓reduceIte] <;> (try simp only [hc5, hc6, hc7,  Bool.false_eq_true, ↓reduceIte, stepR, Req.e, zeroReq, List.map_append, List.map_cons, List.map_nil]) <;> rfl
              · skip
                refine AW.seqR ?_
                refine AL.s rfl (op_eql (.r rfl) (.r rfl)) ?_
                refine AL.s rfl (op_assignD (.e rfl)) ?_
                refine AL.nil ?_
                refine AW.cond (b := _) rfl (fun hc8 => ?_) (fun hc8 => ?_)
                · skip
                  refine AW.drawn [([], []), ([1], []), ([], []), ([0], [0]), ([], []), ([0], [0])] mo (by decide +kernel) ?_
                  refine AD.s (ws := []) rfl rfl (fun H' _ hH => op_field_ptr (.e rfl) fd43_3) ?_
                  refine AD.s (ws := []) rfl rfl (fun H' _ hH => op_load_ptr1 (.e rfl) ((hH _ (by first | exact List.Mem.head _ | simp)).trans rfl) rfl sc3) ?_
                  refine AD.s (ws := []) rfl rfl (fun H' _ hH => op_field_ptr (.e rfl) fd29_3) ?_
                  refine AD.s (ws := [(0, _)]) rfl rfl (fun H' _ hH => op_storeD (.e rfl) (.e rfl) ((hH _ (by first | exact List.Mem.head _ | simp)).trans rfl) rfl rfl ⟨_, rfl, rfl⟩ (Nat.le_of_ble_eq_true rfl)) ?_
                  refine AD.s (ws := []) rfl rfl (fun H' _ hH => op_field_ptr (.e rfl) fd29_7) ?_
                  refine AD.s (ws := [(0, _)]) rfl rfl (fun H' _ hH => op_storeD (.e rfl) (.e rfl) ((hH _ (by first | exact List.Mem.head _ | simp)).trans rfl) rfl rfl ⟨_, rfl, rfl⟩ (Nat.le_of_ble_eq_true rfl)) ?_
                  refine AD.nil ?_
                  refine bq_n ?_
                  refine nq ?_
                  refine AW.seqR ?_
                  refine AL.s rfl (op_load_ptrA (.e rfl) rfl rfl rfl ag29) ?_
                  refine AL.s rfl (op_storeA (.e rfl) (.e rfl) rfl rfl ⟨_, rfl, rfl⟩ rfl (Nat.le_of_ble_eq_true rfl)) ?_
                  refine AL.s rfl (op_assignD (.e rfl)) ?_
                  refine AL.nil ?_
                  refine AW.ret ?_
                  refine EndQ.d (.cellA (.e rfl) rfl rfl rfl ag29 (.tmp (.e rfl) .nil)) rfl ?_
                  simp only [doI, hc1, hc2, hc3, hc4, Bool.false_eq_true, ↓reduceIte] <;> (try simp only [hc5, hc6, hc7, hc8,  Bool.false_eq_true, ↓reduceIte, stepR, Req.e, zeroReq, List.map_append, List.map_cons, List.map_nil]) <;> rfl
                · skip
                  refine AW.seqR ?_
                  refine AL.s rfl (op_eql (.r rfl) (.r rfl)) ?_
                  refine AL.s rfl (op_assignD (.e rfl)) ?_
                  refine AL.nil ?_
                  refine AW.cond (b := _) rfl (fun hc9 => ?_) (fun hc9 => ?_)
                  · skip
                    refine AW.seqR ?_
                    refine AL.s rfl (op_field_ptr (.e rfl) fd43_3) ?_
                    refine AL.s rfl (op_load_ptr1 (.e rfl) rfl rfl sc3) ?_
                    refine AL.s rfl (op_field_ptr (.e rfl) fd29_7) ?_
                    refine AL.s rfl (op_storeD (.e rfl) (.e rfl) rfl rfl rfl ⟨_, rfl, rfl⟩ (Nat.le_of_ble_eq_true rfl)) ?_
                    refine AL.nil ?_
                    refine AW.region ?_
                    refine AL.s rfl (op_field_ptr (.e rfl) fd29_8) ?_
                    refine AL.s rfl (op_load_ptr1 (.e rfl) rfl rfl sc3) ?_
                    refine AL.s rfl (op_add (.r rfl) (.r rfl) (w64 (by omega) (by omega))) ?_
                    refine AL.s rfl (op_field_ptr (.e rfl) fd29_8) ?_
                    refine AL.s rfl (op_storeD (.e rfl) (.e rfl) rfl rfl rfl ⟨_, rfl, rfl⟩ (Nat.le_of_ble_eq_true rfl)) ?_
                    refine AL.nil ?_
                    refine bq_n ?_
                    refine nq ?_
                    refine AW.seqR ?_
                    refine AL.s rfl (op_load_ptrA (.e rfl) rfl rfl rfl ag29) ?_
                    refine AL.s rfl (op_storeA (.e rfl) (.e rfl) rfl rfl ⟨_, rfl, rfl⟩ rfl (Nat.le_of_ble_eq_true rfl)) ?_
                    refine AL.s rfl (op_assignD (.e rfl)) ?_
                    refine AL.nil ?_
                    refine AW.ret ?_
                    refine EndQ.d (.cellA (.e rfl) rfl rfl rfl ag29 (.tmp (.e rfl) .nil)) rfl ?_
                    simp only [doI, hc1, hc2, hc3, hc4, Bool.false_eq_true, ↓reduceIte] <;> (try simp only [hc5, hc6, hc7, hc8, hc9,  Bool.false_eq_true, ↓reduceIte, stepR, Req.e, zeroReq, List.map_append, List.map_cons, List.map_nil]) <;> rfl
                  · skip
                    refine AW.seqR ?_
                    refine AL.s rfl (op_eql (.r rfl) (.r rfl)) ?_
                    refine AL.s rfl (op_assignD (.e rfl)) ?_
                    refine AL.nil ?_
                    refine AW.cond (b := _) rfl (fun hc10 => ?_) (fun hc10 => ?_)
                    · skip
                      refine AW.drawn [([], []), ([0], []), ([], []), ([1], []), ([], []), ([], []), ([], []), ([0], [0]), ([], []), ([0], [0])] mo (by decide +kernel) ?_
                      refine AD.s (ws := []) rfl rfl (fun H' _ hH => op_field_ptr (.e rfl) fd29_7) ?_
                      refine AD.s (ws := []) rfl rfl (fun H' _ hH => op_load_ptr1 (.e rfl) ((hH _ (by first | exact List.Mem.head _ | simp)).trans rfl) rfl sc3) ?_
                      refine AD.s (ws := []) rfl rfl (fun H' _ hH => op_field_ptr (.e rfl) fd43_1) ?_
                      refine AD.s (ws := []) rfl rfl (fun H' _ hH => op_load_ptr1 (.e rfl) ((hH _ (by first | exact List.Mem.head _ | simp)).trans rfl) rfl sc3) ?_
                      refine AD.s (ws := []) rfl rfl (fun H' _ hH => op_add (.r rfl) (.r rfl) (w64 (by simp at hc3; omega) (by simp at hc3; omega))) ?_
                      refine AD.s (ws := []) rfl rfl (fun H' _ hH => op_min (.r rfl) (.r rfl)) ?_
                      refine AD.s (ws := []) rfl rfl (fun H' _ hH => op_field_ptr (.e rfl) fd29_3) ?_
                      refine AD.s (ws := [(0, _)]) rfl rfl (fun H' _ hH => op_storeD (.e rfl) (.e rfl) ((hH _ (by first | exact List.Mem.head _ | simp)).trans rfl) rfl rfl ⟨_, rfl, rfl⟩ (Nat.le_of_ble_eq_true rfl)) ?_
                      refine AD.s (ws := []) rfl rfl (fun H' _ hH => op_field_ptr (.e rfl) fd29_7) ?_
                      refine AD.s (ws := [(0, _)]) rfl rfl (fun H' _ hH => op_storeD (.e rfl) (.e rfl) ((hH _ (by first | exact List.Mem.head _ | simp)).trans rfl) rfl rfl ⟨_, rfl, rfl⟩ (Nat.le_of_ble_eq_true rfl)) ?_
                      refine AD.nil ?_
                      refine bq_n ?_
                      refine nq ?_
                      refine AW.seqR ?_
                      refine AL.s rfl (op_load_ptrA (.e rfl) rfl rfl rfl ag29) ?_
                      refine AL.s rfl (op_storeA (.e rfl) (.e rfl) rfl rfl ⟨_, rfl, rfl⟩ rfl (Nat.le_of_ble_eq_true rfl)) ?_
                      refine AL.s rfl (op_assignD (.e rfl)) ?_
                      refine AL.nil ?_
                      refine AW.ret ?_
                      refine EndQ.d (.cellA (.e rfl) rfl rfl rfl ag29 (.tmp (.e rfl) .nil)) rfl ?_
                      simp only [doI, hc1, hc2, hc3, hc4, Bool.false_eq_true, ↓reduceIte] <;> (try simp only [hc5, hc6, hc7, hc8, hc9, hc10,  Bool.false_eq_true, ↓reduceIte, stepR, Req.e, zeroReq, List.map_append, List.map_cons, List.map_nil]) <;> rfl
                    · skip
                      refine AW.seqR ?_
                      refine AL.s rfl (op_eql (.r rfl) (.r rfl)) ?_
                      refine AL.s rfl (op_assignD (.e rfl)) ?_
                      refine AL.nil ?_
                      refine AW.cond (b := _) rfl (fun hc11 => ?_) (fun hc11 => ?_)
                      · skip
                        refine AW.region ?_
                        refine AL.s rfl (op_field_ptr (.e rfl) fd29_3) ?_
                        refine AL.s rfl (op_storeD (.e rfl) (.e rfl) rfl rfl rfl ⟨_, rfl, rfl⟩ (Nat.le_of_ble_eq_true rfl)) ?_
                        refine AL.nil ?_
                        refine bq_n ?_
                        refine nq ?_
                        refine AW.seqR ?_
                        refine AL.s rfl (op_load_ptrA (.e rfl) rfl rfl rfl ag29) ?_
                        refine AL.s rfl (op_storeA (.e rfl) (.e rfl) rfl rfl ⟨_, rfl, rfl⟩ rfl (Nat.le_of_ble_eq_true rfl)) ?_
                        refine AL.s rfl (op_assignD (.e rfl)) ?_
                        refine AL.nil ?_
                        refine AW.ret ?_
                        refine EndQ.d (.cellA (.e rfl) rfl rfl rfl ag29 (.tmp (.e rfl) .nil)) rfl ?_
                        simp only [doI, hc1, hc2, hc3, hc4, Bool.false_eq_true, ↓reduceIte] <;> (try simp only [hc5, hc6, hc7, hc8, hc9, hc10, hc11,  Bool.false_eq_true, ↓reduceIte, stepR, Req.e, zeroReq, List.map_append, List.map_cons, List.map_nil]) <;> rfl
                      · skip
                        refine AW.seqR ?_
                        refine AL.s rfl (op_eql (.r rfl) (.r rfl)) ?_
                        refine AL.s rfl (op_assignD (.e rfl)) ?_
                        refine AL.nil ?_
                        refine AW.cond (b := _) rfl (fun hc12 => ?_) (fun hc12 => ?_)
                        · skip
                          refine AW.region ?_
                          refine AL.s rfl (op_field_ptr (.e rfl) fd29_3) ?_
                          refine AL.s rfl (op_storeD (.e rfl) (.e rfl) rfl rfl rfl ⟨_, rfl, rfl⟩ (Nat.le_of_ble_eq_true rfl)) ?_
                          refine AL.nil ?_
                          refine bq_n ?_
                          refine nq ?_
                          refine AW.seqR ?_
                          refine AL.s rfl (op_load_ptrA (.e rfl) rfl rfl rfl ag29) ?_
                          refine AL.s rfl (op_storeA (.e rfl) (.e rfl) rfl rfl ⟨_, rfl, rfl⟩ rfl (Nat.le_of_ble_eq_true rfl)) ?_
                          refine AL.s rfl (op_assignD (.e rfl)) ?_
                          refine AL.nil ?_
                          refine AW.ret ?_
                          refine EndQ.d (.cellA (.e rfl) rfl rfl rfl ag29 (.tmp (.e rfl) .nil)) rfl ?_
                          simp only [doI, hc1, hc2, hc3, hc4, Bool.false_eq_true, ↓reduceIte] <;> (try simp only [hc5, hc6, hc7, hc8, hc9, hc10, hc11, hc12,  Bool.false_eq_true, ↓reduceIte, stepR, Req.e, zeroReq, List.map_append, List.map_cons, List.map_nil]) <;> rfl
                        · skip
                          refine AW.seqR ?_
                          refine AL.s rfl (op_eql (.r rfl) (.r rfl)) ?_
                          refine AL.s rfl (op_assignD (.e rfl)) ?_
                          refine AL.nil ?_
                          refine AW.cond (b := _) rfl (fun hc13 => ?_) (fun hc13 => ?_)
                          · skip
                            refine AW.region ?_
                            refine AL.s rfl (op_field_ptr (.e rfl) fd29_3) ?_
                            refine AL.s rfl (op_storeD (.e rfl) (.e rfl) rfl rfl rfl ⟨_, rfl, rfl⟩ (Nat.le_of_ble_eq_true rfl)) ?_
                            refine AL.s rfl (op_field_ptr (.e rfl) fd29_5) ?_
                            refine AL.s rfl (op_storeD (.e rfl) (.e rfl) rfl rfl rfl ⟨_, rfl, rfl⟩ (Nat.le_of_ble_eq_true rfl)) ?_
                            refine AL.nil ?_
                            refine bq_n ?_
                            refine nq ?_
                            refine AW.seqR ?_
                            refine AL.s rfl (op_load_ptrA (.e rfl) rfl rfl rfl ag29) ?_
                            refine AL.s rfl (op_storeA (.e rfl) (.e rfl) rfl rfl ⟨_, rfl, rfl⟩ rfl (Nat.le_of_ble_eq_true rfl)) ?_
                            refine AL.s rfl (op_assignD (.e rfl)) ?_
                            refine AL.nil ?_
                            refine AW.ret ?_
                            refine EndQ.d (.cellA (.e rfl) rfl rfl rfl ag29 (.tmp (.e rfl) .nil)) rfl ?_
                            simp only [doI, hc1, hc2, hc3, hc4, Bool.false_eq_true, ↓reduceIte] <;> (try simp only [hc5, hc6, hc7, hc8, hc9, hc10, hc11, hc12, hc13,  Bool.false_eq_true, ↓reduceIte, stepR, Req.e, zeroReq, List.map_append, List.map_cons, List.map_nil]) <;> rfl
                          · skip
                            refine AW.seqR ?_
                            refine AL.s rfl (op_eql (.r rfl) (.r rfl)) ?_
                            refine AL.s rfl (op_assignD (.e rfl)) ?_
                            refine AL.nil ?_
                            refine AW.cond (b := _) rfl (fun hc14 => ?_) (fun hc14 => ?_)
                            · skip
                              refine AW.region ?_
                              refine AL.s rfl (op_field_ptr (.e rfl) fd29_3) ?_
                              refine AL.s rfl (op_storeD (.e rfl) (.e rfl) rfl rfl rfl ⟨_, rfl, rfl⟩ (Nat.le_of_ble_eq_true rfl)) ?_
                              refine AL.nil ?_
                              refine bq_n ?_
                              refine nq ?_
                              refine AW.seqR ?_
                              refine AL.s rfl (op_load_ptrA (.e rfl) rfl rfl rfl ag29) ?_
                              refine AL.s rfl (op_storeA (.e rfl) (.e rfl) rfl rfl ⟨_, rfl, rfl⟩ rfl (Nat.le_of_ble_eq_true rfl)) ?_
                              refine AL.s rfl (op_assignD (.e rfl)) ?_
                              refine AL.nil ?_
                              refine AW.ret ?_
                              refine EndQ.d (.cellA (.e rfl) rfl rfl rfl ag29 (.tmp (.e rfl) .nil)) rfl ?_
                              simp only [doI, hc1, hc2, hc3, hc4, Bool.false_eq_true, ↓reduceIte] <;> (try simp only [hc5, hc6, hc7, hc8, hc9, hc10, hc11, hc12, hc13, hc14,  Bool.false_eq_true, ↓reduceIte, stepR, Req.e, zeroReq, List.map_append, List.map_cons, List.map_nil]) <;> rfl
                            · skip
                              refine AW.skip ?_
                              refine bq_n ?_
                              refine nq ?_
                              refine AW.seqR ?_
                              refine AL.s rfl (op_load_ptrA (.e rfl) rfl rfl rfl ag29) ?_
                              refine AL.s rfl (op_storeA (.e rfl) (.e rfl) rfl rfl ⟨_, rfl, rfl⟩ rfl (Nat.le_of_ble_eq_true rfl)) ?_
                              refine AL.s rfl (op_assignD (.e rfl)) ?_
                              refine AL.nil ?_
                              refine AW.ret ?_
                              refine EndQ.d (.cellA (.e rfl) rfl rfl rfl ag29 (.tmp (.e rfl) .nil)) rfl ?_
                              simp only [doI, hc1, hc2, hc3, hc4, Bool.false_eq_true, ↓reduceIte] <;> (try simp only [hc5, hc6, hc7, hc8, hc9, hc10, hc11, hc12, hc13, hc14,  Bool.false_eq_true, ↓reduceIte, stepR, Req.e, zeroReq, List.map_append, List.map_cons, List.map_nil]) <;> rfl

end Go.Proofs.Ytciojlggdnmncaa.Ab
