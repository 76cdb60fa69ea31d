/- The validity of requests, and what is refused. Conditions: none. -/
import Derived.Test.YtciojlggdnmncaaFa
set_option maxRecDepth 100000
namespace Go.Proofs.Ytciojlggdnmncaa.Ab
open Go 

/-- bookplate/request.tried -/
theorem tried_ok (l : List (List UInt8)) (lib : List UInt8) (hl : l.length ≤ 9223372036854775807) (hn : ∀ k, (l.getD k []).length ≤ 9223372036854775807) : Fn Try.prog 37 [.sl (l.map .str), .str lib] (.bool (triedB l lib)) := by
  refine Fn.of_AW (fnn := Try.f37) Try.func37 rfl (Nat.le_of_ble_eq_true rfl) (fun g0 w0 hw0 => ?_)
  refine AW.seqR ?_
  refine AL.s rfl (op_assignD (.e rfl)) ?_
  refine AL.nil ?_
  refine AW.seq ?_
  refine AW.seqR ?_
  refine AL.s rfl (op_moveD (.e rfl)) ?_
  refine AL.s rfl (op_lenN (.r rfl) (by first | exact List.length_map _ | rfl) sl22) ?_
  refine AL.s rfl (op_moveD (.e rfl)) ?_
  refine AL.nil ?_
  refine AW.block ?_
  refine AW.loopE (α := Nat) (fun k => k ≤ l.length ∧ ∀ j, j < k → triedAt l lib j = false) [0, 1, 7, 8] (fun k => [(9, .d (.int .i64 (k : Int)))]) (fun k => l.length - k) (0) (⟨by omega, by omega⟩) ⟨by first | exact .of rfl | exact .d rfl | exact .any | exact .int (by simp), trivial⟩ ?_
  intro k hI
  obtain ⟨hI, hJ⟩ := hI
  refine AW.seqR ?_
  refine AL.s rfl (op_lss (.r rfl) (.r rfl)) ?_
  refine AL.nil ?_
  refine AW.seq ?_
  refine AW.cond (b := _) rfl (fun hc1 => ?_) (fun hc1 => ?_)
  · skip
    refine AW.skip ?_
    refine nq ?_
    refine AW.seq ?_
    refine AW.block ?_
    refine AW.seqR ?_
    refine AL.s rfl (op_moveD (.e rfl)) ?_
    refine AL.s rfl (op_indexAddr (.r rfl) (.r rfl) rfl (getMapD (d := []) (by simp at hc1; omega)) sl22 rfl) ?_
    refine AL.s rfl (op_load_vp1 (.e rfl) rfl sc9) ?_
    refine AL.s rfl (op_assignD (.e rfl)) ?_
    refine AL.s rfl (op_assignD (.e rfl)) ?_
    refine AL.nil ?_
    refine AW.seqR ?_
    refine AL.s rfl (op_moveD (.e rfl)) ?_
    refine AL.s rfl (op_fn Try.call36 (.e rfl) (.cons (.r rfl) .nil) (name_ok _ (hn k))) ?_
    refine AL.s rfl (op_not (.r rfl)) ?_
    refine AL.s rfl (op_moveD (.e rfl)) ?_
    refine AL.sF rfl rfl rfl rfl (fun g => op_moveD (.e rfl)) ?_
    refine AL.sF rfl rfl rfl rfl (fun g => op_moveD (.e rfl)) ?_
    refine AL.sF rfl rfl rfl rfl (fun g => op_eqlS (.we (nt g) rfl rfl) (.we (nt g) rfl rfl)) ?_
    refine AL.s rfl (op_or (.r rfl) rfl (fun h => (.we (nt h) rfl rfl))) ?_
    refine AL.s rfl (op_moveD (.e rfl)) ?_
    refine AL.sF rfl rfl rfl rfl (fun g => op_moveD (.e rfl)) ?_
    refine AL.sF rfl rfl rfl rfl (fun g => op_moveD (.e rfl)) ?_
    refine AL.sF rfl rfl rfl rfl (fun g => op_sliceTo (.we (nt g) rfl rfl) sl22 (.we (nt g) rfl rfl) rfl (by omega) (fun _ => rfl)) ?_
    refine AL.sF rfl rfl rfl rfl (fun g => op_moveD (.e rfl)) ?_
    refine AL.sF rfl rfl rfl rfl (fun g => op_fn Try.call38 (.e rfl) (.cons (.we (nt g) rfl rfl) (.cons (.we (nt g) rfl rfl) .nil)) (containsS_ok _ _ (by simp; omega))) ?_
    refine AL.s rfl (op_or (.r rfl) rfl (fun h => (.we (nt h) rfl rfl))) ?_
    refine AL.nil ?_
    refine AW.cond (b := _) rfl (fun hc2 => ?_) (fun hc2 => ?_)
    · skip
      refine AW.seqR ?_
      refine AL.s rfl (op_assignD (.e rfl)) ?_
      refine AL.nil ?_
      refine AW.ret ?_
      refine bq_ret ?_
      refine tq_ret ?_
      refine tq_ret ?_
      refine bq_ret ?_
      refine tq_ret ?_
      refine EndQ.d (.tmp (.e rfl) .nil) rfl ?_
      rw [triedB_no (k := k) (by simp at hc1; omega) hc2]; rfl
    · skip
      refine AW.skip ?_
      refine bq_n ?_
      refine nq ?_
      refine AW.region ?_
      refine AL.s rfl (op_add (.r rfl) (.r rfl) (w64 (by omega) (by simp at hc1; omega))) ?_
      refine AL.s rfl (op_moveD (.e rfl)) ?_
      refine AL.nil ?_
      refine nq ⟨k + 1, ?_, ?_, ⟨by first | exact .of rfl | exact .int (by omega) | exact .d rfl | exact .any, trivial⟩, ⟨rfl, rfl, rfl, rfl, trivial⟩, rfl⟩
      · simp at hc1; exact ⟨by omega, fun j hj => by rcases Nat.lt_or_ge j k with h1 | h1; exact hJ j h1; obtain rfl : j = k := (by omega); exact hc2⟩
      · simp at hc1; omega
  · skip
    refine AW.exit ?_
    refine tq_exit ?_
    refine tq_exit ?_
    refine bq_hit ?_
    refine nq ?_
    refine AW.seqR ?_
    refine AL.s rfl (op_moveD (.e rfl)) ?_
    refine AL.s rfl (op_lenN (.r rfl) (by first | exact List.length_map _ | rfl) sl22) ?_
    refine AL.s rfl (op_leq (.r rfl) (.r rfl)) ?_
    refine AL.s rfl (op_assignD (.e rfl)) ?_
    refine AL.nil ?_
    refine AW.ret ?_
    refine EndQ.d (.tmp (.e rfl) .nil) rfl ?_
    rw [triedB_yes (fun j hj => hJ j (by simp at hc1; omega))]

/-- bookplate/request.Valid -/
theorem valid_ok (r : Req) (hr : r.Fits) : Fn Try.prog 16 [r.e] (.bool (validB r)) := by
  have h1 := hr.lib; have h2 := hr.lender; have h3 := hr.tried
  refine Fn.of_AW (fnn := Try.f16) Try.func16 rfl (Nat.le_of_ble_eq_true rfl) (fun g0 w0 hw0 => ?_)
  refine AW.seqR ?_
  refine AL.s rfl (op_box (n := 0) (.e rfl) rfl rfl rfl) ?_
  refine AL.s rfl (op_assignD (.e rfl)) ?_
  refine AL.nil ?_
  refine AW.seq ?_
  refine AW.seqR ?_
  refine AL.s rfl (op_field_ptr (.e rfl) fd29_0) ?_
  refine AL.s rfl (op_load_ptr1 (.e rfl) rfl rfl sc3) ?_
  refine AL.s rfl (op_fn Try.call35 (.e rfl) (.cons (.r rfl) (.cons (.r rfl) (.cons (.r rfl) .nil))) (in_ok _ _ _)) ?_
  refine AL.s rfl (op_not (.r rfl)) ?_
  refine AL.s rfl (op_moveD (.e rfl)) ?_
  refine AL.sF rfl rfl rfl rfl (fun g => op_field_ptr (.e rfl) fd29_1) ?_
  refine AL.sF rfl rfl rfl rfl (fun g => op_load_ptr1 (.we (nt g) rfl) rfl rfl sc3) ?_
  refine AL.sF rfl rfl rfl rfl (fun g => op_fn Try.call35 (.e rfl) (.cons (.we (nt g) rfl rfl) (.cons (.r rfl) (.cons (.r rfl) .nil))) (in_ok _ _ _)) ?_
  refine AL.sF rfl rfl rfl rfl (fun g => op_not (.we (nt g) rfl rfl)) ?_
  refine AL.s rfl (op_or (.r rfl) rfl (fun h => (.we (nt h) rfl rfl))) ?_
  refine AL.s rfl (op_moveD (.e rfl)) ?_
  refine AL.sF rfl rfl rfl rfl (fun g => op_field_ptr (.e rfl) fd29_2) ?_
  refine AL.sF rfl rfl rfl rfl (fun g => op_load_ptr1 (.we (nt g) rfl) rfl rfl sc9) ?_
  refine AL.sF rfl rfl rfl rfl (fun g => op_fn Try.call36 (.e rfl) (.cons (.we (nt g) rfl rfl) .nil) (name_ok _ (by omega))) ?_
  refine AL.sF rfl rfl rfl rfl (fun g => op_not (.we (nt g) rfl rfl)) ?_
  refine AL.s rfl (op_or (.r rfl) rfl (fun h => (.we (nt h) rfl rfl))) ?_
  refine AL.s rfl (op_moveD (.e rfl)) ?_
  refine AL.sF rfl rfl rfl rfl (fun g => op_field_ptr (.e rfl) fd29_3) ?_
  refine AL.sF rfl rfl rfl rfl (fun g => op_load_ptr1 (.we (nt g) rfl) rfl rfl sc3) ?_
  refine AL.sF rfl rfl rfl rfl (fun g => op_fn Try.call35 (.e rfl) (.cons (.we (nt g) rfl rfl) (.cons (.r rfl) (.cons (.r rfl) .nil))) (in_ok _ _ _)) ?_
  refine AL.sF rfl rfl rfl rfl (fun g => op_not (.we (nt g) rfl rfl)) ?_
  refine AL.s rfl (op_or (.r rfl) rfl (fun h => (.we (nt h) rfl rfl))) ?_
  refine AL.s rfl (op_moveD (.e rfl)) ?_
  refine AL.sF rfl rfl rfl rfl (fun g => op_field_ptr (.e rfl) fd29_4) ?_
  refine AL.sF rfl rfl rfl rfl (fun g => op_load_ptr1 (.we (nt g) rfl) rfl rfl sc3) ?_
  refine AL.sF rfl rfl rfl rfl (fun g => op_fn Try.call35 (.e rfl) (.cons (.we (nt g) rfl rfl) (.cons (.r rfl) (.cons (.r rfl) .nil))) (in_ok _ _ _)) ?_
  refine AL.sF rfl rfl rfl rfl (fun g => op_not (.we (nt g) rfl rfl)) ?_
  refine AL.s rfl (op_or (.r rfl) rfl (fun h => (.we (nt h) rfl rfl))) ?_
  refine AL.s rfl (op_moveD (.e rfl)) ?_
  refine AL.sF rfl rfl rfl rfl (fun g => op_field_ptr (.e rfl) fd29_6) ?_
  refine AL.sF rfl rfl rfl rfl (fun g => op_load_ptr1 (.we (nt g) rfl) rfl rfl sc22) ?_
  refine AL.sF rfl rfl rfl rfl (fun g => op_field_ptr (.e rfl) fd29_2) ?_
  refine AL.sF rfl rfl rfl rfl (fun g => op_load_ptr1 (.we (nt g) rfl) rfl rfl sc9) ?_
  refine AL.sF rfl rfl rfl rfl (fun g => op_fn Try.call37 (.e rfl) (.cons (.we (nt g) rfl rfl) (.cons (.we (nt g) rfl rfl) .nil)) (tried_ok _ _ hr.tried hr.each)) ?_
  refine AL.sF rfl rfl rfl rfl (fun g => op_not (.we (nt g) rfl rfl)) ?_
  refine AL.s rfl (op_or (.r rfl) rfl (fun h => (.we (nt h) rfl rfl))) ?_
  refine AL.nil ?_
  refine AW.cond (b := _) rfl (fun hc1 => ?_) (fun hc1 => ?_)
  · skip
    refine AW.seqR ?_
    refine AL.s rfl (op_assignD (.e rfl)) ?_
    refine AL.nil ?_
    refine AW.ret ?_
    refine tq_ret ?_
    refine EndQ.d (.tmp (.e rfl) .nil) rfl ?_
    simp only [validB, *, Bool.false_eq_true, ↓reduceIte] <;> rfl
  · skip
    refine AW.skip ?_
    refine nq ?_
    refine AW.seq ?_
    refine AW.seqR ?_
    refine AL.s rfl (op_field_ptr (.e rfl) fd29_3) ?_
    refine AL.s rfl (op_load_ptr1 (.e rfl) rfl rfl sc3) ?_
    refine AL.s rfl (op_fn Try.call35 (.e rfl) (.cons (.r rfl) (.cons (.r rfl) (.cons (.r rfl) .nil))) (in_ok _ _ _)) ?_
    refine AL.nil ?_
    refine AW.cond (b := _) rfl (fun hc2 => ?_) (fun hc2 => ?_)
    · skip
      refine AW.seqR ?_
      refine AL.s rfl (op_field_ptr (.e rfl) fd29_5) ?_
      refine AL.s rfl (op_load_ptr1 (.e rfl) rfl rfl sc9) ?_
      refine AL.s rfl (op_fn Try.call36 (.e rfl) (.cons (.r rfl) .nil) (name_ok _ (by omega))) ?_
      refine AL.s rfl (op_not (.r rfl)) ?_
      refine AL.s rfl (op_moveD (.e rfl)) ?_
      refine AL.sF rfl rfl rfl rfl (fun g => op_field_ptr (.e rfl) fd29_5) ?_
      refine AL.sF rfl rfl rfl rfl (fun g => op_load_ptr1 (.we (nt g) rfl) rfl rfl sc9) ?_
      refine AL.sF rfl rfl rfl rfl (fun g => op_field_ptr (.e rfl) fd29_2) ?_
      refine AL.sF rfl rfl rfl rfl (fun g => op_load_ptr1 (.we (nt g) rfl) rfl rfl sc9) ?_
      refine AL.sF rfl rfl rfl rfl (fun g => op_eqlS (.we (nt g) rfl rfl) (.we (nt g) rfl rfl)) ?_
      refine AL.s rfl (op_or (.r rfl) rfl (fun h => (.we (nt h) rfl rfl))) ?_
      refine AL.s rfl (op_moveD (.e rfl)) ?_
      refine AL.sF rfl rfl rfl rfl (fun g => op_field_ptr (.e rfl) fd29_6) ?_
      refine AL.sF rfl rfl rfl rfl (fun g => op_load_ptr1 (.we (nt g) rfl) rfl rfl sc22) ?_
      refine AL.sF rfl rfl rfl rfl (fun g => op_field_ptr (.e rfl) fd29_5) ?_
      refine AL.sF rfl rfl rfl rfl (fun g => op_load_ptr1 (.we (nt g) rfl) rfl rfl sc9) ?_
      refine AL.sF rfl rfl rfl rfl (fun g => op_fn Try.call38 (.e rfl) (.cons (.we (nt g) rfl rfl) (.cons (.we (nt g) rfl rfl) .nil)) (containsS_ok _ _ (by omega))) ?_
      refine AL.s rfl (op_or (.r rfl) rfl (fun h => (.we (nt h) rfl rfl))) ?_
      refine AL.nil ?_
      refine AW.cond (b := _) rfl (fun hc3 => ?_) (fun hc3 => ?_)
      · skip
        refine AW.seqR ?_
        refine AL.s rfl (op_assignD (.e rfl)) ?_
        refine AL.nil ?_
        refine AW.ret ?_
        refine tq_ret ?_
        refine EndQ.d (.tmp (.e rfl) .nil) rfl ?_
        simp only [validB, *, Bool.false_eq_true, ↓reduceIte] <;> rfl
      · skip
        refine AW.skip ?_
        refine nq ?_
        refine AW.seq ?_
        refine AW.seqR ?_
        refine AL.s rfl (op_field_ptr (.e rfl) fd29_3) ?_
        refine AL.s rfl (op_load_ptr1 (.e rfl) rfl rfl sc3) ?_
        refine AL.s rfl (op_fn Try.call39 (.e rfl) (.cons (.r rfl) .nil) (lent_ok _)) ?_
        refine AL.s rfl (op_not (.r rfl)) ?_
        refine AL.nil ?_
        refine AW.cond (b := _) rfl (fun hc4 => ?_) (fun hc4 => ?_)
        · skip
          refine AW.seqR ?_
          refine AL.s rfl (op_field_ptr (.e rfl) fd29_7) ?_
          refine AL.s rfl (op_load_ptr1 (.e rfl) rfl rfl sc3) ?_
          refine AL.s rfl (op_eql (.r rfl) (.r rfl)) ?_
          refine AL.s rfl (op_moveD (.e rfl)) ?_
          refine AL.sT rfl rfl rfl rfl (fun g => op_field_ptr (.e rfl) fd29_8) ?_
          refine AL.sT rfl rfl rfl rfl (fun g => op_load_ptr1 (.we g rfl) rfl rfl sc3) ?_
          refine AL.sT rfl rfl rfl rfl (fun g => op_eql (.we g rfl rfl) (.r rfl)) ?_
          refine AL.s rfl (op_and (.r rfl) (fun h => (.we h rfl rfl)) rfl) ?_
          refine AL.s rfl (op_assignD (.e rfl)) ?_
          refine AL.nil ?_
          refine AW.ret ?_
          refine tq_ret ?_
          refine EndQ.d (.tmp (.e rfl) .nil) rfl ?_
          simp only [validB, *, Bool.false_eq_true, ↓reduceIte] <;> rfl
        · skip
          refine AW.skip ?_
          refine nq ?_
          refine AW.seq ?_
          refine AW.seqR ?_
          refine AL.s rfl (op_field_ptr (.e rfl) fd29_3) ?_
          refine AL.s rfl (op_load_ptr1 (.e rfl) rfl rfl sc3) ?_
          refine AL.s rfl (op_eql (.r rfl) (.r rfl)) ?_
          refine AL.s rfl (op_moveD (.e rfl)) ?_
          refine AL.sF rfl rfl rfl rfl (fun g => op_field_ptr (.e rfl) fd29_3) ?_
          refine AL.sF rfl rfl rfl rfl (fun g => op_load_ptr1 (.we (nt g) rfl) rfl rfl sc3) ?_
          refine AL.sF rfl rfl rfl rfl (fun g => op_eql (.we (nt g) rfl rfl) (.r rfl)) ?_
          refine AL.s rfl (op_or (.r rfl) rfl (fun h => (.we (nt h) rfl rfl))) ?_
          refine AL.s rfl (op_moveD (.e rfl)) ?_
          refine AL.sT rfl rfl rfl rfl (fun g => op_field_ptr (.e rfl) fd29_7) ?_
          refine AL.sT rfl rfl rfl rfl (fun g => op_load_ptr1 (.we g rfl) rfl rfl sc3) ?_
          refine AL.sT rfl rfl rfl rfl (fun g => op_field_ptr (.e rfl) fd29_4) ?_
          refine AL.sT rfl rfl rfl rfl (fun g => op_load_ptr1 (.we g rfl) rfl rfl sc3) ?_
          refine AL.sT rfl rfl rfl rfl (fun g => op_lss (.we g rfl rfl) (.we g rfl rfl)) ?_
          refine AL.s rfl (op_and (.r rfl) (fun h => (.we h rfl rfl)) rfl) ?_
          refine AL.nil ?_
          refine AW.cond (b := _) rfl (fun hc5 => ?_) (fun hc5 => ?_)
          · skip
            refine AW.seqR ?_
            refine AL.s rfl (op_assignD (.e rfl)) ?_
            refine AL.nil ?_
            refine AW.ret ?_
            refine tq_ret ?_
            refine EndQ.d (.tmp (.e rfl) .nil) rfl ?_
            simp only [validB, *, Bool.false_eq_true, ↓reduceIte] <;> rfl
          · skip
            refine AW.skip ?_
            refine nq ?_
            refine AW.seqR ?_
            refine AL.s rfl (op_field_ptr (.e rfl) fd29_7) ?_
            refine AL.s rfl (op_load_ptr1 (.e rfl) rfl rfl sc3) ?_
            refine AL.s rfl (op_fn Try.call35 (.e rfl) (.cons (.r rfl) (.cons (.r rfl) (.cons (.r rfl) .nil))) (in_ok _ _ _)) ?_
            refine AL.s rfl (op_moveD (.e rfl)) ?_
            refine AL.sT rfl rfl rfl rfl (fun g => op_field_ptr (.e rfl) fd29_8) ?_
            refine AL.sT rfl rfl rfl rfl (fun g => op_load_ptr1 (.we g rfl) rfl rfl sc3) ?_
            refine AL.sT rfl rfl rfl rfl (fun g => op_fn Try.call35 (.e rfl) (.cons (.we g rfl rfl) (.cons (.r rfl) (.cons (.r rfl) .nil))) (in_ok _ _ _)) ?_
            refine AL.s rfl (op_and (.r rfl) (fun h => (.we h rfl rfl)) rfl) ?_
            refine AL.s rfl (op_assignD (.e rfl)) ?_
            refine AL.nil ?_
            refine AW.ret ?_
            refine EndQ.d (.tmp (.e rfl) .nil) rfl ?_
            simp only [validB, *, Bool.false_eq_true, ↓reduceIte] <;> rfl
    · skip
      refine AW.seqR ?_
      refine AL.s rfl (op_field_ptr (.e rfl) fd29_5) ?_
      refine AL.s rfl (op_load_ptr1 (.e rfl) rfl rfl sc9) ?_
      refine AL.s rfl (op_neqS (.r rfl) (.r rfl)) ?_
      refine AL.nil ?_
      refine AW.cond (b := _) rfl (fun hc6 => ?_) (fun hc6 => ?_)
      · skip
        refine AW.seqR ?_
        refine AL.s rfl (op_assignD (.e rfl)) ?_
        refine AL.nil ?_
        refine AW.ret ?_
        refine tq_ret ?_
        refine EndQ.d (.tmp (.e rfl) .nil) rfl ?_
        simp only [validB, *, Bool.false_eq_true, ↓reduceIte] <;> rfl
      · skip
        refine AW.skip ?_
        refine nq ?_
        refine AW.seq ?_
        refine AW.seqR ?_
        refine AL.s rfl (op_field_ptr (.e rfl) fd29_3) ?_
        refine AL.s rfl (op_load_ptr1 (.e rfl) rfl rfl sc3) ?_
        refine AL.s rfl (op_fn Try.call39 (.e rfl) (.cons (.r rfl) .nil) (lent_ok _)) ?_
        refine AL.s rfl (op_not (.r rfl)) ?_
        refine AL.nil ?_
        refine AW.cond (b := _) rfl (fun hc7 => ?_) (fun hc7 => ?_)
        · skip
          refine AW.seqR ?_
          refine AL.s rfl (op_field_ptr (.e rfl) fd29_7) ?_
          refine AL.s rfl (op_load_ptr1 (.e rfl) rfl rfl sc3) ?_
          refine AL.s rfl (op_eql (.r rfl) (.r rfl)) ?_
          refine AL.s rfl (op_moveD (.e rfl)) ?_
          refine AL.sT rfl rfl rfl rfl (fun g => op_field_ptr (.e rfl) fd29_8) ?_
          refine AL.sT rfl rfl rfl rfl (fun g => op_load_ptr1 (.we g rfl) rfl rfl sc3) ?_
          refine AL.sT rfl rfl rfl rfl (fun g => op_eql (.we g rfl rfl) (.r rfl)) ?_
          refine AL.s rfl (op_and (.r rfl) (fun h => (.we h rfl rfl)) rfl) ?_
          refine AL.s rfl (op_assignD (.e rfl)) ?_
          refine AL.nil ?_
          refine AW.ret ?_
          refine tq_ret ?_
          refine EndQ.d (.tmp (.e rfl) .nil) rfl ?_
          simp only [validB, *, Bool.false_eq_true, ↓reduceIte] <;> rfl
        · skip
          refine AW.skip ?_
          refine nq ?_
          refine AW.seq ?_
          refine AW.seqR ?_
          refine AL.s rfl (op_field_ptr (.e rfl) fd29_3) ?_
          refine AL.s rfl (op_load_ptr1 (.e rfl) rfl rfl sc3) ?_
          refine AL.s rfl (op_eql (.r rfl) (.r rfl)) ?_
          refine AL.s rfl (op_moveD (.e rfl)) ?_
          refine AL.sF rfl rfl rfl rfl (fun g => op_field_ptr (.e rfl) fd29_3) ?_
          refine AL.sF rfl rfl rfl rfl (fun g => op_load_ptr1 (.we (nt g) rfl) rfl rfl sc3) ?_
          refine AL.sF rfl rfl rfl rfl (fun g => op_eql (.we (nt g) rfl rfl) (.r rfl)) ?_
          refine AL.s rfl (op_or (.r rfl) rfl (fun h => (.we (nt h) rfl rfl))) ?_
          refine AL.s rfl (op_moveD (.e rfl)) ?_
          refine AL.sT rfl rfl rfl rfl (fun g => op_field_ptr (.e rfl) fd29_7) ?_
          refine AL.sT rfl rfl rfl rfl (fun g => op_load_ptr1 (.we g rfl) rfl rfl sc3) ?_
          refine AL.sT rfl rfl rfl rfl (fun g => op_field_ptr (.e rfl) fd29_4) ?_
          refine AL.sT rfl rfl rfl rfl (fun g => op_load_ptr1 (.we g rfl) rfl rfl sc3) ?_
          refine AL.sT rfl rfl rfl rfl (fun g => op_lss (.we g rfl rfl) (.we g rfl rfl)) ?_
          refine AL.s rfl (op_and (.r rfl) (fun h => (.we h rfl rfl)) rfl) ?_
          refine AL.nil ?_
          refine AW.cond (b := _) rfl (fun hc8 => ?_) (fun hc8 => ?_)
          · skip
            refine AW.seqR ?_
            refine AL.s rfl (op_assignD (.e rfl)) ?_
            refine AL.nil ?_
            refine AW.ret ?_
            refine tq_ret ?_
            refine EndQ.d (.tmp (.e rfl) .nil) rfl ?_
            simp only [validB, *, Bool.false_eq_true, ↓reduceIte] <;> rfl
          · skip
            refine AW.skip ?_
            refine nq ?_
            refine AW.seqR ?_
            refine AL.s rfl (op_field_ptr (.e rfl) fd29_7) ?_
            refine AL.s rfl (op_load_ptr1 (.e rfl) rfl rfl sc3) ?_
            refine AL.s rfl (op_fn Try.call35 (.e rfl) (.cons (.r rfl) (.cons (.r rfl) (.cons (.r rfl) .nil))) (in_ok _ _ _)) ?_
            refine AL.s rfl (op_moveD (.e rfl)) ?_
            refine AL.sT rfl rfl rfl rfl (fun g => op_field_ptr (.e rfl) fd29_8) ?_
            refine AL.sT rfl rfl rfl rfl (fun g => op_load_ptr1 (.we g rfl) rfl rfl sc3) ?_
            refine AL.sT rfl rfl rfl rfl (fun g => op_fn Try.call35 (.e rfl) (.cons (.we g rfl rfl) (.cons (.r rfl) (.cons (.r rfl) .nil))) (in_ok _ _ _)) ?_
            refine AL.s rfl (op_and (.r rfl) (fun h => (.we h rfl rfl)) rfl) ?_
            refine AL.s rfl (op_assignD (.e rfl)) ?_
            refine AL.nil ?_
            refine AW.ret ?_
            refine EndQ.d (.tmp (.e rfl) .nil) rfl ?_
            simp only [validB, *, Bool.false_eq_true, ↓reduceIte] <;> rfl

/-- bookplate/request.New -/
theorem new_ok (id work : Int) (lib : List UInt8) (tm : Int) (hl : lib.length ≤ 9223372036854775807) : Fn Try.prog 29 [.int .i64 id, .int .i64 work, .str lib, .int .i64 tm] (.tup [(newR id work lib tm).1.e, .int .i64 (newR id work lib tm).2]) := by
  refine Fn.of_AW (fnn := Try.f29) Try.func29 rfl (Nat.le_of_ble_eq_true rfl) (fun g0 w0 hw0 => ?_)
  refine AW.seqR ?_
  refine AL.s rfl (op_alloc (n := 0) zr29 rfl) ?_
  refine AL.s rfl (op_assignD (.e rfl)) ?_
  refine AL.nil ?_
  refine AW.seq ?_
  refine AW.block ?_
  refine AW.seqR ?_
  refine AL.s rfl (op_moveD (.e rfl)) ?_
  refine AL.s rfl (op_fn Try.call35 (.e rfl) (.cons (.r rfl) (.cons (.r rfl) (.cons (.r rfl) .nil))) (in_ok _ _ _)) ?_
  refine AL.s rfl (op_not (.r rfl)) ?_
  refine AL.s rfl (op_moveD (.e rfl)) ?_
  refine AL.sF rfl rfl rfl rfl (fun g => op_moveD (.e rfl)) ?_
  refine AL.sF rfl rfl rfl rfl (fun g => op_fn Try.call35 (.e rfl) (.cons (.we (nt g) rfl rfl) (.cons (.r rfl) (.cons (.r rfl) .nil))) (in_ok _ _ _)) ?_
  refine AL.sF rfl rfl rfl rfl (fun g => op_not (.we (nt g) rfl rfl)) ?_
  refine AL.s rfl (op_or (.r rfl) rfl (fun h => (.we (nt h) rfl rfl))) ?_
  refine AL.s rfl (op_assignD (.e rfl)) ?_
  refine AL.nil ?_
  refine AW.cond (b := _) rfl (fun hc1 => ?_) (fun hc1 => ?_)
  · skip
    refine AW.seqR ?_
    refine AL.s rfl (op_build bd29 .nil) ?_
    refine AL.s rfl (op_storeA (.e rfl) (.e rfl) rfl rfl ⟨_, rfl, rfl⟩ rfl (Nat.le_of_ble_eq_true rfl)) ?_
    refine AL.s rfl (op_assignD (.e rfl)) ?_
    refine AL.nil ?_
    refine AW.ret ?_
    refine bq_ret ?_
    refine tq_ret ?_
    refine EndQ.d (.cellA (.e rfl) rfl rfl rfl ag29 (.tmp (.e rfl) .nil)) rfl ?_
    simp only [newR, Req.e, zeroReq, *, Bool.false_eq_true, ↓reduceIte] <;> rfl
  · skip
    refine AW.seqR ?_
    refine AL.s rfl (op_moveD (.e rfl)) ?_
    refine AL.s rfl (op_fn Try.call36 (.e rfl) (.cons (.r rfl) .nil) (name_ok _ (by omega))) ?_
    refine AL.s rfl (op_not (.r rfl)) ?_
    refine AL.s rfl (op_assignD (.e rfl)) ?_
    refine AL.nil ?_
    refine AW.cond (b := _) rfl (fun hc2 => ?_) (fun hc2 => ?_)
    · skip
      refine AW.seqR ?_
      refine AL.s rfl (op_build bd29 .nil) ?_
      refine AL.s rfl (op_storeA (.e rfl) (.e rfl) rfl rfl ⟨_, rfl, rfl⟩ rfl (Nat.le_of_ble_eq_true rfl)) ?_
      refine AL.s rfl (op_assignD (.e rfl)) ?_
      refine AL.nil ?_
      refine AW.ret ?_
      refine bq_ret ?_
      refine tq_ret ?_
      refine EndQ.d (.cellA (.e rfl) rfl rfl rfl ag29 (.tmp (.e rfl) .nil)) rfl ?_
      simp only [newR, Req.e, zeroReq, *, Bool.false_eq_true, ↓reduceIte] <;> rfl
    · skip
      refine AW.seqR ?_
      refine AL.s rfl (op_moveD (.e rfl)) ?_
      refine AL.s rfl (op_fn Try.call35 (.e rfl) (.cons (.r rfl) (.cons (.r rfl) (.cons (.r rfl) .nil))) (in_ok _ _ _)) ?_
      refine AL.s rfl (op_not (.r rfl)) ?_
      refine AL.s rfl (op_assignD (.e rfl)) ?_
      refine AL.nil ?_
      refine AW.cond (b := _) rfl (fun hc3 => ?_) (fun hc3 => ?_)
      · skip
        refine AW.seqR ?_
        refine AL.s rfl (op_build bd29 .nil) ?_
        refine AL.s rfl (op_storeA (.e rfl) (.e rfl) rfl rfl ⟨_, rfl, rfl⟩ rfl (Nat.le_of_ble_eq_true rfl)) ?_
        refine AL.s rfl (op_assignD (.e rfl)) ?_
        refine AL.nil ?_
        refine AW.ret ?_
        refine bq_ret ?_
        refine tq_ret ?_
        refine EndQ.d (.cellA (.e rfl) rfl rfl rfl ag29 (.tmp (.e rfl) .nil)) rfl ?_
        simp only [newR, Req.e, zeroReq, *, Bool.false_eq_true, ↓reduceIte] <;> rfl
      · skip
        refine AW.skip ?_
        refine bq_n ?_
        refine nq ?_
        refine AW.seqR ?_
        refine AL.s rfl (op_moveD (.e rfl)) ?_
        refine AL.s rfl (op_moveD (.e rfl)) ?_
        refine AL.s rfl (op_moveD (.e rfl)) ?_
        refine AL.s rfl (op_moveD (.e rfl)) ?_
        refine AL.s rfl (op_build bd29 (.cons (.e rfl) rfl rfl rfl rfl (Nat.le_of_ble_eq_true rfl) (.cons (.e rfl) rfl rfl rfl rfl (Nat.le_of_ble_eq_true rfl) (.cons (.e rfl) rfl rfl rfl rfl (Nat.le_of_ble_eq_true rfl) (.cons (.e rfl) rfl rfl rfl rfl (Nat.le_of_ble_eq_true rfl) (.cons (.e rfl) rfl rfl rfl rfl (Nat.le_of_ble_eq_true rfl) .nil)))))) ?_
        refine AL.s rfl (op_storeA (.e rfl) (.e rfl) rfl rfl ⟨_, rfl, rfl⟩ rfl (Nat.le_of_ble_eq_true rfl)) ?_
        refine AL.s rfl (op_assignD (.e rfl)) ?_
        refine AL.nil ?_
        refine AW.ret ?_
        refine EndQ.d (.cellA (.e rfl) rfl rfl rfl ag29 (.tmp (.e rfl) .nil)) rfl ?_
        simp only [newR, Req.e, zeroReq, *, Bool.false_eq_true, ↓reduceIte] <;> rfl

/-- slices.Clone[[]string,string] -/
theorem cloneS_ok (l : List (List UInt8)) (hl : l.length ≤ 1000000) : FnK Try.prog 31 [.sl (l.map .str)] ((l.map .str)) 9 1 := by
  refine FnK.of_AW (fnn := Try.f31) Try.func31 rfl (Nat.le_of_ble_eq_true rfl) (fun g0 w0 hw0 => ?_)
  refine AW.seqR ?_
  refine AL.s rfl (op_assignN (.e rfl)) ?_
  refine AL.nil ?_
  refine AW.seq ?_
  refine AW.seqR ?_
  refine AL.s rfl (op_moveD (.e rfl)) ?_
  refine AL.sE rfl (op_nilS (.r rfl) rfl sl22) ?_
  rintro _ ⟨b1, rfl, hb1⟩
  refine AL.nil ?_
  refine AW.cond (b := _) rfl (fun hc2 => ?_) (fun hc2 => ?_)
  · skip
    refine AW.seqR ?_
    refine AL.s rfl (op_assignN (.e rfl)) ?_
    refine AL.nil ?_
    refine AW.ret ?_
    refine tq_ret ?_
    refine ⟨_, (.tmp (.e rfl) .nil), by simp; omega, .inl (by rw [hb1 hc2]; rfl)⟩
  · skip
    refine AW.skip ?_
    refine nq ?_
    refine AW.seqR ?_
    refine AL.s rfl (op_buildSlice sl22 .nil rfl (by decide)) ?_
    refine AL.s rfl (op_moveD (.e rfl)) ?_
    refine AL.s rfl (op_appendE (n := 0) sl22 (.e rfl) (.r rfl) rfl (by simp [D.cells]) (by simp [D.cells, D.one]) (by simp; omega) (by simp; omega)) ?_
    refine AL.s rfl (op_assignT (.e rfl)) ?_
    refine AL.nil ?_
    refine AW.ret ?_
    refine ⟨_, (.tmp (.e rfl) .nil), by simp; omega, .inr ⟨_, by rfl, rfl⟩⟩

/-- bookplate/request.refused -/
theorem refused_ok (r : Req) (s : Stp) (hr : r.Fits) (hs : s.lender.length ≤ 9223372036854775807) : Fn Try.prog 41 [r.e, s.e] (.int .i64 (refusedI r s)) := by
  have h3 := hr.tried
  refine Fn.of_AW (fnn := Try.f41) Try.func41 rfl (Nat.le_of_ble_eq_true rfl) (fun g0 w0 hw0 => ?_)
  refine AW.seqR ?_
  refine AL.s rfl (op_box (n := 0) (.e rfl) rfl rfl rfl) ?_
  refine AL.s rfl (op_box (n := 1) (.e rfl) rfl rfl rfl) ?_
  refine AL.s rfl (op_assignD (.e rfl)) ?_
  refine AL.nil ?_
  refine AW.seq ?_
  refine AW.seqR ?_
  refine AL.s rfl (op_field_ptr (.e rfl) fd43_0) ?_
  refine AL.s rfl (op_load_ptr1 (.e rfl) rfl rfl sc3) ?_
  refine AL.nil ?_
  refine AW.block ?_
  refine AW.seqR ?_
  refine AL.s rfl (op_eql (.r rfl) (.r rfl)) ?_
  refine AL.s rfl (op_assignD (.e rfl)) ?_
  refine AL.nil ?_
  refine AW.cond (b := _) rfl (fun hc1 => ?_) (fun hc1 => ?_)
  · skip
    refine AW.seq ?_
    refine AW.seqR ?_
    refine AL.s rfl (op_field_ptr (.e rfl) fd43_2) ?_
    refine AL.s rfl (op_load_ptr1 (.e rfl) rfl rfl sc9) ?_
    refine AL.s rfl (op_fn Try.call36 (.e rfl) (.cons (.r rfl) .nil) (name_ok _ (by omega))) ?_
    refine AL.s rfl (op_not (.r rfl)) ?_
    refine AL.s rfl (op_moveD (.e rfl)) ?_
    refine AL.sF rfl rfl rfl rfl (fun g => op_field_ptr (.e rfl) fd43_2) ?_
    refine AL.sF rfl rfl rfl rfl (fun g => op_load_ptr1 (.we (nt g) rfl) rfl rfl sc9) ?_
    refine AL.sF rfl rfl rfl rfl (fun g => op_field_ptr (.e rfl) fd29_2) ?_
    refine AL.sF rfl rfl rfl rfl (fun g => op_load_ptr1 (.we (nt g) rfl) rfl rfl sc9) ?_
    refine AL.sF rfl rfl rfl rfl (fun g => op_eqlS (.we (nt g) rfl rfl) (.we (nt g) rfl rfl)) ?_
    refine AL.s rfl (op_or (.r rfl) rfl (fun h => (.we (nt h) rfl rfl))) ?_
    refine AL.nil ?_
    refine AW.cond (b := _) rfl (fun hc2 => ?_) (fun hc2 => ?_)
    · skip
      refine AW.seqR ?_
      refine AL.s rfl (op_assignD (.e rfl)) ?_
      refine AL.nil ?_
      refine AW.ret ?_
      refine tq_ret ?_
      refine bq_ret ?_
      refine tq_ret ?_
      refine EndQ.d (.tmp (.e rfl) .nil) rfl ?_
      first | (simp_all [refusedI]; done) | (simp_all [refusedI]; rfl) | (simp_all [refusedI]; rw [if_neg (by omega)]; rfl)
    · skip
      refine AW.skip ?_
      refine nq ?_
      refine AW.seqR ?_
      refine AL.s rfl (op_field_ptr (.e rfl) fd29_6) ?_
      refine AL.s rfl (op_load_ptr1 (.e rfl) rfl rfl sc22) ?_
      refine AL.s rfl (op_field_ptr (.e rfl) fd43_2) ?_
      refine AL.s rfl (op_load_ptr1 (.e rfl) rfl rfl sc9) ?_
      refine AL.s rfl (op_fn Try.call38 (.e rfl) (.cons (.r rfl) (.cons (.r rfl) .nil)) (containsS_ok _ _ (by omega))) ?_
      refine AL.nil ?_
      refine AW.cond (b := _) rfl (fun hc3 => ?_) (fun hc3 => ?_)
      · skip
        refine AW.seqR ?_
        refine AL.s rfl (op_assignD (.e rfl)) ?_
        refine AL.nil ?_
        refine AW.ret ?_
        refine bq_ret ?_
        refine tq_ret ?_
        refine EndQ.d (.tmp (.e rfl) .nil) rfl ?_
        first | (simp_all [refusedI]; done) | (simp_all [refusedI]; rfl) | (simp_all [refusedI]; rw [if_neg (by omega)]; rfl)
      · skip
        refine AW.skip ?_
        refine bq_n ?_
        refine nq ?_
        refine AW.seqR ?_
        refine AL.s rfl (op_assignD (.e rfl)) ?_
        refine AL.nil ?_
        refine AW.ret ?_
        refine EndQ.d (.tmp (.e rfl) .nil) rfl ?_
        first | (simp_all [refusedI]; done) | (simp_all [refusedI]; rfl) | (simp_all [refusedI]; rw [if_neg (by omega)]; rfl)
  · skip
    refine AW.seqR ?_
    refine AL.s rfl (op_eql (.r rfl) (.r rfl)) ?_
    refine AL.s rfl (op_assignD (.e rfl)) ?_
    refine AL.nil ?_
    refine AW.cond (b := _) rfl (fun hc4 => ?_) (fun hc4 => ?_)
    · skip
      refine AW.seqR ?_
      refine AL.s rfl (op_field_ptr (.e rfl) fd29_6) ?_
      refine AL.s rfl (op_load_ptr1 (.e rfl) rfl rfl sc22) ?_
      refine AL.s rfl (op_lenN (.r rfl) (by first | exact List.length_map _ | rfl) sl22) ?_
      refine AL.s rfl (op_eql (.r rfl) (.r rfl)) ?_
      refine AL.nil ?_
      refine AW.cond (b := _) rfl (fun hc5 => ?_) (fun hc5 => ?_)
      · skip
        refine AW.seqR ?_
        refine AL.s rfl (op_assignD (.e rfl)) ?_
        refine AL.nil ?_
        refine AW.ret ?_
        refine bq_ret ?_
        refine tq_ret ?_
        refine EndQ.d (.tmp (.e rfl) .nil) rfl ?_
        first | (simp_all [refusedI]; done) | (simp_all [refusedI]; rfl) | (simp_all [refusedI]; rw [if_neg (by omega)]; rfl)
      · skip
        refine AW.skip ?_
        refine bq_n ?_
        refine nq ?_
        refine AW.seqR ?_
        refine AL.s rfl (op_assignD (.e rfl)) ?_
        refine AL.nil ?_
        refine AW.ret ?_
        refine EndQ.d (.tmp (.e rfl) .nil) rfl ?_
        first | (simp_all [refusedI]; done) | (simp_all [refusedI]; rfl) | (simp_all [refusedI]; rw [if_neg (by omega)]; rfl)
    · skip
      refine AW.seq ?_
      refine AW.seqR ?_
      refine AL.s rfl (op_eql (.r rfl) (.r rfl)) ?_
      refine AL.s rfl (op_assignD (.e rfl)) ?_
      refine AL.nil ?_
      refine AW.cond (b := _) rfl (fun hc6 => ?_) (fun hc6 => ?_)
      · skip
        refine AW.skip ?_
        refine nq ?_
        refine AW.cond (b := _) rfl (fun hc7 => ?_) (fun hc7 => ?_)
        · skip
          refine AW.seq ?_
          refine AW.seqR ?_
          refine AL.s rfl (op_field_ptr (.e rfl) fd43_0) ?_
          refine AL.s rfl (op_load_ptr1 (.e rfl) rfl rfl sc3) ?_
          refine AL.s rfl (op_eql (.r rfl) (.r rfl)) ?_
          refine AL.s rfl (op_moveD (.e rfl)) ?_
          refine AL.sT rfl rfl rfl rfl (fun g => op_field_ptr (.e rfl) fd29_8) ?_
          refine AL.sT rfl rfl rfl rfl (fun g => op_load_ptr1 (.we g rfl) rfl rfl sc3) ?_
          refine AL.sT rfl rfl rfl rfl (fun g => op_eql (.we g rfl rfl) (.r rfl)) ?_
          refine AL.s rfl (op_and (.r rfl) (fun h => (.we h rfl rfl)) rfl) ?_
          refine AL.nil ?_
          refine AW.cond (b := _) rfl (fun hc8 => ?_) (fun hc8 => ?_)
          · skip
            refine AW.seqR ?_
            refine AL.s rfl (op_assignD (.e rfl)) ?_
            refine AL.nil ?_
            refine AW.ret ?_
            refine tq_ret ?_
            refine bq_ret ?_
            refine tq_ret ?_
            refine EndQ.d (.tmp (.e rfl) .nil) rfl ?_
            first | (simp_all [refusedI]; done) | (simp_all [refusedI]; rfl) | (simp_all [refusedI]; rw [if_neg (by omega)]; rfl)
          · skip
            refine AW.skip ?_
            refine nq ?_
            refine AW.seqR ?_
            refine AL.s rfl (op_field_ptr (.e rfl) fd43_3) ?_
            refine AL.s rfl (op_load_ptr1 (.e rfl) rfl rfl sc3) ?_
            refine AL.s rfl (op_field_ptr (.e rfl) fd43_1) ?_
            refine AL.s rfl (op_load_ptr1 (.e rfl) rfl rfl sc3) ?_
            refine AL.s rfl (op_leq (.r rfl) (.r rfl)) ?_
            refine AL.s rfl (op_moveD (.e rfl)) ?_
            refine AL.sF rfl rfl rfl rfl (fun g => op_field_ptr (.e rfl) fd43_3) ?_
            refine AL.sF rfl rfl rfl rfl (fun g => op_load_ptr1 (.we (nt g) rfl) rfl rfl sc3) ?_
            refine AL.sF rfl rfl rfl rfl (fun g => op_gtr (.we (nt g) rfl rfl) (.r rfl)) ?_
            refine AL.s rfl (op_or (.r rfl) rfl (fun h => (.we (nt h) rfl rfl))) ?_
            refine AL.s rfl (op_moveD (.e rfl)) ?_
            refine AL.sF rfl rfl rfl rfl (fun g => op_field_ptr (.e rfl) fd43_0) ?_
            refine AL.sF rfl rfl rfl rfl (fun g => op_load_ptr1 (.we (nt g) rfl) rfl rfl sc3) ?_
            refine AL.sF rfl rfl rfl rfl (fun g => op_eql (.we (nt g) rfl rfl) (.r rfl)) ?_
            refine AL.sF rfl rfl rfl rfl (fun g => op_moveD (.we (nt g) rfl)) ?_
            refine AL.sTT rfl rfl rfl rfl (fun gp g => op_field_ptr (.e rfl) fd43_3) ?_
            refine AL.sTT rfl rfl rfl rfl (fun gp g => op_load_ptr1 (.we (an gp g) rfl) rfl rfl sc3) ?_
            refine AL.sTT rfl rfl rfl rfl (fun gp g => op_field_ptr (.e rfl) fd29_7) ?_
            refine AL.sTT rfl rfl rfl rfl (fun gp g => op_load_ptr1 (.we (an gp g) rfl) rfl rfl sc3) ?_
            refine AL.sTT rfl rfl rfl rfl (fun gp g => op_leq (.we (an gp g) rfl rfl) (.we (an gp g) rfl rfl)) ?_
            refine AL.sF rfl rfl rfl rfl (fun g => op_and (.we (nt g) rfl rfl) (fun h => (.we (an (nt g) h) rfl rfl)) rfl) ?_
            refine AL.s rfl (op_or (.r rfl) rfl (fun h => (.we (nt h) rfl rfl))) ?_
            refine AL.nil ?_
            refine AW.cond (b := _) rfl (fun hc9 => ?_) (fun hc9 => ?_)
            · skip
              refine AW.seqR ?_
              refine AL.s rfl (op_assignD (.e rfl)) ?_
              refine AL.nil ?_
              refine AW.ret ?_
              refine bq_ret ?_
              refine tq_ret ?_
              refine EndQ.d (.tmp (.e rfl) .nil) rfl ?_
              first | (simp_all [refusedI]; done) | (simp_all [refusedI]; rfl) | (simp_all [refusedI]; rw [if_neg (by omega)]; rfl)
            · skip
              refine AW.skip ?_
              refine bq_n ?_
              refine nq ?_
              refine AW.seqR ?_
              refine AL.s rfl (op_assignD (.e rfl)) ?_
              refine AL.nil ?_
              refine AW.ret ?_
              refine EndQ.d (.tmp (.e rfl) .nil) rfl ?_
              first | (simp_all [refusedI]; done) | (simp_all [refusedI]; rfl) | (simp_all [refusedI]; rw [if_neg (by omega)]; rfl)
        · skip
          refine AW.seqR ?_
          refine AL.s rfl (op_eql (.r rfl) (.r rfl)) ?_
          refine AL.s rfl (op_assignD (.e rfl)) ?_
          refine AL.nil ?_
          refine AW.cond (b := _) rfl (fun hc10 => ?_) (fun hc10 => ?_)
          · skip
            refine AW.seqR ?_
            refine AL.s rfl (op_field_ptr (.e rfl) fd29_7) ?_
            refine AL.s rfl (op_load_ptr1 (.e rfl) rfl rfl sc3) ?_
            refine AL.s rfl (op_field_ptr (.e rfl) fd43_1) ?_
            refine AL.s rfl (op_load_ptr1 (.e rfl) rfl rfl sc3) ?_
            refine AL.s rfl (op_lss (.r rfl) (.r rfl)) ?_
            refine AL.nil ?_
            refine AW.cond (b := _) rfl (fun hc11 => ?_) (fun hc11 => ?_)
            · skip
              refine AW.seqR ?_
              refine AL.s rfl (op_assignD (.e rfl)) ?_
              refine AL.nil ?_
              refine AW.ret ?_
              refine bq_ret ?_
              refine tq_ret ?_
              refine EndQ.d (.tmp (.e rfl) .nil) rfl ?_
              first | (simp_all [refusedI]; done) | (simp_all [refusedI]; rfl) | (simp_all [refusedI]; rw [if_neg (by omega)]; rfl)
            · skip
              refine AW.skip ?_
              refine bq_n ?_
              refine nq ?_
              refine AW.seqR ?_
              refine AL.s rfl (op_assignD (.e rfl)) ?_
              refine AL.nil ?_
              refine AW.ret ?_
              refine EndQ.d (.tmp (.e rfl) .nil) rfl ?_
              first | (simp_all [refusedI]; done) | (simp_all [refusedI]; rfl) | (simp_all [refusedI]; rw [if_neg (by omega)]; rfl)
          · skip
            refine AW.skip ?_
            refine bq_n ?_
            refine nq ?_
            refine AW.seqR ?_
            refine AL.s rfl (op_assignD (.e rfl)) ?_
            refine AL.nil ?_
            refine AW.ret ?_
            refine EndQ.d (.tmp (.e rfl) .nil) rfl ?_
            first | (simp_all [refusedI]; done) | (simp_all [refusedI]; rfl) | (simp_all [refusedI]; rw [if_neg (by omega)]; rfl)
      · skip
        refine AW.region ?_
        refine AL.s rfl (op_eql (.r rfl) (.r rfl)) ?_
        refine AL.s rfl (op_assignD (.e rfl)) ?_
        refine AL.nil ?_
        refine nq ?_
        refine AW.cond (b := _) rfl (fun hc12 => ?_) (fun hc12 => ?_)
        · skip
          refine AW.seq ?_
          refine AW.seqR ?_
          refine AL.s rfl (op_field_ptr (.e rfl) fd43_0) ?_
          refine AL.s rfl (op_load_ptr1 (.e rfl) rfl rfl sc3) ?_
          refine AL.s rfl (op_eql (.r rfl) (.r rfl)) ?_
          refine AL.s rfl (op_moveD (.e rfl)) ?_
          refine AL.sT rfl rfl rfl rfl (fun g => op_field_ptr (.e rfl) fd29_8) ?_
          refine AL.sT rfl rfl rfl rfl (fun g => op_load_ptr1 (.we g rfl) rfl rfl sc3) ?_
          refine AL.sT rfl rfl rfl rfl (fun g => op_eql (.we g rfl rfl) (.r rfl)) ?_
          refine AL.s rfl (op_and (.r rfl) (fun h => (.we h rfl rfl)) rfl) ?_
          refine AL.nil ?_
          refine AW.cond (b := _) rfl (fun hc13 => ?_) (fun hc13 => ?_)
          · skip
            refine AW.seqR ?_
            refine AL.s rfl (op_assignD (.e rfl)) ?_
            refine AL.nil ?_
            refine AW.ret ?_
            refine tq_ret ?_
            refine bq_ret ?_
            refine tq_ret ?_
            refine EndQ.d (.tmp (.e rfl) .nil) rfl ?_
            first | (simp_all [refusedI]; done) | (simp_all [refusedI]; rfl) | (simp_all [refusedI]; rw [if_neg (by omega)]; rfl)
          · skip
            refine AW.skip ?_
            refine nq ?_
            refine AW.seqR ?_
            refine AL.s rfl (op_field_ptr (.e rfl) fd43_3) ?_
            refine AL.s rfl (op_load_ptr1 (.e rfl) rfl rfl sc3) ?_
            refine AL.s rfl (op_field_ptr (.e rfl) fd43_1) ?_
            refine AL.s rfl (op_load_ptr1 (.e rfl) rfl rfl sc3) ?_
            refine AL.s rfl (op_leq (.r rfl) (.r rfl)) ?_
            refine AL.s rfl (op_moveD (.e rfl)) ?_
            refine AL.sF rfl rfl rfl rfl (fun g => op_field_ptr (.e rfl) fd43_3) ?_
            refine AL.sF rfl rfl rfl rfl (fun g => op_load_ptr1 (.we (nt g) rfl) rfl rfl sc3) ?_
            refine AL.sF rfl rfl rfl rfl (fun g => op_gtr (.we (nt g) rfl rfl) (.r rfl)) ?_
            refine AL.s rfl (op_or (.r rfl) rfl (fun h => (.we (nt h) rfl rfl))) ?_
            refine AL.s rfl (op_moveD (.e rfl)) ?_
            refine AL.sF rfl rfl rfl rfl (fun g => op_field_ptr (.e rfl) fd43_0) ?_
            refine AL.sF rfl rfl rfl rfl (fun g => op_load_ptr1 (.we (nt g) rfl) rfl rfl sc3) ?_
            refine AL.sF rfl rfl rfl rfl (fun g => op_eql (.we (nt g) rfl rfl) (.r rfl)) ?_
            refine AL.sF rfl rfl rfl rfl (fun g => op_moveD (.we (nt g) rfl)) ?_
            refine AL.sTT rfl rfl rfl rfl (fun gp g => op_field_ptr (.e rfl) fd43_3) ?_
            refine AL.sTT rfl rfl rfl rfl (fun gp g => op_load_ptr1 (.we (an gp g) rfl) rfl rfl sc3) ?_
            refine AL.sTT rfl rfl rfl rfl (fun gp g => op_field_ptr (.e rfl) fd29_7) ?_
            refine AL.sTT rfl rfl rfl rfl (fun gp g => op_load_ptr1 (.we (an gp g) rfl) rfl rfl sc3) ?_
            refine AL.sTT rfl rfl rfl rfl (fun gp g => op_leq (.we (an gp g) rfl rfl) (.we (an gp g) rfl rfl)) ?_
            refine AL.sF rfl rfl rfl rfl (fun g => op_and (.we (nt g) rfl rfl) (fun h => (.we (an (nt g) h) rfl rfl)) rfl) ?_
            refine AL.s rfl (op_or (.r rfl) rfl (fun h => (.we (nt h) rfl rfl))) ?_
            refine AL.nil ?_
            refine AW.cond (b := _) rfl (fun hc14 => ?_) (fun hc14 => ?_)
            · skip
              refine AW.seqR ?_
              refine AL.s rfl (op_assignD (.e rfl)) ?_
              refine AL.nil ?_
              refine AW.ret ?_
              refine bq_ret ?_
              refine tq_ret ?_
              refine EndQ.d (.tmp (.e rfl) .nil) rfl ?_
              first | (simp_all [refusedI]; done) | (simp_all [refusedI]; rfl) | (simp_all [refusedI]; rw [if_neg (by omega)]; rfl)
            · skip
              refine AW.skip ?_
              refine bq_n ?_
              refine nq ?_
              refine AW.seqR ?_
              refine AL.s rfl (op_assignD (.e rfl)) ?_
              refine AL.nil ?_
              refine AW.ret ?_
              refine EndQ.d (.tmp (.e rfl) .nil) rfl ?_
              first | (simp_all [refusedI]; done) | (simp_all [refusedI]; rfl) | (simp_all [refusedI]; rw [if_neg (by omega)]; rfl)
        · skip
          refine AW.seqR ?_
          refine AL.s rfl (op_eql (.r rfl) (.r rfl)) ?_
          refine AL.s rfl (op_assignD (.e rfl)) ?_
          refine AL.nil ?_
          refine AW.cond (b := _) rfl (fun hc15 => ?_) (fun hc15 => ?_)
          · skip
            refine AW.seqR ?_
            refine AL.s rfl (op_field_ptr (.e rfl) fd29_7) ?_
            refine AL.s rfl (op_load_ptr1 (.e rfl) rfl rfl sc3) ?_
            refine AL.s rfl (op_field_ptr (.e rfl) fd43_1) ?_
            refine AL.s rfl (op_load_ptr1 (.e rfl) rfl rfl sc3) ?_
            refine AL.s rfl (op_lss (.r rfl) (.r rfl)) ?_
            refine AL.nil ?_
            refine AW.cond (b := _) rfl (fun hc16 => ?_) (fun hc16 => ?_)
            · skip
              refine AW.seqR ?_
              refine AL.s rfl (op_assignD (.e rfl)) ?_
              refine AL.nil ?_
              refine AW.ret ?_
              refine bq_ret ?_
              refine tq_ret ?_
              refine EndQ.d (.tmp (.e rfl) .nil) rfl ?_
              first | (simp_all [refusedI]; done) | (simp_all [refusedI]; rfl) | (simp_all [refusedI]; rw [if_neg (by omega)]; rfl)
            · skip
              refine AW.skip ?_
              refine bq_n ?_
              refine nq ?_
              refine AW.seqR ?_
              refine AL.s rfl (op_assignD (.e rfl)) ?_
              refine AL.nil ?_
              refine AW.ret ?_
              refine EndQ.d (.tmp (.e rfl) .nil) rfl ?_
              first | (simp_all [refusedI]; done) | (simp_all [refusedI]; rfl) | (simp_all [refusedI]; rw [if_neg (by omega)]; rfl)
          · skip
            refine AW.skip ?_
            refine bq_n ?_
            refine nq ?_
            refine AW.seqR ?_
            refine AL.s rfl (op_assignD (.e rfl)) ?_
            refine AL.nil ?_
            refine AW.ret ?_
            refine EndQ.d (.tmp (.e rfl) .nil) rfl ?_
            first | (simp_all [refusedI]; done) | (simp_all [refusedI]; rfl) | (simp_all [refusedI]; rw [if_neg (by omega)]; rfl)

end Go.Proofs.Ytciojlggdnmncaa.Ab
