/- The reference: names, validity, steps. Conditions: none. -/
import Derived.Test.YtciojlggdnmncaaSr
set_option maxRecDepth 100000
namespace Go.Proofs.Ytciojlggdnmncaa.Ab
open Go 

/-- bookplate/bookplateref55.Name -/
theorem rname_ok (s : List UInt8) (hs : s.length ≤ 9223372036854775807) : Fn Try.prog 42 [.str s] (.bool (nameB s)) := by
  refine Fn.of_AW (fnn := Try.f42) Try.func42 rfl (Nat.le_of_ble_eq_true rfl) (fun g0 w0 hw0 => ?_)
  refine AW.seqR ?_
  refine AL.s rfl (op_assignD (.e rfl)) ?_
  refine AL.nil ?_
  refine AW.seq ?_
  refine AW.seqR ?_
  refine AL.s rfl (op_assignD (.e rfl)) ?_
  refine AL.nil ?_
  refine AW.block ?_
  refine AW.loopE (α := Nat) (fun k => k ≤ s.length ∧ ∀ j, j < k → rOddAt s j = false) [0] (fun k => [(3, .d (.int .i64 (k : Int)))]) (fun k => s.length - k) (0) (⟨by omega, by omega⟩) ⟨by first | exact .of rfl | exact .d rfl | exact .any | exact .int (by simp), trivial⟩ ?_
  intro k hI
  obtain ⟨hI, hJ⟩ := hI
  refine AW.seq ?_
  refine AW.seqR ?_
  refine AL.s rfl (op_moveD (.e rfl)) ?_
  refine AL.s rfl (op_moveD (.e rfl)) ?_
  refine AL.s rfl (op_lenS (.r rfl) Try.underlying9) ?_
  refine AL.s rfl (op_lss (.r rfl) (.r rfl)) ?_
  refine AL.nil ?_
  refine AW.cond (b := _) rfl (fun hc1 => ?_) (fun hc1 => ?_)
  · skip
    refine AW.skip ?_
    refine nq ?_
    refine AW.seq ?_
    refine AW.block ?_
    refine AW.seqR ?_
    refine AL.s rfl (op_moveD (.e rfl)) ?_
    refine AL.s rfl (op_moveD (.e rfl)) ?_
    refine AL.s rfl (op_indexS (.r rfl) (.r rfl) rfl (getD_some (d := 0) (by simp at hc1; omega)) Try.underlying9) ?_
    refine AL.s rfl (op_geq (.r rfl) (.r rfl)) ?_
    refine AL.s rfl (op_moveD (.e rfl)) ?_
    refine AL.sT rfl rfl rfl rfl (fun g => op_moveD (.e rfl)) ?_
    refine AL.sT rfl rfl rfl rfl (fun g => op_moveD (.e rfl)) ?_
    refine AL.sT rfl rfl rfl rfl (fun g => op_indexS (.we g rfl rfl) (.we g rfl rfl) rfl (getD_some (d := 0) (by simp at hc1; omega)) Try.underlying9) ?_
    refine AL.sT rfl rfl rfl rfl (fun g => op_leq (.we g rfl rfl) (.r rfl)) ?_
    refine AL.s rfl (op_and (.r rfl) (fun h => (.we h rfl rfl)) rfl) ?_
    refine AL.s rfl (op_assignD (.e rfl)) ?_
    refine AL.nil ?_
    refine AW.seqR ?_
    refine AL.s rfl (op_moveD (.e rfl)) ?_
    refine AL.s rfl (op_not (.r rfl)) ?_
    refine AL.s rfl (op_moveD (.e rfl)) ?_
    refine AL.sT rfl rfl rfl rfl (fun g => op_moveD (.e rfl)) ?_
    refine AL.sT rfl rfl rfl rfl (fun g => op_eql (.we g rfl rfl) (.r rfl)) ?_
    refine AL.sT rfl rfl rfl rfl (fun g => op_moveD (.we g rfl)) ?_
    refine AL.sFF rfl rfl rfl rfl (fun gp g => op_moveD (.e rfl)) ?_
    refine AL.sFF rfl rfl rfl rfl (fun gp g => op_moveD (.e rfl)) ?_
    refine AL.sFF rfl rfl rfl rfl (fun gp g => op_indexS (.we (an gp (nt g)) rfl rfl) (.we (an gp (nt g)) rfl rfl) rfl (getD_some (d := 0) (by simp at hc1; omega)) Try.underlying9) ?_
    refine AL.sFF rfl rfl rfl rfl (fun gp g => op_neq (.we (an gp (nt g)) rfl rfl) (.r rfl)) ?_
    refine AL.sFF rfl rfl rfl rfl (fun gp g => op_moveD (.we (an gp (nt g)) rfl)) ?_
    refine AL.sTT rfl rfl rfl rfl (fun gp g => op_moveD (.e rfl)) ?_
    refine AL.sTT rfl rfl rfl rfl (fun gp g => op_moveD (.e rfl)) ?_
    refine AL.sTT rfl rfl rfl rfl (fun gp g => op_indexS (.we (an gp g) rfl rfl) (.we (an gp g) rfl rfl) rfl (getD_some (d := 0) (by simp at hc1; omega)) Try.underlying9) ?_
    refine AL.sTT rfl rfl rfl rfl (fun gp g => op_lss (.we (an gp g) rfl rfl) (.r rfl)) ?_
    refine AL.sTT rfl rfl rfl rfl (fun gp g => op_moveD (.we (an gp g) rfl)) ?_
    refine AL.sFF rfl rfl rfl rfl (fun gp g => op_moveD (.e rfl)) ?_
    refine AL.sFF rfl rfl rfl rfl (fun gp g => op_moveD (.e rfl)) ?_
    refine AL.sFF rfl rfl rfl rfl (fun gp g => op_indexS (.we (an gp (nt g)) rfl rfl) (.we (an gp (nt g)) rfl rfl) rfl (getD_some (d := 0) (by simp at hc1; omega)) Try.underlying9) ?_
    refine AL.sFF rfl rfl rfl rfl (fun gp g => op_gtr (.we (an gp (nt g)) rfl rfl) (.r rfl)) ?_
    refine AL.sTT rfl rfl rfl rfl (fun gp g => op_or (.we (an gp g) rfl rfl) rfl (fun h => (.we (an (an gp g) (nt h)) rfl rfl))) ?_
    refine AL.sFF rfl rfl rfl rfl (fun gp g => op_and (.we (an gp (nt g)) rfl rfl) (fun h => (.we (an (an gp (nt g)) h) rfl rfl)) rfl) ?_
    refine AL.sT rfl rfl rfl rfl (fun g => op_or (.we g rfl rfl) rfl (fun h => (.we (an g (nt h)) rfl rfl))) ?_
    refine AL.s rfl (op_and (.r rfl) (fun h => (.we h rfl rfl)) rfl) ?_
    refine AL.nil ?_
    refine AW.cond (b := _) rfl (fun hc2 => ?_) (fun hc2 => ?_)
    · skip
      refine AW.seqR ?_
      refine AL.s rfl (op_assignD (.e rfl)) ?_
      refine AL.nil ?_
      refine AW.ret ?_
      refine bq_ret ?_
      refine tq_ret ?_
      refine tq_ret ?_
      refine bq_ret ?_
      refine tq_ret ?_
      refine EndQ.d (.tmp (.e rfl) .nil) rfl ?_
      rw [rOdd_no (k := k) (by simp at hc1; omega) hc2]; rfl
    · skip
      refine AW.skip ?_
      refine bq_n ?_
      refine nq ?_
      refine AW.region ?_
      refine AL.s rfl (op_moveD (.e rfl)) ?_
      refine AL.s rfl (op_add (.r rfl) (.r rfl) (w64 (by omega) (by simp at hc1; omega))) ?_
      refine AL.s rfl (op_assignD (.e rfl)) ?_
      refine AL.nil ?_
      refine nq ⟨k + 1, ?_, ?_, ⟨by first | exact .of rfl | exact .int (by omega) | exact .d rfl | exact .any, trivial⟩, ⟨rfl, trivial⟩, rfl⟩
      · simp at hc1; exact ⟨by omega, fun j hj => by rcases Nat.lt_or_ge j k with h1 | h1; exact hJ j h1; obtain rfl : j = k := (by omega); exact hc2⟩
      · simp at hc1; omega
  · skip
    refine AW.exit ?_
    refine tq_exit ?_
    refine tq_exit ?_
    refine bq_hit ?_
    refine nq ?_
    refine AW.seqR ?_
    refine AL.s rfl (op_moveD (.e rfl)) ?_
    refine AL.s rfl (op_lenS (.r rfl) Try.underlying9) ?_
    refine AL.s rfl (op_geq (.r rfl) (.r rfl)) ?_
    refine AL.s rfl (op_moveD (.e rfl)) ?_
    refine AL.sT rfl rfl rfl rfl (fun g => op_moveD (.e rfl)) ?_
    refine AL.sT rfl rfl rfl rfl (fun g => op_lenS (.we g rfl rfl) Try.underlying9) ?_
    refine AL.sT rfl rfl rfl rfl (fun g => op_leq (.we g rfl rfl) (.r rfl)) ?_
    refine AL.s rfl (op_and (.r rfl) (fun h => (.we h rfl rfl)) rfl) ?_
    refine AL.s rfl (op_assignD (.e rfl)) ?_
    refine AL.nil ?_
    refine AW.ret ?_
    refine EndQ.d (.tmp (.e rfl) .nil) rfl ?_
    rw [rOdd_yes (fun j hj => hJ j (by simp at hc1; omega))]

/-- bookplate/bookplateref55.in -/
theorem rin_ok (l : List (List UInt8)) (v : (List UInt8)) (hl : l.length ≤ 9223372036854775807) : Fn Try.prog 44 [.sl (l.map D.str), .str v] (.bool (hasS l v)) := by
  refine Fn.of_AW (fnn := Try.f44) Try.func44 rfl (Nat.le_of_ble_eq_true rfl) (fun g0 w0 hw0 => ?_)
  refine AW.seqR ?_
  refine AL.s rfl (op_assignD (.e rfl)) ?_
  refine AL.nil ?_
  refine AW.seq ?_
  refine AW.seqR ?_
  refine AL.s rfl (op_assignD (.e rfl)) ?_
  refine AL.nil ?_
  refine AW.block ?_
  refine AW.loopE (α := Nat) (fun k => k ≤ l.length ∧ ∀ j, j < k → decide (l.getD j [] = v) = false) [0, 1] (fun k => [(5, .d (.int .i64 (k : Int)))]) (fun k => l.length - k) (0) (⟨by omega, by omega⟩) ⟨by first | exact .of rfl | exact .d rfl | exact .any | exact .int (by simp), trivial⟩ ?_
  intro k hI
  obtain ⟨hI, hJ⟩ := hI
  refine AW.seq ?_
  refine AW.seqR ?_
  refine AL.s rfl (op_moveD (.e rfl)) ?_
  refine AL.s rfl (op_moveD (.e rfl)) ?_
  refine AL.s rfl (op_lenN (.r rfl) (by first | exact List.length_map _ | rfl) sl22) ?_
  refine AL.s rfl (op_lss (.r rfl) (.r rfl)) ?_
  refine AL.nil ?_
  refine AW.cond (b := _) rfl (fun hc1 => ?_) (fun hc1 => ?_)
  · skip
    refine AW.skip ?_
    refine nq ?_
    refine AW.seq ?_
    refine AW.block ?_
    refine AW.seqR ?_
    refine AL.s rfl (op_moveD (.e rfl)) ?_
    refine AL.s rfl (op_moveD (.e rfl)) ?_
    refine AL.s rfl (op_indexAddr (.r rfl) (.r rfl) rfl (getMapD (d := []) (by simp at hc1; omega)) sl22 rfl) ?_
    refine AL.s rfl (op_load_vp1 (.e rfl) rfl sc9) ?_
    refine AL.s rfl (op_moveD (.e rfl)) ?_
    refine AL.s rfl (op_eqlS (.r rfl) (.r rfl)) ?_
    refine AL.nil ?_
    refine AW.cond (b := _) rfl (fun hc2 => ?_) (fun hc2 => ?_)
    · skip
      refine AW.seqR ?_
      refine AL.s rfl (op_assignD (.e rfl)) ?_
      refine AL.nil ?_
      refine AW.ret ?_
      refine bq_ret ?_
      refine tq_ret ?_
      refine tq_ret ?_
      refine bq_ret ?_
      refine tq_ret ?_
      refine EndQ.d (.tmp (.e rfl) .nil) rfl ?_
      rw [hasS_yes (k := k) (by simp at hc1; omega) hc2]; rfl
    · skip
      refine AW.skip ?_
      refine bq_n ?_
      refine nq ?_
      refine AW.region ?_
      refine AL.s rfl (op_moveD (.e rfl)) ?_
      refine AL.s rfl (op_add (.r rfl) (.r rfl) (w64 (by omega) (by simp at hc1; omega))) ?_
      refine AL.s rfl (op_assignD (.e rfl)) ?_
      refine AL.nil ?_
      refine nq ⟨k + 1, ?_, ?_, ⟨by first | exact .of rfl | exact .int (by omega) | exact .d rfl | exact .any, trivial⟩, ⟨rfl, rfl, trivial⟩, rfl⟩
      · simp at hc1; exact ⟨by omega, fun j hj => by rcases Nat.lt_or_ge j k with h1 | h1; exact hJ j h1; obtain rfl : j = k := (by omega); exact hc2⟩
      · simp at hc1; omega
  · skip
    refine AW.exit ?_
    refine tq_exit ?_
    refine tq_exit ?_
    refine bq_hit ?_
    refine nq ?_
    refine AW.seqR ?_
    refine AL.s rfl (op_assignD (.e rfl)) ?_
    refine AL.nil ?_
    refine AW.ret ?_
    refine EndQ.d (.tmp (.e rfl) .nil) rfl ?_
    rw [hasS_no (fun j hj => hJ j (by simp at hc1; omega))]; rfl

/-- bookplate/bookplateref55.has -/
theorem rhas_ok (l : List Int) (v : Int) (hl : l.length ≤ 9223372036854775807) : Fn Try.prog 52 [.sl (l.map D.i), .int .i64 v] (.bool (hasI l v)) := by
  refine Fn.of_AW (fnn := Try.f52) Try.func52 rfl (Nat.le_of_ble_eq_true rfl) (fun g0 w0 hw0 => ?_)
  refine AW.seqR ?_
  refine AL.s rfl (op_assignD (.e rfl)) ?_
  refine AL.nil ?_
  refine AW.seq ?_
  refine AW.seqR ?_
  refine AL.s rfl (op_assignD (.e rfl)) ?_
  refine AL.nil ?_
  refine AW.block ?_
  refine AW.loopE (α := Nat) (fun k => k ≤ l.length ∧ ∀ j, j < k → decide (l.getD j 0 = v) = false) [0, 1] (fun k => [(5, .d (.int .i64 (k : Int)))]) (fun k => l.length - k) (0) (⟨by omega, by omega⟩) ⟨by first | exact .of rfl | exact .d rfl | exact .any | exact .int (by simp), trivial⟩ ?_
  intro k hI
  obtain ⟨hI, hJ⟩ := hI
  refine AW.seq ?_
  refine AW.seqR ?_
  refine AL.s rfl (op_moveD (.e rfl)) ?_
  refine AL.s rfl (op_moveD (.e rfl)) ?_
  refine AL.s rfl (op_lenN (.r rfl) (by first | exact List.length_map _ | rfl) sl47) ?_
  refine AL.s rfl (op_lss (.r rfl) (.r rfl)) ?_
  refine AL.nil ?_
  refine AW.cond (b := _) rfl (fun hc1 => ?_) (fun hc1 => ?_)
  · skip
    refine AW.skip ?_
    refine nq ?_
    refine AW.seq ?_
    refine AW.block ?_
    refine AW.seqR ?_
    refine AL.s rfl (op_moveD (.e rfl)) ?_
    refine AL.s rfl (op_moveD (.e rfl)) ?_
    refine AL.s rfl (op_indexAddr (.r rfl) (.r rfl) rfl (getMapD (d := 0) (by simp at hc1; omega)) sl47 rfl) ?_
    refine AL.s rfl (op_load_vp1 (.e rfl) rfl sc3) ?_
    refine AL.s rfl (op_moveD (.e rfl)) ?_
    refine AL.s rfl (op_eql (.r rfl) (.r rfl)) ?_
    refine AL.nil ?_
    refine AW.cond (b := _) rfl (fun hc2 => ?_) (fun hc2 => ?_)
    · skip
      refine AW.seqR ?_
      refine AL.s rfl (op_assignD (.e rfl)) ?_
      refine AL.nil ?_
      refine AW.ret ?_
      refine bq_ret ?_
      refine tq_ret ?_
      refine tq_ret ?_
      refine bq_ret ?_
      refine tq_ret ?_
      refine EndQ.d (.tmp (.e rfl) .nil) rfl ?_
      rw [hasI_yes (k := k) (by simp at hc1; omega) hc2]; rfl
    · skip
      refine AW.skip ?_
      refine bq_n ?_
      refine nq ?_
      refine AW.region ?_
      refine AL.s rfl (op_moveD (.e rfl)) ?_
      refine AL.s rfl (op_add (.r rfl) (.r rfl) (w64 (by omega) (by simp at hc1; omega))) ?_
      refine AL.s rfl (op_assignD (.e rfl)) ?_
      refine AL.nil ?_
      refine nq ⟨k + 1, ?_, ?_, ⟨by first | exact .of rfl | exact .int (by omega) | exact .d rfl | exact .any, trivial⟩, ⟨rfl, rfl, trivial⟩, rfl⟩
      · simp at hc1; exact ⟨by omega, fun j hj => by rcases Nat.lt_or_ge j k with h1 | h1; exact hJ j h1; obtain rfl : j = k := (by omega); exact hc2⟩
      · simp at hc1; omega
  · skip
    refine AW.exit ?_
    refine tq_exit ?_
    refine tq_exit ?_
    refine bq_hit ?_
    refine nq ?_
    refine AW.seqR ?_
    refine AL.s rfl (op_assignD (.e rfl)) ?_
    refine AL.nil ?_
    refine AW.ret ?_
    refine EndQ.d (.tmp (.e rfl) .nil) rfl ?_
    rw [hasI_no (fun j hj => hJ j (by simp at hc1; omega))]; rfl

/-- bookplate/bookplateref55.Valid -/
theorem rvalid_ok (r : Req) (hr : r.Fits) : Fn Try.prog 18 [r.e] (.bool (validB r)) := by
  have h1 := hr.lib; have h2 := hr.lender; have h3 := hr.tried; have h4 := hr.each
  refine Fn.of_AW (fnn := Try.f18) Try.func18 rfl (Nat.le_of_ble_eq_true rfl) (fun g0 w0 hw0 => ?_)
  refine AW.seqR ?_
  refine AL.s rfl (op_box (n := 0) (.e rfl) rfl rfl rfl) ?_
  refine AL.s rfl (op_assignD (.e rfl)) ?_
  refine AL.nil ?_
  refine AW.seq ?_
  refine AW.seqR ?_
  refine AL.s rfl (op_field_ptr (.e rfl) fd24_0) ?_
  refine AL.s rfl (op_load_ptr1 (.e rfl) rfl rfl sc3) ?_
  refine AL.s rfl (op_lss (.r rfl) (.r rfl)) ?_
  refine AL.s rfl (op_moveD (.e rfl)) ?_
  refine AL.sF rfl rfl rfl rfl (fun g => op_field_ptr (.e rfl) fd24_0) ?_
  refine AL.sF rfl rfl rfl rfl (fun g => op_load_ptr1 (.we (nt g) rfl) rfl rfl sc3) ?_
  refine AL.sF rfl rfl rfl rfl (fun g => op_gtr (.we (nt g) rfl rfl) (.r rfl)) ?_
  refine AL.s rfl (op_or (.r rfl) rfl (fun h => (.we (nt h) rfl rfl))) ?_
  refine AL.s rfl (op_moveD (.e rfl)) ?_
  refine AL.sF rfl rfl rfl rfl (fun g => op_field_ptr (.e rfl) fd24_1) ?_
  refine AL.sF rfl rfl rfl rfl (fun g => op_load_ptr1 (.we (nt g) rfl) rfl rfl sc3) ?_
  refine AL.sF rfl rfl rfl rfl (fun g => op_lss (.we (nt g) rfl rfl) (.r rfl)) ?_
  refine AL.s rfl (op_or (.r rfl) rfl (fun h => (.we (nt h) rfl rfl))) ?_
  refine AL.s rfl (op_moveD (.e rfl)) ?_
  refine AL.sF rfl rfl rfl rfl (fun g => op_field_ptr (.e rfl) fd24_1) ?_
  refine AL.sF rfl rfl rfl rfl (fun g => op_load_ptr1 (.we (nt g) rfl) rfl rfl sc3) ?_
  refine AL.sF rfl rfl rfl rfl (fun g => op_gtr (.we (nt g) rfl rfl) (.r rfl)) ?_
  refine AL.s rfl (op_or (.r rfl) rfl (fun h => (.we (nt h) rfl rfl))) ?_
  refine AL.s rfl (op_moveD (.e rfl)) ?_
  refine AL.sF rfl rfl rfl rfl (fun g => op_field_ptr (.e rfl) fd24_2) ?_
  refine AL.sF rfl rfl rfl rfl (fun g => op_load_ptr1 (.we (nt g) rfl) rfl rfl sc9) ?_
  refine AL.sF rfl rfl rfl rfl (fun g => op_fn Try.call42 (.e rfl) (.cons (.we (nt g) rfl rfl) .nil) (rname_ok _ (by omega))) ?_
  refine AL.sF rfl rfl rfl rfl (fun g => op_not (.we (nt g) rfl rfl)) ?_
  refine AL.s rfl (op_or (.r rfl) rfl (fun h => (.we (nt h) rfl rfl))) ?_
  refine AL.s rfl (op_moveD (.e rfl)) ?_
  refine AL.sF rfl rfl rfl rfl (fun g => op_field_ptr (.e rfl) fd24_3) ?_
  refine AL.sF rfl rfl rfl rfl (fun g => op_load_ptr1 (.we (nt g) rfl) rfl rfl sc3) ?_
  refine AL.sF rfl rfl rfl rfl (fun g => op_lss (.we (nt g) rfl rfl) (.r rfl)) ?_
  refine AL.s rfl (op_or (.r rfl) rfl (fun h => (.we (nt h) rfl rfl))) ?_
  refine AL.s rfl (op_moveD (.e rfl)) ?_
  refine AL.sF rfl rfl rfl rfl (fun g => op_field_ptr (.e rfl) fd24_3) ?_
  refine AL.sF rfl rfl rfl rfl (fun g => op_load_ptr1 (.we (nt g) rfl) rfl rfl sc3) ?_
  refine AL.sF rfl rfl rfl rfl (fun g => op_gtr (.we (nt g) rfl rfl) (.r rfl)) ?_
  refine AL.s rfl (op_or (.r rfl) rfl (fun h => (.we (nt h) rfl rfl))) ?_
  refine AL.s rfl (op_moveD (.e rfl)) ?_
  refine AL.sF rfl rfl rfl rfl (fun g => op_field_ptr (.e rfl) fd24_4) ?_
  refine AL.sF rfl rfl rfl rfl (fun g => op_load_ptr1 (.we (nt g) rfl) rfl rfl sc3) ?_
  refine AL.sF rfl rfl rfl rfl (fun g => op_fn Try.call43 (.e rfl) (.cons (.we (nt g) rfl rfl) .nil) (rday_ok _)) ?_
  refine AL.sF rfl rfl rfl rfl (fun g => op_not (.we (nt g) rfl rfl)) ?_
  refine AL.s rfl (op_or (.r rfl) rfl (fun h => (.we (nt h) rfl rfl))) ?_
  refine AL.s rfl (op_moveD (.e rfl)) ?_
  refine AL.sF rfl rfl rfl rfl (fun g => op_field_ptr (.e rfl) fd24_6) ?_
  refine AL.sF rfl rfl rfl rfl (fun g => op_load_ptr1 (.we (nt g) rfl) rfl rfl sc22) ?_
  refine AL.sF rfl rfl rfl rfl (fun g => op_lenN (.we (nt g) rfl rfl) (by first | exact List.length_map _ | rfl) sl22) ?_
  refine AL.sF rfl rfl rfl rfl (fun g => op_gtr (.we (nt g) rfl rfl) (.r rfl)) ?_
  refine AL.s rfl (op_or (.r rfl) rfl (fun h => (.we (nt h) rfl rfl))) ?_
  refine AL.nil ?_
  refine AW.cond (b := _) rfl (fun hc1 => ?_) (fun hc1 => ?_)
  · skip
    refine AW.seqR ?_
    refine AL.s rfl (op_assignD (.e rfl)) ?_
    refine AL.nil ?_
    refine AW.ret ?_
    refine tq_ret ?_
    refine EndQ.d (.tmp (.e rfl) .nil) rfl ?_
    rw [← rValid_eq]; simp only [rValidB, hc1, if_true] <;> rfl
  · skip
    refine AW.skip ?_
    refine nq ?_
    refine AW.seq ?_
    refine AW.seqR ?_
    refine AL.s rfl (op_assignD (.e rfl)) ?_
    refine AL.nil ?_
    refine AW.block ?_
    refine AW.loopE (α := Nat) (fun k => k ≤ r.tried.length ∧ ∀ j, j < k → triedAt r.tried r.lib j = false) [1] (fun k => [(3, .d (.int .i64 (k : Int)))]) (fun k => r.tried.length - k) (0) (⟨by omega, by omega⟩) ⟨by first | exact .of rfl | exact .d rfl | exact .any | exact .int (by simp), trivial⟩ ?_
    intro k hI
    obtain ⟨hI, hJ⟩ := hI
    refine AW.seq ?_
    refine AW.seqR ?_
    refine AL.s rfl (op_moveD (.e rfl)) ?_
    refine AL.s rfl (op_field_ptr (.e rfl) fd24_6) ?_
    refine AL.s rfl (op_load_ptr1 (.e rfl) rfl rfl sc22) ?_
    refine AL.s rfl (op_lenN (.r rfl) (by first | exact List.length_map _ | rfl) sl22) ?_
    refine AL.s rfl (op_lss (.r rfl) (.r rfl)) ?_
    refine AL.nil ?_
    refine AW.cond (b := _) rfl (fun hc2 => ?_) (fun hc2 => ?_)
    · skip
      refine AW.skip ?_
      refine nq ?_
      refine AW.seq ?_
      refine AW.block ?_
      refine AW.seqD [([], []), ([0], []), ([], []), ([], []), ([], []), ([], []), ([], []), ([], []), ([], []), ([0], []), ([], []), ([], []), ([], []), ([], []), ([0], []), ([], []), ([], []), ([], []), ([], []), ([0], []), ([], []), ([], []), ([], []), ([0], []), ([], []), ([], []), ([], []), ([], []), ([], [])] mo (by decide +kernel) ?_
      refine AD.s (ws := []) rfl rfl (fun H' _ hH => op_field_ptr (.e rfl) fd24_6) ?_
      refine AD.s (ws := []) rfl rfl (fun H' _ hH => op_load_ptr1 (.e rfl) ((hH _ (by first | exact List.Mem.head _ | simp)).trans rfl) rfl sc22) ?_
      refine AD.s (ws := []) rfl rfl (fun H' _ hH => op_moveD (.e rfl)) ?_
      refine AD.s (ws := []) rfl rfl (fun H' _ hH => op_indexAddr (.r rfl) (.r rfl) rfl (getMapD (d := []) (by simp at hc2; omega)) sl22 rfl) ?_
      refine AD.s (ws := []) rfl rfl (fun H' _ hH => op_load_vp1 (.e rfl) rfl sc9) ?_
      refine AD.s (ws := []) rfl rfl (fun H' _ hH => op_fn Try.call42 (.e rfl) (.cons (.r rfl) .nil) (rname_ok _ (hr.each k))) ?_
      refine AD.s (ws := []) rfl rfl (fun H' _ hH => op_not (.r rfl)) ?_
      refine AD.s (ws := []) rfl rfl (fun H' _ hH => op_moveD (.e rfl)) ?_
      refine AD.sF rfl rfl rfl rfl (fun g H' _ hH => op_field_ptr (.e rfl) fd24_6) ?_
      refine AD.sF rfl rfl rfl rfl (fun g H' _ hH => op_load_ptr1 (.we (nt g) rfl) ((hH _ (by first | exact List.Mem.head _ | simp)).trans rfl) rfl sc22) ?_
      refine AD.sF rfl rfl rfl rfl (fun g H' _ hH => op_moveD (.e rfl)) ?_
      refine AD.sF rfl rfl rfl rfl (fun g H' _ hH => op_indexAddr (.we (nt g) rfl rfl) (.we (nt g) rfl rfl) rfl (getMapD (d := []) (by simp at hc2; omega)) sl22 rfl) ?_
      refine AD.sF rfl rfl rfl rfl (fun g H' _ hH => op_load_vp1 (.we (nt g) rfl) rfl sc9) ?_
      refine AD.sF rfl rfl rfl rfl (fun g H' _ hH => op_field_ptr (.e rfl) fd24_2) ?_
      refine AD.sF rfl rfl rfl rfl (fun g H' _ hH => op_load_ptr1 (.we (nt g) rfl) ((hH _ (by first | exact List.Mem.head _ | simp)).trans rfl) rfl sc9) ?_
      refine AD.sF rfl rfl rfl rfl (fun g H' _ hH => op_eqlS (.we (nt g) rfl rfl) (.we (nt g) rfl rfl)) ?_
      refine AD.s (ws := []) rfl rfl (fun H' _ hH => op_or (.r rfl) rfl (fun h => (.we (nt h) rfl rfl))) ?_
      refine AD.s (ws := []) rfl rfl (fun H' _ hH => op_moveD (.e rfl)) ?_
      refine AD.sF rfl rfl rfl rfl (fun g H' _ hH => op_field_ptr (.e rfl) fd24_6) ?_
      refine AD.sF rfl rfl rfl rfl (fun g H' _ hH => op_load_ptr1 (.we (nt g) rfl) ((hH _ (by first | exact List.Mem.head _ | simp)).trans rfl) rfl sc22) ?_
      refine AD.sF rfl rfl rfl rfl (fun g H' _ hH => op_moveD (.e rfl)) ?_
      refine AD.sF rfl rfl rfl rfl (fun g H' _ hH => op_sliceTo (.we (nt g) rfl rfl) sl22 (.we (nt g) rfl rfl) rfl (by omega) (fun _ => rfl)) ?_
      refine AD.sF rfl rfl rfl rfl (fun g H' _ hH => op_field_ptr (.e rfl) fd24_6) ?_
      refine AD.sF rfl rfl rfl rfl (fun g H' _ hH => op_load_ptr1 (.we (nt g) rfl) ((hH _ (by first | exact List.Mem.head _ | simp)).trans rfl) rfl sc22) ?_
      refine AD.sF rfl rfl rfl rfl (fun g H' _ hH => op_moveD (.e rfl)) ?_
      refine AD.sF rfl rfl rfl rfl (fun g H' _ hH => op_indexAddr (.we (nt g) rfl rfl) (.we (nt g) rfl rfl) rfl (getMapD (d := []) (by simp at hc2; omega)) sl22 rfl) ?_
      refine AD.sF rfl rfl rfl rfl (fun g H' _ hH => op_load_vp1 (.we (nt g) rfl) rfl sc9) ?_
      refine AD.sF rfl rfl rfl rfl (fun g H' _ hH => op_fn Try.call44 (.e rfl) (.cons (.we (nt g) rfl rfl) (.cons (.we (nt g) rfl rfl) .nil)) (rin_ok _ _ (by simp; omega))) ?_
      refine AD.s (ws := []) rfl rfl (fun H' _ hH => op_or (.r rfl) rfl (fun h => (.we (nt h) rfl rfl))) ?_
      refine AD.nil ?_
      refine AW.cond (b := _) rfl (fun hc3 => ?_) (fun hc3 => ?_)
      · skip
        refine AW.seqR ?_
        refine AL.s rfl (op_assignD (.e rfl)) ?_
        refine AL.nil ?_
        refine AW.ret ?_
        refine bq_ret ?_
        refine tq_ret ?_
        refine tq_ret ?_
        refine bq_ret ?_
        refine tq_ret ?_
        refine EndQ.d (.tmp (.e rfl) .nil) rfl ?_
        rw [← rValid_eq]; simp only [rValidB, hc1, tryB_yes (k := k) (by simp at hc2; omega) hc3, Bool.false_eq_true, ↓reduceIte] <;> rfl
      · skip
        refine AW.skip ?_
        refine bq_n ?_
        refine nq ?_
        refine AW.region ?_
        refine AL.s rfl (op_moveD (.e rfl)) ?_
        refine AL.s rfl (op_add (.r rfl) (.r rfl) (w64 (by omega) (by simp at hc2; omega))) ?_
        refine AL.s rfl (op_assignD (.e rfl)) ?_
        refine AL.nil ?_
        refine nq ⟨k + 1, ?_, ?_, ⟨by first | exact .of rfl | exact .int (by omega) | exact .d rfl | exact .any, trivial⟩, ⟨rfl, trivial⟩, rfl⟩
        · simp at hc2; exact ⟨by omega, fun j hj => by rcases Nat.lt_or_ge j k with h1 | h1; exact hJ j h1; obtain rfl : j = k := (by omega); exact hc3⟩
        · simp at hc2; omega
    · skip
      have hall := tryB_no (l := r.tried) (lib := r.lib) (fun j hj => hJ j (by simp at hc2; omega))
      refine AW.exit ?_
      refine tq_exit ?_
      refine tq_exit ?_
      refine bq_hit ?_
      refine nq ?_
      refine AW.seq ?_
      refine AW.seqR ?_
      refine AL.s rfl (op_field_ptr (.e rfl) fd24_3) ?_
      refine AL.s rfl (op_load_ptr1 (.e rfl) rfl rfl sc3) ?_
      refine AL.s rfl (op_lss (.r rfl) (.r rfl)) ?_
      refine AL.s rfl (op_moveD (.e rfl)) ?_
      refine AL.sF rfl rfl rfl rfl (fun g => op_field_ptr (.e rfl) fd24_3) ?_
      refine AL.sF rfl rfl rfl rfl (fun g => op_load_ptr1 (.we (nt g) rfl) rfl rfl sc3) ?_
      refine AL.sF rfl rfl rfl rfl (fun g => op_gtr (.we (nt g) rfl rfl) (.r rfl)) ?_
      refine AL.s rfl (op_or (.r rfl) rfl (fun h => (.we (nt h) rfl rfl))) ?_
      refine AL.nil ?_
      refine AW.cond (b := _) rfl (fun hc4 => ?_) (fun hc4 => ?_)
      · skip
        refine AW.seqR ?_
        refine AL.s rfl (op_field_ptr (.e rfl) fd24_5) ?_
        refine AL.s rfl (op_load_ptr1 (.e rfl) rfl rfl sc9) ?_
        refine AL.s rfl (op_neqS (.r rfl) (.r rfl)) ?_
        refine AL.nil ?_
        refine AW.cond (b := _) rfl (fun hc5 => ?_) (fun hc5 => ?_)
        · skip
          refine AW.seqR ?_
          refine AL.s rfl (op_assignD (.e rfl)) ?_
          refine AL.nil ?_
          refine AW.ret ?_
          refine tq_ret ?_
          refine EndQ.d (.tmp (.e rfl) .nil) rfl ?_
          rw [← rValid_eq]; simp only [rValidB, rTail, hall, *, Bool.false_eq_true, ↓reduceIte] <;> rfl
        · skip
          refine AW.skip ?_
          refine nq ?_
          refine AW.seq ?_
          refine AW.seqR ?_
          refine AL.s rfl (op_field_ptr (.e rfl) fd24_3) ?_
          refine AL.s rfl (op_load_ptr1 (.e rfl) rfl rfl sc3) ?_
          refine AL.s rfl (op_fn Try.call45 (.e rfl) (.cons (.r rfl) .nil) (rlent_ok _)) ?_
          refine AL.s rfl (op_not (.r rfl)) ?_
          refine AL.nil ?_
          refine AW.cond (b := _) rfl (fun hc6 => ?_) (fun hc6 => ?_)
          · skip
            refine AW.seqR ?_
            refine AL.s rfl (op_field_ptr (.e rfl) fd24_7) ?_
            refine AL.s rfl (op_load_ptr1 (.e rfl) rfl rfl sc3) ?_
            refine AL.s rfl (op_eql (.r rfl) (.r rfl)) ?_
            refine AL.s rfl (op_moveD (.e rfl)) ?_
            refine AL.sT rfl rfl rfl rfl (fun g => op_field_ptr (.e rfl) fd24_8) ?_
            refine AL.sT rfl rfl rfl rfl (fun g => op_load_ptr1 (.we g rfl) rfl rfl sc3) ?_
            refine AL.sT rfl rfl rfl rfl (fun g => op_eql (.we g rfl rfl) (.r rfl)) ?_
            refine AL.s rfl (op_and (.r rfl) (fun h => (.we h rfl rfl)) rfl) ?_
            refine AL.s rfl (op_assignD (.e rfl)) ?_
            refine AL.nil ?_
            refine AW.ret ?_
            refine tq_ret ?_
            refine EndQ.d (.tmp (.e rfl) .nil) rfl ?_
            rw [← rValid_eq]; simp only [rValidB, rTail, hall, *, Bool.false_eq_true, ↓reduceIte] <;> rfl
          · skip
            refine AW.skip ?_
            refine nq ?_
            refine AW.seq ?_
            refine AW.seqR ?_
            refine AL.s rfl (op_field_ptr (.e rfl) fd24_3) ?_
            refine AL.s rfl (op_load_ptr1 (.e rfl) rfl rfl sc3) ?_
            refine AL.s rfl (op_eql (.r rfl) (.r rfl)) ?_
            refine AL.s rfl (op_moveD (.e rfl)) ?_
            refine AL.sF rfl rfl rfl rfl (fun g => op_field_ptr (.e rfl) fd24_3) ?_
            refine AL.sF rfl rfl rfl rfl (fun g => op_load_ptr1 (.we (nt g) rfl) rfl rfl sc3) ?_
            refine AL.sF rfl rfl rfl rfl (fun g => op_eql (.we (nt g) rfl rfl) (.r rfl)) ?_
            refine AL.s rfl (op_or (.r rfl) rfl (fun h => (.we (nt h) rfl rfl))) ?_
            refine AL.s rfl (op_moveD (.e rfl)) ?_
            refine AL.sT rfl rfl rfl rfl (fun g => op_field_ptr (.e rfl) fd24_7) ?_
            refine AL.sT rfl rfl rfl rfl (fun g => op_load_ptr1 (.we g rfl) rfl rfl sc3) ?_
            refine AL.sT rfl rfl rfl rfl (fun g => op_field_ptr (.e rfl) fd24_4) ?_
            refine AL.sT rfl rfl rfl rfl (fun g => op_load_ptr1 (.we g rfl) rfl rfl sc3) ?_
            refine AL.sT rfl rfl rfl rfl (fun g => op_lss (.we g rfl rfl) (.we g rfl rfl)) ?_
            refine AL.s rfl (op_and (.r rfl) (fun h => (.we h rfl rfl)) rfl) ?_
            refine AL.nil ?_
            refine AW.cond (b := _) rfl (fun hc7 => ?_) (fun hc7 => ?_)
            · skip
              refine AW.seqR ?_
              refine AL.s rfl (op_assignD (.e rfl)) ?_
              refine AL.nil ?_
              refine AW.ret ?_
              refine tq_ret ?_
              refine EndQ.d (.tmp (.e rfl) .nil) rfl ?_
              rw [← rValid_eq]; simp only [rValidB, rTail, hall, *, Bool.false_eq_true, ↓reduceIte] <;> rfl
            · skip
              refine AW.skip ?_
              refine nq ?_
              refine AW.seqR ?_
              refine AL.s rfl (op_field_ptr (.e rfl) fd24_7) ?_
              refine AL.s rfl (op_load_ptr1 (.e rfl) rfl rfl sc3) ?_
              refine AL.s rfl (op_geq (.r rfl) (.r rfl)) ?_
              refine AL.s rfl (op_moveD (.e rfl)) ?_
              refine AL.sT rfl rfl rfl rfl (fun g => op_field_ptr (.e rfl) fd24_7) ?_
              refine AL.sT rfl rfl rfl rfl (fun g => op_load_ptr1 (.we g rfl) rfl rfl sc3) ?_
              refine AL.sT rfl rfl rfl rfl (fun g => op_leq (.we g rfl rfl) (.r rfl)) ?_
              refine AL.s rfl (op_and (.r rfl) (fun h => (.we h rfl rfl)) rfl) ?_
              refine AL.s rfl (op_moveD (.e rfl)) ?_
              refine AL.sT rfl rfl rfl rfl (fun g => op_field_ptr (.e rfl) fd24_8) ?_
              refine AL.sT rfl rfl rfl rfl (fun g => op_load_ptr1 (.we g rfl) rfl rfl sc3) ?_
              refine AL.sT rfl rfl rfl rfl (fun g => op_geq (.we g rfl rfl) (.r rfl)) ?_
              refine AL.s rfl (op_and (.r rfl) (fun h => (.we h rfl rfl)) rfl) ?_
              refine AL.s rfl (op_moveD (.e rfl)) ?_
              refine AL.sT rfl rfl rfl rfl (fun g => op_field_ptr (.e rfl) fd24_8) ?_
              refine AL.sT rfl rfl rfl rfl (fun g => op_load_ptr1 (.we g rfl) rfl rfl sc3) ?_
              refine AL.sT rfl rfl rfl rfl (fun g => op_leq (.we g rfl rfl) (.r rfl)) ?_
              refine AL.s rfl (op_and (.r rfl) (fun h => (.we h rfl rfl)) rfl) ?_
              refine AL.s rfl (op_assignD (.e rfl)) ?_
              refine AL.nil ?_
              refine AW.ret ?_
              refine EndQ.d (.tmp (.e rfl) .nil) rfl ?_
              rw [← rValid_eq]; simp only [rValidB, rTail, hall, *, Bool.false_eq_true, ↓reduceIte] <;> rfl
      · skip
        refine AW.seqR ?_
        refine AL.s rfl (op_field_ptr (.e rfl) fd24_5) ?_
        refine AL.s rfl (op_load_ptr1 (.e rfl) rfl rfl sc9) ?_
        refine AL.s rfl (op_fn Try.call42 (.e rfl) (.cons (.r rfl) .nil) (rname_ok _ (by omega))) ?_
        refine AL.s rfl (op_not (.r rfl)) ?_
        refine AL.s rfl (op_moveD (.e rfl)) ?_
        refine AL.sF rfl rfl rfl rfl (fun g => op_field_ptr (.e rfl) fd24_5) ?_
        refine AL.sF rfl rfl rfl rfl (fun g => op_load_ptr1 (.we (nt g) rfl) rfl rfl sc9) ?_
        refine AL.sF rfl rfl rfl rfl (fun g => op_field_ptr (.e rfl) fd24_2) ?_
        refine AL.sF rfl rfl rfl rfl (fun g => op_load_ptr1 (.we (nt g) rfl) rfl rfl sc9) ?_
        refine AL.sF rfl rfl rfl rfl (fun g => op_eqlS (.we (nt g) rfl rfl) (.we (nt g) rfl rfl)) ?_
        refine AL.s rfl (op_or (.r rfl) rfl (fun h => (.we (nt h) rfl rfl))) ?_
        refine AL.s rfl (op_moveD (.e rfl)) ?_
        refine AL.sF rfl rfl rfl rfl (fun g => op_field_ptr (.e rfl) fd24_6) ?_
        refine AL.sF rfl rfl rfl rfl (fun g => op_load_ptr1 (.we (nt g) rfl) rfl rfl sc22) ?_
        refine AL.sF rfl rfl rfl rfl (fun g => op_field_ptr (.e rfl) fd24_5) ?_
        refine AL.sF rfl rfl rfl rfl (fun g => op_load_ptr1 (.we (nt g) rfl) rfl rfl sc9) ?_
        refine AL.sF rfl rfl rfl rfl (fun g => op_fn Try.call44 (.e rfl) (.cons (.we (nt g) rfl rfl) (.cons (.we (nt g) rfl rfl) .nil)) (rin_ok _ _ (by omega))) ?_
        refine AL.s rfl (op_or (.r rfl) rfl (fun h => (.we (nt h) rfl rfl))) ?_
        refine AL.nil ?_
        refine AW.cond (b := _) rfl (fun hc8 => ?_) (fun hc8 => ?_)
        · skip
          refine AW.seqR ?_
          refine AL.s rfl (op_assignD (.e rfl)) ?_
          refine AL.nil ?_
          refine AW.ret ?_
          refine tq_ret ?_
          refine EndQ.d (.tmp (.e rfl) .nil) rfl ?_
          rw [← rValid_eq]; simp only [rValidB, rTail, hall, *, Bool.false_eq_true, ↓reduceIte] <;> rfl
        · skip
          refine AW.skip ?_
          refine nq ?_
          refine AW.seq ?_
          refine AW.seqR ?_
          refine AL.s rfl (op_field_ptr (.e rfl) fd24_3) ?_
          refine AL.s rfl (op_load_ptr1 (.e rfl) rfl rfl sc3) ?_
          refine AL.s rfl (op_fn Try.call45 (.e rfl) (.cons (.r rfl) .nil) (rlent_ok _)) ?_
          refine AL.s rfl (op_not (.r rfl)) ?_
          refine AL.nil ?_
          refine AW.cond (b := _) rfl (fun hc9 => ?_) (fun hc9 => ?_)
          · skip
            refine AW.seqR ?_
            refine AL.s rfl (op_field_ptr (.e rfl) fd24_7) ?_
            refine AL.s rfl (op_load_ptr1 (.e rfl) rfl rfl sc3) ?_
            refine AL.s rfl (op_eql (.r rfl) (.r rfl)) ?_
            refine AL.s rfl (op_moveD (.e rfl)) ?_
            refine AL.sT rfl rfl rfl rfl (fun g => op_field_ptr (.e rfl) fd24_8) ?_
            refine AL.sT rfl rfl rfl rfl (fun g => op_load_ptr1 (.we g rfl) rfl rfl sc3) ?_
            refine AL.sT rfl rfl rfl rfl (fun g => op_eql (.we g rfl rfl) (.r rfl)) ?_
            refine AL.s rfl (op_and (.r rfl) (fun h => (.we h rfl rfl)) rfl) ?_
            refine AL.s rfl (op_assignD (.e rfl)) ?_
            refine AL.nil ?_
            refine AW.ret ?_
            refine tq_ret ?_
            refine EndQ.d (.tmp (.e rfl) .nil) rfl ?_
            rw [← rValid_eq]; simp only [rValidB, rTail, hall, *, Bool.false_eq_true, ↓reduceIte] <;> rfl
          · skip
            refine AW.skip ?_
            refine nq ?_
            refine AW.seq ?_
            refine AW.seqR ?_
            refine AL.s rfl (op_field_ptr (.e rfl) fd24_3) ?_
            refine AL.s rfl (op_load_ptr1 (.e rfl) rfl rfl sc3) ?_
            refine AL.s rfl (op_eql (.r rfl) (.r rfl)) ?_
            refine AL.s rfl (op_moveD (.e rfl)) ?_
            refine AL.sF rfl rfl rfl rfl (fun g => op_field_ptr (.e rfl) fd24_3) ?_
            refine AL.sF rfl rfl rfl rfl (fun g => op_load_ptr1 (.we (nt g) rfl) rfl rfl sc3) ?_
            refine AL.sF rfl rfl rfl rfl (fun g => op_eql (.we (nt g) rfl rfl) (.r rfl)) ?_
            refine AL.s rfl (op_or (.r rfl) rfl (fun h => (.we (nt h) rfl rfl))) ?_
            refine AL.s rfl (op_moveD (.e rfl)) ?_
            refine AL.sT rfl rfl rfl rfl (fun g => op_field_ptr (.e rfl) fd24_7) ?_
            refine AL.sT rfl rfl rfl rfl (fun g => op_load_ptr1 (.we g rfl) rfl rfl sc3) ?_
            refine AL.sT rfl rfl rfl rfl (fun g => op_field_ptr (.e rfl) fd24_4) ?_
            refine AL.sT rfl rfl rfl rfl (fun g => op_load_ptr1 (.we g rfl) rfl rfl sc3) ?_
            refine AL.sT rfl rfl rfl rfl (fun g => op_lss (.we g rfl rfl) (.we g rfl rfl)) ?_
            refine AL.s rfl (op_and (.r rfl) (fun h => (.we h rfl rfl)) rfl) ?_
            refine AL.nil ?_
            refine AW.cond (b := _) rfl (fun hc10 => ?_) (fun hc10 => ?_)
            · skip
              refine AW.seqR ?_
              refine AL.s rfl (op_assignD (.e rfl)) ?_
              refine AL.nil ?_
              refine AW.ret ?_
              refine tq_ret ?_
              refine EndQ.d (.tmp (.e rfl) .nil) rfl ?_
              rw [← rValid_eq]; simp only [rValidB, rTail, hall, *, Bool.false_eq_true, ↓reduceIte] <;> rfl
            · skip
              refine AW.skip ?_
              refine nq ?_
              refine AW.seqR ?_
              refine AL.s rfl (op_field_ptr (.e rfl) fd24_7) ?_
              refine AL.s rfl (op_load_ptr1 (.e rfl) rfl rfl sc3) ?_
              refine AL.s rfl (op_geq (.r rfl) (.r rfl)) ?_
              refine AL.s rfl (op_moveD (.e rfl)) ?_
              refine AL.sT rfl rfl rfl rfl (fun g => op_field_ptr (.e rfl) fd24_7) ?_
              refine AL.sT rfl rfl rfl rfl (fun g => op_load_ptr1 (.we g rfl) rfl rfl sc3) ?_
              refine AL.sT rfl rfl rfl rfl (fun g => op_leq (.we g rfl rfl) (.r rfl)) ?_
              refine AL.s rfl (op_and (.r rfl) (fun h => (.we h rfl rfl)) rfl) ?_
              refine AL.s rfl (op_moveD (.e rfl)) ?_
              refine AL.sT rfl rfl rfl rfl (fun g => op_field_ptr (.e rfl) fd24_8) ?_
              refine AL.sT rfl rfl rfl rfl (fun g => op_load_ptr1 (.we g rfl) rfl rfl sc3) ?_
              refine AL.sT rfl rfl rfl rfl (fun g => op_geq (.we g rfl rfl) (.r rfl)) ?_
              refine AL.s rfl (op_and (.r rfl) (fun h => (.we h rfl rfl)) rfl) ?_
              refine AL.s rfl (op_moveD (.e rfl)) ?_
              refine AL.sT rfl rfl rfl rfl (fun g => op_field_ptr (.e rfl) fd24_8) ?_
              refine AL.sT rfl rfl rfl rfl (fun g => op_load_ptr1 (.we g rfl) rfl rfl sc3) ?_
              refine AL.sT rfl rfl rfl rfl (fun g => op_leq (.we g rfl rfl) (.r rfl)) ?_
              refine AL.s rfl (op_and (.r rfl) (fun h => (.we h rfl rfl)) rfl) ?_
              refine AL.s rfl (op_assignD (.e rfl)) ?_
              refine AL.nil ?_
              refine AW.ret ?_
              refine EndQ.d (.tmp (.e rfl) .nil) rfl ?_
              rw [← rValid_eq]; simp only [rValidB, rTail, hall, *, Bool.false_eq_true, ↓reduceIte] <;> rfl

/-- bookplate/bookplateref55.Kinds -/
theorem rkinds_ok (n : Int) : Fn Try.prog 21 [.int .i64 n] (.sl ((kindsL n).map D.i)) := by
  refine Fn.of_AW (fnn := Try.f21) Try.func21 rfl (Nat.le_of_ble_eq_true rfl) (fun g0 w0 hw0 => ?_)
  refine AW.seqR ?_
  refine AL.s rfl (op_assignN (.e rfl)) ?_
  refine AL.nil ?_
  refine AW.seq ?_
  refine AW.seqR ?_
  refine AL.s rfl (op_moveD (.e rfl)) ?_
  refine AL.nil ?_
  refine AW.block ?_
  refine AW.seqR ?_
  refine AL.s rfl (op_eql (.r rfl) (.r rfl)) ?_
  refine AL.s rfl (op_assignD (.e rfl)) ?_
  refine AL.nil ?_
  refine AW.cond (b := _) rfl (fun hc1 => ?_) (fun hc1 => ?_)
  · skip
    refine AW.seqR ?_
    refine AL.s rfl (op_buildSlice sl47 (.cons (.r rfl) rfl (by simp [absD, absC, D.cells, D.one]) (.cons (.r rfl) rfl (by simp [absD, absC, D.cells, D.one]) (.cons (.r rfl) rfl (by simp [absD, absC, D.cells, D.one]) .nil))) rfl (by decide)) ?_
    refine AL.s rfl (op_assignE (.e rfl)) ?_
    refine AL.nil ?_
    refine AW.ret ?_
    refine bq_ret ?_
    refine tq_ret ?_
    refine EndQ.d (.tmp (.e rfl) .nil) rfl ?_
    obtain rfl : n = 1 := of_decide_eq_true hc1; rfl
  · skip
    refine AW.seqR ?_
    refine AL.s rfl (op_eql (.r rfl) (.r rfl)) ?_
    refine AL.s rfl (op_assignD (.e rfl)) ?_
    refine AL.nil ?_
    refine AW.cond (b := _) rfl (fun hc2 => ?_) (fun hc2 => ?_)
    · skip
      refine AW.seqR ?_
      refine AL.s rfl (op_buildSlice sl47 (.cons (.r rfl) rfl (by simp [absD, absC, D.cells, D.one]) (.cons (.r rfl) rfl (by simp [absD, absC, D.cells, D.one]) (.cons (.r rfl) rfl (by simp [absD, absC, D.cells, D.one]) .nil))) rfl (by decide)) ?_
      refine AL.s rfl (op_assignE (.e rfl)) ?_
      refine AL.nil ?_
      refine AW.ret ?_
      refine bq_ret ?_
      refine tq_ret ?_
      refine EndQ.d (.tmp (.e rfl) .nil) rfl ?_
      obtain rfl : n = 2 := of_decide_eq_true hc2; rfl
    · skip
      refine AW.seqR ?_
      refine AL.s rfl (op_eql (.r rfl) (.r rfl)) ?_
      refine AL.s rfl (op_assignD (.e rfl)) ?_
      refine AL.nil ?_
      refine AW.cond (b := _) rfl (fun hc3 => ?_) (fun hc3 => ?_)
      · skip
        refine AW.seqR ?_
        refine AL.s rfl (op_buildSlice sl47 (.cons (.r rfl) rfl (by simp [absD, absC, D.cells, D.one]) .nil) rfl (by decide)) ?_
        refine AL.s rfl (op_assignE (.e rfl)) ?_
        refine AL.nil ?_
        refine AW.ret ?_
        refine bq_ret ?_
        refine tq_ret ?_
        refine EndQ.d (.tmp (.e rfl) .nil) rfl ?_
        obtain rfl : n = 3 := of_decide_eq_true hc3; rfl
      · skip
        refine AW.seqR ?_
        refine AL.s rfl (op_eql (.r rfl) (.r rfl)) ?_
        refine AL.s rfl (op_assignD (.e rfl)) ?_
        refine AL.nil ?_
        refine AW.cond (b := _) rfl (fun hc4 => ?_) (fun hc4 => ?_)
        · skip
          refine AW.seqR ?_
          refine AL.s rfl (op_buildSlice sl47 (.cons (.r rfl) rfl (by simp [absD, absC, D.cells, D.one]) (.cons (.r rfl) rfl (by simp [absD, absC, D.cells, D.one]) (.cons (.r rfl) rfl (by simp [absD, absC, D.cells, D.one]) .nil))) rfl (by decide)) ?_
          refine AL.s rfl (op_assignE (.e rfl)) ?_
          refine AL.nil ?_
          refine AW.ret ?_
          refine bq_ret ?_
          refine tq_ret ?_
          refine EndQ.d (.tmp (.e rfl) .nil) rfl ?_
          obtain rfl : n = 4 := of_decide_eq_true hc4; rfl
        · skip
          refine AW.seqR ?_
          refine AL.s rfl (op_eql (.r rfl) (.r rfl)) ?_
          refine AL.s rfl (op_assignD (.e rfl)) ?_
          refine AL.nil ?_
          refine AW.cond (b := _) rfl (fun hc5 => ?_) (fun hc5 => ?_)
          · skip
            refine AW.seqR ?_
            refine AL.s rfl (op_buildSlice sl47 (.cons (.r rfl) rfl (by simp [absD, absC, D.cells, D.one]) .nil) rfl (by decide)) ?_
            refine AL.s rfl (op_assignE (.e rfl)) ?_
            refine AL.nil ?_
            refine AW.ret ?_
            refine bq_ret ?_
            refine tq_ret ?_
            refine EndQ.d (.tmp (.e rfl) .nil) rfl ?_
            obtain rfl : n = 5 := of_decide_eq_true hc5; rfl
          · skip
            refine AW.seqR ?_
            refine AL.s rfl (op_eql (.r rfl) (.r rfl)) ?_
            refine AL.s rfl (op_assignD (.e rfl)) ?_
            refine AL.nil ?_
            refine AW.cond (b := _) rfl (fun hc6 => ?_) (fun hc6 => ?_)
            · skip
              refine AW.seqR ?_
              refine AL.s rfl (op_buildSlice sl47 (.cons (.r rfl) rfl (by simp [absD, absC, D.cells, D.one]) .nil) rfl (by decide)) ?_
              refine AL.s rfl (op_assignE (.e rfl)) ?_
              refine AL.nil ?_
              refine AW.ret ?_
              refine bq_ret ?_
              refine tq_ret ?_
              refine EndQ.d (.tmp (.e rfl) .nil) rfl ?_
              obtain rfl : n = 6 := of_decide_eq_true hc6; rfl
            · skip
              refine AW.skip ?_
              refine bq_n ?_
              refine nq ?_
              refine AW.seqR ?_
              refine AL.s rfl (op_assignN (.e rfl)) ?_
              refine AL.nil ?_
              refine AW.ret ?_
              refine EndQ.d (.tmp (.e rfl) .nil) rfl ?_
              simp only [decide_eq_false_iff_not] at hc1 hc2 hc3 hc4 hc5 hc6; simp only [kindsL, hc1, hc2, hc3, hc4, hc5, hc6, if_false]; rfl

/-- bookplate/bookplateref55.check -/
theorem rcheck_ok (r : Req) (s : Stp) (hr : r.Fits) (hs : s.lender.length ≤ 9223372036854775807) : Fn Try.prog 46 [r.e, s.e] (.int .i64 (doI r s).2) := by
  have h3 := hr.tried
  refine Fn.of_AW (fnn := Try.f46) Try.func46 rfl (Nat.le_of_ble_eq_true rfl) (fun g0 w0 hw0 => ?_)
  refine AW.seqR ?_
  refine AL.s rfl (op_box (n := 0) (.e rfl) rfl rfl rfl) ?_
  refine AL.s rfl (op_box (n := 1) (.e rfl) rfl rfl rfl) ?_
  refine AL.s rfl (op_assignD (.e rfl)) ?_
  refine AL.nil ?_
  refine AW.seq ?_
  refine AW.block ?_
  refine AW.seqR ?_
  refine AL.s rfl (op_load_ptrA (.e rfl) rfl rfl rfl ag24) ?_
  refine AL.s rfl (op_fn Try.call18 (.e rfl) (.cons (.r rfl) .nil) (rvalid_ok ⟨_, _, _, _, _, _, _, _, _⟩ hr)) ?_
  refine AL.s rfl (op_not (.r rfl)) ?_
  refine AL.s rfl (op_moveD (.e rfl)) ?_
  refine AL.sF rfl rfl rfl rfl (fun g => op_field_ptr (.e rfl) fd44_0) ?_
  refine AL.sF rfl rfl rfl rfl (fun g => op_load_ptr1 (.we (nt g) rfl) rfl rfl sc3) ?_
  refine AL.sF rfl rfl rfl rfl (fun g => op_lss (.we (nt g) rfl rfl) (.r rfl)) ?_
  refine AL.s rfl (op_or (.r rfl) rfl (fun h => (.we (nt h) rfl rfl))) ?_
  refine AL.s rfl (op_moveD (.e rfl)) ?_
  refine AL.sF rfl rfl rfl rfl (fun g => op_field_ptr (.e rfl) fd44_0) ?_
  refine AL.sF rfl rfl rfl rfl (fun g => op_load_ptr1 (.we (nt g) rfl) rfl rfl sc3) ?_
  refine AL.sF rfl rfl rfl rfl (fun g => op_gtr (.we (nt g) rfl rfl) (.r rfl)) ?_
  refine AL.s rfl (op_or (.r rfl) rfl (fun h => (.we (nt h) rfl rfl))) ?_
  refine AL.s rfl (op_moveD (.e rfl)) ?_
  refine AL.sF rfl rfl rfl rfl (fun g => op_field_ptr (.e rfl) fd44_0) ?_
  refine AL.sF rfl rfl rfl rfl (fun g => op_load_ptr1 (.we (nt g) rfl) rfl rfl sc3) ?_
  refine AL.sF rfl rfl rfl rfl (fun g => op_neq (.we (nt g) rfl rfl) (.r rfl)) ?_
  refine AL.sF rfl rfl rfl rfl (fun g => op_moveD (.we (nt g) rfl)) ?_
  refine AL.sTT rfl rfl rfl rfl (fun gp g => op_field_ptr (.e rfl) fd44_2) ?_
  refine AL.sTT rfl rfl rfl rfl (fun gp g => op_load_ptr1 (.we (an gp g) rfl) rfl rfl sc9) ?_
  refine AL.sTT rfl rfl rfl rfl (fun gp g => op_neqS (.we (an gp g) rfl rfl) (.r rfl)) ?_
  refine AL.sF rfl rfl rfl rfl (fun g => op_and (.we (nt g) rfl rfl) (fun h => (.we (an (nt g) h) rfl rfl)) rfl) ?_
  refine AL.s rfl (op_or (.r rfl) rfl (fun h => (.we (nt h) rfl rfl))) ?_
  refine AL.s rfl (op_moveD (.e rfl)) ?_
  refine AL.sF rfl rfl rfl rfl (fun g => op_field_ptr (.e rfl) fd44_0) ?_
  refine AL.sF rfl rfl rfl rfl (fun g => op_load_ptr1 (.we (nt g) rfl) rfl rfl sc3) ?_
  refine AL.sF rfl rfl rfl rfl (fun g => op_neq (.we (nt g) rfl rfl) (.r rfl)) ?_
  refine AL.sF rfl rfl rfl rfl (fun g => op_moveD (.we (nt g) rfl)) ?_
  refine AL.sTT rfl rfl rfl rfl (fun gp g => op_field_ptr (.e rfl) fd44_0) ?_
  refine AL.sTT rfl rfl rfl rfl (fun gp g => op_load_ptr1 (.we (an gp g) rfl) rfl rfl sc3) ?_
  refine AL.sTT rfl rfl rfl rfl (fun gp g => op_neq (.we (an gp g) rfl rfl) (.r rfl)) ?_
  refine AL.sF rfl rfl rfl rfl (fun g => op_and (.we (nt g) rfl rfl) (fun h => (.we (an (nt g) h) rfl rfl)) rfl) ?_
  refine AL.sF rfl rfl rfl rfl (fun g => op_moveD (.we (nt g) rfl)) ?_
  refine AL.sTT rfl rfl rfl rfl (fun gp g => op_field_ptr (.e rfl) fd44_3) ?_
  refine AL.sTT rfl rfl rfl rfl (fun gp g => op_load_ptr1 (.we (an gp g) rfl) rfl rfl sc3) ?_
  refine AL.sTT rfl rfl rfl rfl (fun gp g => op_neq (.we (an gp g) rfl rfl) (.r rfl)) ?_
  refine AL.sF rfl rfl rfl rfl (fun g => op_and (.we (nt g) rfl rfl) (fun h => (.we (an (nt g) h) rfl rfl)) rfl) ?_
  refine AL.s rfl (op_or (.r rfl) rfl (fun h => (.we (nt h) rfl rfl))) ?_
  refine AL.s rfl (op_assignD (.e rfl)) ?_
  refine AL.nil ?_
  refine AW.cond (b := _) rfl (fun hc1 => ?_) (fun hc1 => ?_)
  · skip
    refine AW.seqR ?_
    refine AL.s rfl (op_assignD (.e rfl)) ?_
    refine AL.nil ?_
    refine AW.ret ?_
    refine bq_ret ?_
    refine tq_ret ?_
    refine EndQ.d (.tmp (.e rfl) .nil) rfl ?_
    first | (rw [← rcheck_eq]; simp only [rcheckI, hc1, Bool.false_eq_true, ↓reduceIte] <;> (try simp only [rRef, *, Bool.false_eq_true, ↓reduceIte]) <;> rfl) | (exfalso; simp_all; done)
  · skip
    refine AW.seqD [([], []), ([0], []), ([], []), ([], []), ([1], []), ([], []), ([], []), ([], [])] mo (by decide +kernel) ?_
    refine AD.s (ws := []) rfl rfl (fun H' _ hH => op_field_ptr (.e rfl) fd24_3) ?_
    refine AD.s (ws := []) rfl rfl (fun H' _ hH => op_load_ptr1 (.e rfl) ((hH _ (by first | exact List.Mem.head _ | simp)).trans rfl) rfl sc3) ?_
    refine AD.s (ws := []) rfl rfl (fun H' _ hH => op_fn Try.call21 (.e rfl) (.cons (.r rfl) .nil) (rkinds_ok _)) ?_
    refine AD.s (ws := []) rfl rfl (fun H' _ hH => op_field_ptr (.e rfl) fd44_0) ?_
    refine AD.s (ws := []) rfl rfl (fun H' _ hH => op_load_ptr1 (.e rfl) ((hH _ (by first | exact List.Mem.head _ | simp)).trans rfl) rfl sc3) ?_
    refine AD.s (ws := []) rfl rfl (fun H' _ hH => op_fn Try.call52 (.e rfl) (.cons (.r rfl) (.cons (.r rfl) .nil)) (rhas_ok _ _ (kindsL_len _))) ?_
    refine AD.s (ws := []) rfl rfl (fun H' _ hH => op_not (.r rfl)) ?_
    refine AD.s (ws := []) rfl rfl (fun H' _ hH => op_assignD (.e rfl)) ?_
    refine AD.nil ?_
    refine AW.cond (b := _) rfl (fun hc2 => ?_) (fun hc2 => ?_)
    · skip
      refine AW.seqR ?_
      refine AL.s rfl (op_assignD (.e rfl)) ?_
      refine AL.nil ?_
      refine AW.ret ?_
      refine bq_ret ?_
      refine tq_ret ?_
      refine EndQ.d (.tmp (.e rfl) .nil) rfl ?_
      first | (rw [← rcheck_eq]; simp only [rcheckI, hc1, hc2, Bool.false_eq_true, ↓reduceIte] <;> (try simp only [rRef, *, Bool.false_eq_true, ↓reduceIte]) <;> rfl) | (exfalso; simp_all; done)
    · skip
      refine AW.seqR ?_
      refine AL.s rfl (op_field_ptr (.e rfl) fd44_1) ?_
      refine AL.s rfl (op_load_ptr1 (.e rfl) rfl rfl sc3) ?_
      refine AL.s rfl (op_field_ptr (.e rfl) fd24_4) ?_
      refine AL.s rfl (op_load_ptr1 (.e rfl) rfl rfl sc3) ?_
      refine AL.s rfl (op_lss (.r rfl) (.r rfl)) ?_
      refine AL.s rfl (op_moveD (.e rfl)) ?_
      refine AL.sF rfl rfl rfl rfl (fun g => op_field_ptr (.e rfl) fd44_1) ?_
      refine AL.sF rfl rfl rfl rfl (fun g => op_load_ptr1 (.we (nt g) rfl) rfl rfl sc3) ?_
      refine AL.sF rfl rfl rfl rfl (fun g => op_gtr (.we (nt g) rfl rfl) (.r rfl)) ?_
      refine AL.s rfl (op_or (.r rfl) rfl (fun h => (.we (nt h) rfl rfl))) ?_
      refine AL.s rfl (op_assignD (.e rfl)) ?_
      refine AL.nil ?_
      refine AW.cond (b := _) rfl (fun hc3 => ?_) (fun hc3 => ?_)
      · skip
        refine AW.seqR ?_
        refine AL.s rfl (op_assignD (.e rfl)) ?_
        refine AL.nil ?_
        refine AW.ret ?_
        refine bq_ret ?_
        refine tq_ret ?_
        refine EndQ.d (.tmp (.e rfl) .nil) rfl ?_
        first | (rw [← rcheck_eq]; simp only [rcheckI, hc1, hc2, hc3, Bool.false_eq_true, ↓reduceIte] <;> (try simp only [rRef, *, Bool.false_eq_true, ↓reduceIte]) <;> rfl) | (exfalso; simp_all; done)
      · skip
        refine AW.skip ?_
        refine bq_n ?_
        refine nq ?_
        refine AW.seq ?_
        refine AW.seqR ?_
        refine AL.s rfl (op_field_ptr (.e rfl) fd44_0) ?_
        refine AL.s rfl (op_load_ptr1 (.e rfl) rfl rfl sc3) ?_
        refine AL.nil ?_
        refine AW.block ?_
        refine AW.seqR ?_
        refine AL.s rfl (op_eql (.r rfl) (.r rfl)) ?_
        refine AL.s rfl (op_assignD (.e rfl)) ?_
        refine AL.nil ?_
        refine AW.cond (b := _) rfl (fun hc4 => ?_) (fun hc4 => ?_)
        · skip
          refine AW.seq ?_
          refine AW.seqR ?_
          refine AL.s rfl (op_field_ptr (.e rfl) fd44_2) ?_
          refine AL.s rfl (op_load_ptr1 (.e rfl) rfl rfl sc9) ?_
          refine AL.s rfl (op_fn Try.call42 (.e rfl) (.cons (.r rfl) .nil) (rname_ok _ (by omega))) ?_
          refine AL.s rfl (op_not (.r rfl)) ?_
          refine AL.s rfl (op_moveD (.e rfl)) ?_
          refine AL.sF rfl rfl rfl rfl (fun g => op_field_ptr (.e rfl) fd44_2) ?_
          refine AL.sF rfl rfl rfl rfl (fun g => op_load_ptr1 (.we (nt g) rfl) rfl rfl sc9) ?_
          refine AL.sF rfl rfl rfl rfl (fun g => op_field_ptr (.e rfl) fd24_2) ?_
          refine AL.sF rfl rfl rfl rfl (fun g => op_load_ptr1 (.we (nt g) rfl) rfl rfl sc9) ?_
          refine AL.sF rfl rfl rfl rfl (fun g => op_eqlS (.we (nt g) rfl rfl) (.we (nt g) rfl rfl)) ?_
          refine AL.s rfl (op_or (.r rfl) rfl (fun h => (.we (nt h) rfl rfl))) ?_
          refine AL.nil ?_
          refine AW.cond (b := _) rfl (fun hc5 => ?_) (fun hc5 => ?_)
          · skip
            refine AW.seqR ?_
            refine AL.s rfl (op_assignD (.e rfl)) ?_
            refine AL.nil ?_
            refine AW.ret ?_
            refine tq_ret ?_
            refine bq_ret ?_
            refine tq_ret ?_
            refine EndQ.d (.tmp (.e rfl) .nil) rfl ?_
            first | (rw [← rcheck_eq]; simp only [rcheckI, hc1, hc2, hc3, Bool.false_eq_true, ↓reduceIte] <;> (try simp only [rRef, *, Bool.false_eq_true, ↓reduceIte]) <;> rfl) | (exfalso; simp_all; done)
          · skip
            refine AW.skip ?_
            refine nq ?_
            refine AW.seqR ?_
            refine AL.s rfl (op_field_ptr (.e rfl) fd24_6) ?_
            refine AL.s rfl (op_load_ptr1 (.e rfl) rfl rfl sc22) ?_
            refine AL.s rfl (op_field_ptr (.e rfl) fd44_2) ?_
            refine AL.s rfl (op_load_ptr1 (.e rfl) rfl rfl sc9) ?_
            refine AL.s rfl (op_fn Try.call44 (.e rfl) (.cons (.r rfl) (.cons (.r rfl) .nil)) (rin_ok _ _ (by omega))) ?_
            refine AL.nil ?_
            refine AW.cond (b := _) rfl (fun hc6 => ?_) (fun hc6 => ?_)
            · skip
              refine AW.seqR ?_
              refine AL.s rfl (op_assignD (.e rfl)) ?_
              refine AL.nil ?_
              refine AW.ret ?_
              refine bq_ret ?_
              refine tq_ret ?_
              refine EndQ.d (.tmp (.e rfl) .nil) rfl ?_
              first | (rw [← rcheck_eq]; simp only [rcheckI, hc1, hc2, hc3, Bool.false_eq_true, ↓reduceIte] <;> (try simp only [rRef, *, Bool.false_eq_true, ↓reduceIte]) <;> rfl) | (exfalso; simp_all; done)
            · skip
              refine AW.skip ?_
              refine bq_n ?_
              refine nq ?_
              refine AW.seqR ?_
              refine AL.s rfl (op_assignD (.e rfl)) ?_
              refine AL.nil ?_
              refine AW.ret ?_
              refine EndQ.d (.tmp (.e rfl) .nil) rfl ?_
              first | (rw [← rcheck_eq]; simp only [rcheckI, hc1, hc2, hc3, Bool.false_eq_true, ↓reduceIte] <;> (try simp only [rRef, *, Bool.false_eq_true, ↓reduceIte]) <;> rfl) | (exfalso; simp_all; done)
        · skip
          refine AW.seqR ?_
          refine AL.s rfl (op_eql (.r rfl) (.r rfl)) ?_
          refine AL.s rfl (op_assignD (.e rfl)) ?_
          refine AL.nil ?_
          refine AW.cond (b := _) rfl (fun hc7 => ?_) (fun hc7 => ?_)
          · skip
            refine AW.seqR ?_
            refine AL.s rfl (op_field_ptr (.e rfl) fd24_6) ?_
            refine AL.s rfl (op_load_ptr1 (.e rfl) rfl rfl sc22) ?_
            refine AL.s rfl (op_lenN (.r rfl) (by first | exact List.length_map _ | rfl) sl22) ?_
            refine AL.s rfl (op_eql (.r rfl) (.r rfl)) ?_
            refine AL.nil ?_
            refine AW.cond (b := _) rfl (fun hc8 => ?_) (fun hc8 => ?_)
            · skip
              refine AW.seqR ?_
              refine AL.s rfl (op_assignD (.e rfl)) ?_
              refine AL.nil ?_
              refine AW.ret ?_
              refine bq_ret ?_
              refine tq_ret ?_
              refine EndQ.d (.tmp (.e rfl) .nil) rfl ?_
              first | (rw [← rcheck_eq]; simp only [rcheckI, hc1, hc2, hc3, Bool.false_eq_true, ↓reduceIte] <;> (try simp only [rRef, *, Bool.false_eq_true, ↓reduceIte]) <;> rfl) | (exfalso; simp_all; done)
            · skip
              refine AW.skip ?_
              refine bq_n ?_
              refine nq ?_
              refine AW.seqR ?_
              refine AL.s rfl (op_assignD (.e rfl)) ?_
              refine AL.nil ?_
              refine AW.ret ?_
              refine EndQ.d (.tmp (.e rfl) .nil) rfl ?_
              first | (rw [← rcheck_eq]; simp only [rcheckI, hc1, hc2, hc3, Bool.false_eq_true, ↓reduceIte] <;> (try simp only [rRef, *, Bool.false_eq_true, ↓reduceIte]) <;> rfl) | (exfalso; simp_all; done)
          · skip
            refine AW.seq ?_
            refine AW.seqR ?_
            refine AL.s rfl (op_eql (.r rfl) (.r rfl)) ?_
            refine AL.s rfl (op_assignD (.e rfl)) ?_
            refine AL.nil ?_
            refine AW.cond (b := _) rfl (fun hc9 => ?_) (fun hc9 => ?_)
            · skip
              refine AW.skip ?_
              refine nq ?_
              refine AW.cond (b := _) rfl (fun hc10 => ?_) (fun hc10 => ?_)
              · skip
                refine AW.seq ?_
                refine AW.seqR ?_
                refine AL.s rfl (op_field_ptr (.e rfl) fd24_8) ?_
                refine AL.s rfl (op_load_ptr1 (.e rfl) rfl rfl sc3) ?_
                refine AL.s rfl (op_eql (.r rfl) (.r rfl)) ?_
                refine AL.nil ?_
                refine AW.cond (b := _) rfl (fun hc11 => ?_) (fun hc11 => ?_)
                · skip
                  refine AW.seqR ?_
                  refine AL.s rfl (op_assignD (.e rfl)) ?_
                  refine AL.nil ?_
                  refine AW.ret ?_
                  refine tq_ret ?_
                  refine bq_ret ?_
                  refine tq_ret ?_
                  refine EndQ.d (.tmp (.e rfl) .nil) rfl ?_
                  first | (rw [← rcheck_eq]; simp only [rcheckI, hc1, hc2, hc3, Bool.false_eq_true, ↓reduceIte] <;> (try simp only [rRef, *, Bool.false_eq_true, ↓reduceIte]) <;> rfl) | (exfalso; simp_all; done)
                · skip
                  refine AW.skip ?_
                  refine nq ?_
                  refine AW.seqR ?_
                  refine AL.s rfl (op_field_ptr (.e rfl) fd44_3) ?_
                  refine AL.s rfl (op_load_ptr1 (.e rfl) rfl rfl sc3) ?_
                  refine AL.s rfl (op_field_ptr (.e rfl) fd44_1) ?_
                  refine AL.s rfl (op_load_ptr1 (.e rfl) rfl rfl sc3) ?_
                  refine AL.s rfl (op_leq (.r rfl) (.r rfl)) ?_
                  refine AL.s rfl (op_moveD (.e rfl)) ?_
                  refine AL.sF rfl rfl rfl rfl (fun g => op_field_ptr (.e rfl) fd44_3) ?_
                  refine AL.sF rfl rfl rfl rfl (fun g => op_load_ptr1 (.we (nt g) rfl) rfl rfl sc3) ?_
                  refine AL.sF rfl rfl rfl rfl (fun g => op_gtr (.we (nt g) rfl rfl) (.r rfl)) ?_
                  refine AL.s rfl (op_or (.r rfl) rfl (fun h => (.we (nt h) rfl rfl))) ?_
                  refine AL.s rfl (op_moveD (.e rfl)) ?_
                  refine AL.sF rfl rfl rfl rfl (fun g => op_field_ptr (.e rfl) fd44_3) ?_
                  refine AL.sF rfl rfl rfl rfl (fun g => op_load_ptr1 (.we (nt g) rfl) rfl rfl sc3) ?_
                  refine AL.sF rfl rfl rfl rfl (fun g => op_field_ptr (.e rfl) fd24_7) ?_
                  refine AL.sF rfl rfl rfl rfl (fun g => op_load_ptr1 (.we (nt g) rfl) rfl rfl sc3) ?_
                  refine AL.sF rfl rfl rfl rfl (fun g => op_leq (.we (nt g) rfl rfl) (.we (nt g) rfl rfl)) ?_
                  refine AL.s rfl (op_or (.r rfl) rfl (fun h => (.we (nt h) rfl rfl))) ?_
                  refine AL.nil ?_
                  refine AW.cond (b := _) rfl (fun hc12 => ?_) (fun hc12 => ?_)
                  · skip
                    refine AW.seqR ?_
                    refine AL.s rfl (op_assignD (.e rfl)) ?_
                    refine AL.nil ?_
                    refine AW.ret ?_
                    refine bq_ret ?_
                    refine tq_ret ?_
                    refine EndQ.d (.tmp (.e rfl) .nil) rfl ?_
                    first | (rw [← rcheck_eq]; simp only [rcheckI, hc1, hc2, hc3, Bool.false_eq_true, ↓reduceIte] <;> (try simp only [rRef, *, Bool.false_eq_true, ↓reduceIte]) <;> rfl) | (exfalso; simp_all; done)
                  · skip
                    refine AW.skip ?_
                    refine bq_n ?_
                    refine nq ?_
                    refine AW.seqR ?_
                    refine AL.s rfl (op_assignD (.e rfl)) ?_
                    refine AL.nil ?_
                    refine AW.ret ?_
                    refine EndQ.d (.tmp (.e rfl) .nil) rfl ?_
                    first | (rw [← rcheck_eq]; simp only [rcheckI, hc1, hc2, hc3, Bool.false_eq_true, ↓reduceIte] <;> (try simp only [rRef, *, Bool.false_eq_true, ↓reduceIte]) <;> rfl) | (exfalso; simp_all; done)
              · skip
                refine AW.seqR ?_
                refine AL.s rfl (op_eql (.r rfl) (.r rfl)) ?_
                refine AL.s rfl (op_assignD (.e rfl)) ?_
                refine AL.nil ?_
                refine AW.cond (b := _) rfl (fun hc13 => ?_) (fun hc13 => ?_)
                · skip
                  refine AW.seqR ?_
                  refine AL.s rfl (op_field_ptr (.e rfl) fd24_7) ?_
                  refine AL.s rfl (op_load_ptr1 (.e rfl) rfl rfl sc3) ?_
                  refine AL.s rfl (op_field_ptr (.e rfl) fd44_1) ?_
                  refine AL.s rfl (op_load_ptr1 (.e rfl) rfl rfl sc3) ?_
                  refine AL.s rfl (op_lss (.r rfl) (.r rfl)) ?_
                  refine AL.nil ?_
                  refine AW.cond (b := _) rfl (fun hc14 => ?_) (fun hc14 => ?_)
                  · skip
                    refine AW.seqR ?_
                    refine AL.s rfl (op_assignD (.e rfl)) ?_
                    refine AL.nil ?_
                    refine AW.ret ?_
                    refine bq_ret ?_
                    refine tq_ret ?_
                    refine EndQ.d (.tmp (.e rfl) .nil) rfl ?_
                    first | (rw [← rcheck_eq]; simp only [rcheckI, hc1, hc2, hc3, Bool.false_eq_true, ↓reduceIte] <;> (try simp only [rRef, *, Bool.false_eq_true, ↓reduceIte]) <;> rfl) | (exfalso; simp_all; done)
                  · skip
                    refine AW.skip ?_
                    refine bq_n ?_
                    refine nq ?_
                    refine AW.seqR ?_
                    refine AL.s rfl (op_assignD (.e rfl)) ?_
                    refine AL.nil ?_
                    refine AW.ret ?_
                    refine EndQ.d (.tmp (.e rfl) .nil) rfl ?_
                    first | (rw [← rcheck_eq]; simp only [rcheckI, hc1, hc2, hc3, Bool.false_eq_true, ↓reduceIte] <;> (try simp only [rRef, *, Bool.false_eq_true, ↓reduceIte]) <;> rfl) | (exfalso; simp_all; done)
                · skip
                  refine AW.skip ?_
                  refine bq_n ?_
                  refine nq ?_
                  refine AW.seqR ?_
                  refine AL.s rfl (op_assignD (.e rfl)) ?_
                  refine AL.nil ?_
                  refine AW.ret ?_
                  refine EndQ.d (.tmp (.e rfl) .nil) rfl ?_
                  first | (rw [← rcheck_eq]; simp only [rcheckI, hc1, hc2, hc3, Bool.false_eq_true, ↓reduceIte] <;> (try simp only [rRef, *, Bool.false_eq_true, ↓reduceIte]) <;> rfl) | (exfalso; simp_all; done)
            · skip
              refine AW.region ?_
              refine AL.s rfl (op_eql (.r rfl) (.r rfl)) ?_
              refine AL.s rfl (op_assignD (.e rfl)) ?_
              refine AL.nil ?_
              refine nq ?_
              refine AW.cond (b := _) rfl (fun hc15 => ?_) (fun hc15 => ?_)
              · skip
                refine AW.seq ?_
                refine AW.seqR ?_
                refine AL.s rfl (op_field_ptr (.e rfl) fd24_8) ?_
                refine AL.s rfl (op_load_ptr1 (.e rfl) rfl rfl sc3) ?_
                refine AL.s rfl (op_eql (.r rfl) (.r rfl)) ?_
                refine AL.nil ?_
                refine AW.cond (b := _) rfl (fun hc16 => ?_) (fun hc16 => ?_)
                · skip
                  refine AW.seqR ?_
                  refine AL.s rfl (op_assignD (.e rfl)) ?_
                  refine AL.nil ?_
                  refine AW.ret ?_
                  refine tq_ret ?_
                  refine bq_ret ?_
                  refine tq_ret ?_
                  refine EndQ.d (.tmp (.e rfl) .nil) rfl ?_
                  first | (rw [← rcheck_eq]; simp only [rcheckI, hc1, hc2, hc3, Bool.false_eq_true, ↓reduceIte] <;> (try simp only [rRef, *, Bool.false_eq_true, ↓reduceIte]) <;> rfl) | (exfalso; simp_all; done)
                · skip
                  refine AW.skip ?_
                  refine nq ?_
                  refine AW.seqR ?_
                  refine AL.s rfl (op_field_ptr (.e rfl) fd44_3) ?_
                  refine AL.s rfl (op_load_ptr1 (.e rfl) rfl rfl sc3) ?_
                  refine AL.s rfl (op_field_ptr (.e rfl) fd44_1) ?_
                  refine AL.s rfl (op_load_ptr1 (.e rfl) rfl rfl sc3) ?_
                  refine AL.s rfl (op_leq (.r rfl) (.r rfl)) ?_
                  refine AL.s rfl (op_moveD (.e rfl)) ?_
                  refine AL.sF rfl rfl rfl rfl (fun g => op_field_ptr (.e rfl) fd44_3) ?_
                  refine AL.sF rfl rfl rfl rfl (fun g => op_load_ptr1 (.we (nt g) rfl) rfl rfl sc3) ?_
                  refine AL.sF rfl rfl rfl rfl (fun g => op_gtr (.we (nt g) rfl rfl) (.r rfl)) ?_
                  refine AL.s rfl (op_or (.r rfl) rfl (fun h => (.we (nt h) rfl rfl))) ?_
                  refine AL.s rfl (op_moveD (.e rfl)) ?_
                  refine AL.sF rfl rfl rfl rfl (fun g => op_field_ptr (.e rfl) fd44_3) ?_
                  refine AL.sF rfl rfl rfl rfl (fun g => op_load_ptr1 (.we (nt g) rfl) rfl rfl sc3) ?_
                  refine AL.sF rfl rfl rfl rfl (fun g => op_field_ptr (.e rfl) fd24_7) ?_
                  refine AL.sF rfl rfl rfl rfl (fun g => op_load_ptr1 (.we (nt g) rfl) rfl rfl sc3) ?_
                  refine AL.sF rfl rfl rfl rfl (fun g => op_leq (.we (nt g) rfl rfl) (.we (nt g) rfl rfl)) ?_
                  refine AL.s rfl (op_or (.r rfl) rfl (fun h => (.we (nt h) rfl rfl))) ?_
                  refine AL.nil ?_
                  refine AW.cond (b := _) rfl (fun hc17 => ?_) (fun hc17 => ?_)
                  · skip
                    refine AW.seqR ?_
                    refine AL.s rfl (op_assignD (.e rfl)) ?_
                    refine AL.nil ?_
                    refine AW.ret ?_
                    refine bq_ret ?_
                    refine tq_ret ?_
                    refine EndQ.d (.tmp (.e rfl) .nil) rfl ?_
                    first | (rw [← rcheck_eq]; simp only [rcheckI, hc1, hc2, hc3, Bool.false_eq_true, ↓reduceIte] <;> (try simp only [rRef, *, Bool.false_eq_true, ↓reduceIte]) <;> rfl) | (exfalso; simp_all; done)
                  · skip
                    refine AW.skip ?_
                    refine bq_n ?_
                    refine nq ?_
                    refine AW.seqR ?_
                    refine AL.s rfl (op_assignD (.e rfl)) ?_
                    refine AL.nil ?_
                    refine AW.ret ?_
                    refine EndQ.d (.tmp (.e rfl) .nil) rfl ?_
                    first | (rw [← rcheck_eq]; simp only [rcheckI, hc1, hc2, hc3, Bool.false_eq_true, ↓reduceIte] <;> (try simp only [rRef, *, Bool.false_eq_true, ↓reduceIte]) <;> rfl) | (exfalso; simp_all; done)
              · skip
                refine AW.seqR ?_
                refine AL.s rfl (op_eql (.r rfl) (.r rfl)) ?_
                refine AL.s rfl (op_assignD (.e rfl)) ?_
                refine AL.nil ?_
                refine AW.cond (b := _) rfl (fun hc18 => ?_) (fun hc18 => ?_)
                · skip
                  refine AW.seqR ?_
                  refine AL.s rfl (op_field_ptr (.e rfl) fd24_7) ?_
                  refine AL.s rfl (op_load_ptr1 (.e rfl) rfl rfl sc3) ?_
                  refine AL.s rfl (op_field_ptr (.e rfl) fd44_1) ?_
                  refine AL.s rfl (op_load_ptr1 (.e rfl) rfl rfl sc3) ?_
                  refine AL.s rfl (op_lss (.r rfl) (.r rfl)) ?_
                  refine AL.nil ?_
                  refine AW.cond (b := _) rfl (fun hc19 => ?_) (fun hc19 => ?_)
                  · skip
                    refine AW.seqR ?_
                    refine AL.s rfl (op_assignD (.e rfl)) ?_
                    refine AL.nil ?_
                    refine AW.ret ?_
                    refine bq_ret ?_
                    refine tq_ret ?_
                    refine EndQ.d (.tmp (.e rfl) .nil) rfl ?_
                    first | (rw [← rcheck_eq]; simp only [rcheckI, hc1, hc2, hc3, Bool.false_eq_true, ↓reduceIte] <;> (try simp only [rRef, *, Bool.false_eq_true, ↓reduceIte]) <;> rfl) | (exfalso; simp_all; done)
                  · skip
                    refine AW.skip ?_
                    refine bq_n ?_
                    refine nq ?_
                    refine AW.seqR ?_
                    refine AL.s rfl (op_assignD (.e rfl)) ?_
                    refine AL.nil ?_
                    refine AW.ret ?_
                    refine EndQ.d (.tmp (.e rfl) .nil) rfl ?_
                    first | (rw [← rcheck_eq]; simp only [rcheckI, hc1, hc2, hc3, Bool.false_eq_true, ↓reduceIte] <;> (try simp only [rRef, *, Bool.false_eq_true, ↓reduceIte]) <;> rfl) | (exfalso; simp_all; done)
                · skip
                  refine AW.skip ?_
                  refine bq_n ?_
                  refine nq ?_
                  refine AW.seqR ?_
                  refine AL.s rfl (op_assignD (.e rfl)) ?_
                  refine AL.nil ?_
                  refine AW.ret ?_
                  refine EndQ.d (.tmp (.e rfl) .nil) rfl ?_
                  first | (rw [← rcheck_eq]; simp only [rcheckI, hc1, hc2, hc3, Bool.false_eq_true, ↓reduceIte] <;> (try simp only [rRef, *, Bool.false_eq_true, ↓reduceIte]) <;> rfl) | (exfalso; simp_all; done)

end Go.Proofs.Ytciojlggdnmncaa.Ab
