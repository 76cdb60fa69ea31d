/- Small predicates on numbers, searching, names. Conditions: none. -/
import Derived.Test.YtciojlggdnmncaaSp
set_option maxRecDepth 100000
namespace Go.Proofs.Ytciojlggdnmncaa.Ab
open Go 

/-- bookplate/request.in -/
theorem in_ok (n lo hi : Int) : Fn Try.prog 35 [.int .i64 n, .int .i64 lo, .int .i64 hi] (.bool (inI n lo hi)) := by
  refine Fn.of_AW (fnn := Try.f35) Try.func35 rfl (Nat.le_of_ble_eq_true rfl) (fun g0 w0 hw0 => ?_)
  refine AW.seqR ?_
  refine AL.s rfl (op_assignD (.e rfl)) ?_
  refine AL.nil ?_
  refine AW.seqR ?_
  refine AL.s rfl (op_moveD (.e rfl)) ?_
  refine AL.s rfl (op_moveD (.e rfl)) ?_
  refine AL.s rfl (op_geq (.r rfl) (.r rfl)) ?_
  refine AL.s rfl (op_moveD (.e rfl)) ?_
  refine AL.sT rfl rfl rfl rfl (fun g => op_moveD (.e rfl)) ?_
  refine AL.sT rfl rfl rfl rfl (fun g => op_moveD (.e rfl)) ?_
  refine AL.sT rfl rfl rfl rfl (fun g => op_leq (.we g rfl rfl) (.we g rfl rfl)) ?_
  refine AL.s rfl (op_and (.r rfl) (fun h => (.we h rfl rfl)) rfl) ?_
  refine AL.s rfl (op_assignD (.e rfl)) ?_
  refine AL.nil ?_
  refine AW.ret ?_
  refine EndQ.d (.tmp (.e rfl) .nil) rfl ?_
  rfl

/-- bookplate/request.lent -/
theorem lent_ok (n : Int) : Fn Try.prog 39 [.int .i64 n] (.bool (inI n 4 7)) := by
  refine Fn.of_AW (fnn := Try.f39) Try.func39 rfl (Nat.le_of_ble_eq_true rfl) (fun g0 w0 hw0 => ?_)
  refine AW.seqR ?_
  refine AL.s rfl (op_assignD (.e rfl)) ?_
  refine AL.nil ?_
  refine AW.seqR ?_
  refine AL.s rfl (op_moveD (.e rfl)) ?_
  refine AL.s rfl (op_fn Try.call35 (.e rfl) (.cons (.r rfl) (.cons (.r rfl) (.cons (.r rfl) .nil))) (in_ok _ _ _)) ?_
  refine AL.s rfl (op_assignD (.e rfl)) ?_
  refine AL.nil ?_
  refine AW.ret ?_
  refine EndQ.d (.tmp (.e rfl) .nil) rfl ?_
  rfl

/-- bookplate/request.Final -/
theorem final_ok (n : Int) : Fn Try.prog 20 [.int .i64 n] (.bool (inI n 7 9)) := by
  refine Fn.of_AW (fnn := Try.f20) Try.func20 rfl (Nat.le_of_ble_eq_true rfl) (fun g0 w0 hw0 => ?_)
  refine AW.seqR ?_
  refine AL.s rfl (op_assignD (.e rfl)) ?_
  refine AL.nil ?_
  refine AW.seqR ?_
  refine AL.s rfl (op_moveD (.e rfl)) ?_
  refine AL.s rfl (op_fn Try.call35 (.e rfl) (.cons (.r rfl) (.cons (.r rfl) (.cons (.r rfl) .nil))) (in_ok _ _ _)) ?_
  refine AL.s rfl (op_assignD (.e rfl)) ?_
  refine AL.nil ?_
  refine AW.ret ?_
  refine EndQ.d (.tmp (.e rfl) .nil) rfl ?_
  rfl

/-- bookplate/bookplateref55.day -/
theorem rday_ok (n : Int) : Fn Try.prog 43 [.int .i64 n] (.bool (decide (0 ≤ n) && decide (n ≤ 1000000))) := by
  refine Fn.of_AW (fnn := Try.f43) Try.func43 rfl (Nat.le_of_ble_eq_true rfl) (fun g0 w0 hw0 => ?_)
  refine AW.seqR ?_
  refine AL.s rfl (op_assignD (.e rfl)) ?_
  refine AL.nil ?_
  refine AW.seqR ?_
  refine AL.s rfl (op_moveD (.e rfl)) ?_
  refine AL.s rfl (op_geq (.r rfl) (.r rfl)) ?_
  refine AL.s rfl (op_moveD (.e rfl)) ?_
  refine AL.sT rfl rfl rfl rfl (fun g => op_moveD (.e rfl)) ?_
  refine AL.sT rfl rfl rfl rfl (fun g => op_leq (.we g rfl rfl) (.r rfl)) ?_
  refine AL.s rfl (op_and (.r rfl) (fun h => (.we h rfl rfl)) rfl) ?_
  refine AL.s rfl (op_assignD (.e rfl)) ?_
  refine AL.nil ?_
  refine AW.ret ?_
  refine EndQ.d (.tmp (.e rfl) .nil) rfl ?_
  rfl

/-- bookplate/bookplateref55.lent -/
theorem rlent_ok (n : Int) : Fn Try.prog 45 [.int .i64 n] (.bool (decide (4 ≤ n) && decide (n ≤ 7))) := by
  refine Fn.of_AW (fnn := Try.f45) Try.func45 rfl (Nat.le_of_ble_eq_true rfl) (fun g0 w0 hw0 => ?_)
  refine AW.seqR ?_
  refine AL.s rfl (op_assignD (.e rfl)) ?_
  refine AL.nil ?_
  refine AW.seqR ?_
  refine AL.s rfl (op_moveD (.e rfl)) ?_
  refine AL.s rfl (op_geq (.r rfl) (.r rfl)) ?_
  refine AL.s rfl (op_moveD (.e rfl)) ?_
  refine AL.sT rfl rfl rfl rfl (fun g => op_moveD (.e rfl)) ?_
  refine AL.sT rfl rfl rfl rfl (fun g => op_leq (.we g rfl rfl) (.r rfl)) ?_
  refine AL.s rfl (op_and (.r rfl) (fun h => (.we h rfl rfl)) rfl) ?_
  refine AL.s rfl (op_assignD (.e rfl)) ?_
  refine AL.nil ?_
  refine AW.ret ?_
  refine EndQ.d (.tmp (.e rfl) .nil) rfl ?_
  rfl

/-- bookplate/bookplateref55.Final -/
theorem rfinal_ok (n : Int) : Fn Try.prog 22 [.int .i64 n] (.bool (decide (7 ≤ n) && decide (n ≤ 9))) := by
  refine Fn.of_AW (fnn := Try.f22) Try.func22 rfl (Nat.le_of_ble_eq_true rfl) (fun g0 w0 hw0 => ?_)
  refine AW.seqR ?_
  refine AL.s rfl (op_assignD (.e rfl)) ?_
  refine AL.nil ?_
  refine AW.seqR ?_
  refine AL.s rfl (op_moveD (.e rfl)) ?_
  refine AL.s rfl (op_geq (.r rfl) (.r rfl)) ?_
  refine AL.s rfl (op_moveD (.e rfl)) ?_
  refine AL.sT rfl rfl rfl rfl (fun g => op_moveD (.e rfl)) ?_
  refine AL.sT rfl rfl rfl rfl (fun g => op_leq (.we g rfl rfl) (.r rfl)) ?_
  refine AL.s rfl (op_and (.r rfl) (fun h => (.we h rfl rfl)) rfl) ?_
  refine AL.s rfl (op_assignD (.e rfl)) ?_
  refine AL.nil ?_
  refine AW.ret ?_
  refine EndQ.d (.tmp (.e rfl) .nil) rfl ?_
  rfl

/-- bookplate/request.Name$1 -/
theorem letter_ok (n : Int) : Fn Try.prog 47 [.int .u8 n] (.bool (letterI n)) := by
  refine Fn.of_AW (fnn := Try.f47) Try.func47 rfl (Nat.le_of_ble_eq_true rfl) (fun g0 w0 hw0 => ?_)
  refine AW.seqR ?_
  refine AL.s rfl (op_assignD (.e rfl)) ?_
  refine AL.nil ?_
  refine AW.seqR ?_
  refine AL.s rfl (op_moveD (.e rfl)) ?_
  refine AL.s rfl (op_geq (.r rfl) (.r rfl)) ?_
  refine AL.s rfl (op_moveD (.e rfl)) ?_
  refine AL.sT rfl rfl rfl rfl (fun g => op_moveD (.e rfl)) ?_
  refine AL.sT rfl rfl rfl rfl (fun g => op_leq (.we g rfl rfl) (.r rfl)) ?_
  refine AL.s rfl (op_and (.r rfl) (fun h => (.we h rfl rfl)) rfl) ?_
  refine AL.s rfl (op_assignD (.e rfl)) ?_
  refine AL.nil ?_
  refine AW.ret ?_
  refine EndQ.d (.tmp (.e rfl) .nil) rfl ?_
  rfl

/-- bookplate/request.Name$2 -/
theorem odd_ok (n : Int) (H : List HE) (h0 : H[0]? = some (.row [.fn (.func 47) []])) : ACall Try.prog 48 [.d (.int .u8 n), .ptr 0 0] H (fun r H' => r = .d (.bool (oddI n)) ∧ H' = H) := by
  refine ACall.of_AW (fnn := Try.f48) Try.func48 rfl (Nat.le_of_ble_eq_true rfl) (fun g0 w0 hw0 => ?_)
  refine AW.seqR ?_
  refine AL.s rfl (op_assignD (.e rfl)) ?_
  refine AL.nil ?_
  refine AW.seqR ?_
  refine AL.s rfl (op_load_ptr1 (.e rfl) h0 rfl sc71) ?_
  refine AL.s rfl (op_moveD (.e rfl)) ?_
  refine AL.s rfl (op_fn Try.call47 (.e rfl) (.cons (.r rfl) .nil) (letter_ok _)) ?_
  refine AL.s rfl (op_not (.r rfl)) ?_
  refine AL.s rfl (op_moveD (.e rfl)) ?_
  refine AL.sT rfl rfl rfl rfl (fun g => op_moveD (.e rfl)) ?_
  refine AL.sT rfl rfl rfl rfl (fun g => op_lss (.we g rfl rfl) (.r rfl)) ?_
  refine AL.sT rfl rfl rfl rfl (fun g => op_moveD (.we g rfl)) ?_
  refine AL.sFF rfl rfl rfl rfl (fun gp g => op_moveD (.e rfl)) ?_
  refine AL.sFF rfl rfl rfl rfl (fun gp g => op_gtr (.we (an gp (nt g)) rfl rfl) (.r rfl)) ?_
  refine AL.sT rfl rfl rfl rfl (fun g => op_or (.we g rfl rfl) rfl (fun h => (.we (an g (nt h)) rfl rfl))) ?_
  refine AL.s rfl (op_and (.r rfl) (fun h => (.we h rfl rfl)) rfl) ?_
  refine AL.s rfl (op_moveD (.e rfl)) ?_
  refine AL.sT rfl rfl rfl rfl (fun g => op_moveD (.e rfl)) ?_
  refine AL.sT rfl rfl rfl rfl (fun g => op_neq (.we g rfl rfl) (.r rfl)) ?_
  refine AL.s rfl (op_and (.r rfl) (fun h => (.we h rfl rfl)) rfl) ?_
  refine AL.s rfl (op_assignD (.e rfl)) ?_
  refine AL.nil ?_
  refine AW.ret ?_
  refine ⟨_, _, (.tmp (.e rfl) .nil), .of rfl, ?_⟩
  exact ⟨rfl, rfl⟩

/-- slices.Index[[]string,string] -/
theorem indexS_ok (l : List (List UInt8)) (v : (List UInt8)) (hl : l.length ≤ 9223372036854775807) : Fn Try.prog 50 [.sl (l.map D.str), .str v] (.int .i64 (idxOf (fun x => decide (v = x)) l)) := by
  refine Fn.of_AW (fnn := Try.f50) Try.func50 rfl (Nat.le_of_ble_eq_true rfl) (fun g0 w0 hw0 => ?_)
  refine AW.seqR ?_
  refine AL.s rfl (op_assignD (.e rfl)) ?_
  refine AL.nil ?_
  refine AW.seq ?_
  refine AW.seqR ?_
  refine AL.s rfl (op_moveD (.e rfl)) ?_
  refine AL.s rfl (op_lenN (.r rfl) (by first | exact List.length_map _ | rfl) sl22) ?_
  refine AL.s rfl (op_moveD (.e rfl)) ?_
  refine AL.nil ?_
  refine AW.block ?_
  refine AW.loopE (α := Nat) (fun k => k ≤ l.length ∧ ∀ (j : Nat) (h : j < l.length), j < k → decide (v = l[j]) = false) [0, 1, 7] (fun k => [(8, .d (.int .i64 (k : Int)))]) (fun k => l.length - k) (0) (⟨by omega, by omega⟩) ⟨by first | exact .of rfl | exact .d rfl | exact .any | exact .int (by simp), trivial⟩ ?_
  intro k hI
  obtain ⟨hI, hJ⟩ := hI
  refine AW.seqR ?_
  refine AL.s rfl (op_lss (.r rfl) (.r rfl)) ?_
  refine AL.nil ?_
  refine AW.seq ?_
  refine AW.cond (b := _) rfl (fun hc1 => ?_) (fun hc1 => ?_)
  · try simp only [Bool.and_eq_true, Bool.or_eq_true, Bool.not_eq_true', Bool.not_eq_false', decide_eq_true_eq, decide_eq_false_iff_not, Bool.or_eq_false_iff, Bool.and_eq_false_imp] at hc1
    refine AW.skip ?_
    refine nq ?_
    refine AW.seq ?_
    refine AW.block ?_
    refine AW.seqR ?_
    refine AL.s rfl (op_moveD (.e rfl)) ?_
    refine AL.s rfl (op_assignD (.e rfl)) ?_
    refine AL.nil ?_
    refine AW.seqR ?_
    refine AL.s rfl (op_moveD (.e rfl)) ?_
    refine AL.s rfl (op_moveD (.e rfl)) ?_
    refine AL.s rfl (op_moveD (.e rfl)) ?_
    refine AL.s rfl (op_indexAddr (.r rfl) (.r rfl) rfl (by first | exact getMap (by omega) | exact List.getElem?_eq_getElem (by omega)) sl22 rfl) ?_
    refine AL.s rfl (op_load_vp1 (.e rfl) rfl sc9) ?_
    refine AL.s rfl (op_eqlS (.r rfl) (.r rfl)) ?_
    refine AL.nil ?_
    refine AW.cond (b := _) rfl (fun hc2 => ?_) (fun hc2 => ?_)
    · try simp only [Bool.and_eq_true, Bool.or_eq_true, Bool.not_eq_true', Bool.not_eq_false', decide_eq_true_eq, decide_eq_false_iff_not, Bool.or_eq_false_iff, Bool.and_eq_false_imp] at hc2
      refine AW.seqR ?_
      refine AL.s rfl (op_moveD (.e rfl)) ?_
      refine AL.s rfl (op_assignD (.e rfl)) ?_
      refine AL.nil ?_
      refine AW.ret ?_
      refine bq_ret ?_
      refine tq_ret ?_
      refine tq_ret ?_
      refine bq_ret ?_
      refine tq_ret ?_
      refine EndQ.d (.tmp (.e rfl) .nil) rfl ?_
      rw [idxOf_some (by omega) (by simpa using hc2) hJ]
    · try simp only [Bool.and_eq_true, Bool.or_eq_true, Bool.not_eq_true', Bool.not_eq_false', decide_eq_true_eq, decide_eq_false_iff_not, Bool.or_eq_false_iff, Bool.and_eq_false_imp] at hc2
      refine AW.skip ?_
      refine bq_n ?_
      refine nq ?_
      refine AW.region ?_
      refine AL.s rfl (op_add (.r rfl) (.r rfl) (w64 (by omega) (by omega))) ?_
      refine AL.s rfl (op_moveD (.e rfl)) ?_
      refine AL.nil ?_
      refine nq ⟨k + 1, ?_, ?_, ⟨by first | exact .of rfl | exact .int (by omega) | exact .d rfl | exact .any, trivial⟩, ⟨rfl, rfl, rfl, trivial⟩, rfl⟩
      · exact ⟨by omega, fun j h hj => by rcases Nat.lt_or_ge j k with h1 | h1; exact hJ j h h1; obtain rfl : j = k := (by omega); simpa using hc2⟩
      · omega
  · try simp only [Bool.and_eq_true, Bool.or_eq_true, Bool.not_eq_true', Bool.not_eq_false', decide_eq_true_eq, decide_eq_false_iff_not, Bool.or_eq_false_iff, Bool.and_eq_false_imp] at hc1
    refine AW.exit ?_
    refine tq_exit ?_
    refine tq_exit ?_
    refine bq_hit ?_
    refine nq ?_
    refine AW.seqR ?_
    refine AL.s rfl (op_assignD (.e rfl)) ?_
    refine AL.nil ?_
    refine AW.ret ?_
    refine EndQ.d (.tmp (.e rfl) .nil) rfl ?_
    rw [idxOf_none (fun j h => hJ j h (by omega))]; rfl

/-- slices.Index[[]int,int] -/
theorem indexI_ok (l : List Int) (v : Int) (hl : l.length ≤ 9223372036854775807) : Fn Try.prog 51 [.sl (l.map D.i), .int .i64 v] (.int .i64 (idxOf (fun x => decide (v = x)) l)) := by
  refine Fn.of_AW (fnn := Try.f51) Try.func51 rfl (Nat.le_of_ble_eq_true rfl) (fun g0 w0 hw0 => ?_)
  refine AW.seqR ?_
  refine AL.s rfl (op_assignD (.e rfl)) ?_
  refine AL.nil ?_
  refine AW.seq ?_
  refine AW.seqR ?_
  refine AL.s rfl (op_moveD (.e rfl)) ?_
  refine AL.s rfl (op_lenN (.r rfl) (by first | exact List.length_map _ | rfl) sl47) ?_
  refine AL.s rfl (op_moveD (.e rfl)) ?_
  refine AL.nil ?_
  refine AW.block ?_
  refine AW.loopE (α := Nat) (fun k => k ≤ l.length ∧ ∀ (j : Nat) (h : j < l.length), j < k → decide (v = l[j]) = false) [0, 1, 7] (fun k => [(8, .d (.int .i64 (k : Int)))]) (fun k => l.length - k) (0) (⟨by omega, by omega⟩) ⟨by first | exact .of rfl | exact .d rfl | exact .any | exact .int (by simp), trivial⟩ ?_
  intro k hI
  obtain ⟨hI, hJ⟩ := hI
  refine AW.seqR ?_
  refine AL.s rfl (op_lss (.r rfl) (.r rfl)) ?_
  refine AL.nil ?_
  refine AW.seq ?_
  refine AW.cond (b := _) rfl (fun hc1 => ?_) (fun hc1 => ?_)
  · try simp only [Bool.and_eq_true, Bool.or_eq_true, Bool.not_eq_true', Bool.not_eq_false', decide_eq_true_eq, decide_eq_false_iff_not, Bool.or_eq_false_iff, Bool.and_eq_false_imp] at hc1
    refine AW.skip ?_
    refine nq ?_
    refine AW.seq ?_
    refine AW.block ?_
    refine AW.seqR ?_
    refine AL.s rfl (op_moveD (.e rfl)) ?_
    refine AL.s rfl (op_assignD (.e rfl)) ?_
    refine AL.nil ?_
    refine AW.seqR ?_
    refine AL.s rfl (op_moveD (.e rfl)) ?_
    refine AL.s rfl (op_moveD (.e rfl)) ?_
    refine AL.s rfl (op_moveD (.e rfl)) ?_
    refine AL.s rfl (op_indexAddr (.r rfl) (.r rfl) rfl (by first | exact getMap (by omega) | exact List.getElem?_eq_getElem (by omega)) sl47 rfl) ?_
    refine AL.s rfl (op_load_vp1 (.e rfl) rfl sc3) ?_
    refine AL.s rfl (op_eql (.r rfl) (.r rfl)) ?_
    refine AL.nil ?_
    refine AW.cond (b := _) rfl (fun hc2 => ?_) (fun hc2 => ?_)
    · try simp only [Bool.and_eq_true, Bool.or_eq_true, Bool.not_eq_true', Bool.not_eq_false', decide_eq_true_eq, decide_eq_false_iff_not, Bool.or_eq_false_iff, Bool.and_eq_false_imp] at hc2
      refine AW.seqR ?_
      refine AL.s rfl (op_moveD (.e rfl)) ?_
      refine AL.s rfl (op_assignD (.e rfl)) ?_
      refine AL.nil ?_
      refine AW.ret ?_
      refine bq_ret ?_
      refine tq_ret ?_
      refine tq_ret ?_
      refine bq_ret ?_
      refine tq_ret ?_
      refine EndQ.d (.tmp (.e rfl) .nil) rfl ?_
      rw [idxOf_some (by omega) (by simpa using hc2) hJ]
    · try simp only [Bool.and_eq_true, Bool.or_eq_true, Bool.not_eq_true', Bool.not_eq_false', decide_eq_true_eq, decide_eq_false_iff_not, Bool.or_eq_false_iff, Bool.and_eq_false_imp] at hc2
      refine AW.skip ?_
      refine bq_n ?_
      refine nq ?_
      refine AW.region ?_
      refine AL.s rfl (op_add (.r rfl) (.r rfl) (w64 (by omega) (by omega))) ?_
      refine AL.s rfl (op_moveD (.e rfl)) ?_
      refine AL.nil ?_
      refine nq ⟨k + 1, ?_, ?_, ⟨by first | exact .of rfl | exact .int (by omega) | exact .d rfl | exact .any, trivial⟩, ⟨rfl, rfl, rfl, trivial⟩, rfl⟩
      · exact ⟨by omega, fun j h hj => by rcases Nat.lt_or_ge j k with h1 | h1; exact hJ j h h1; obtain rfl : j = k := (by omega); simpa using hc2⟩
      · omega
  · try simp only [Bool.and_eq_true, Bool.or_eq_true, Bool.not_eq_true', Bool.not_eq_false', decide_eq_true_eq, decide_eq_false_iff_not, Bool.or_eq_false_iff, Bool.and_eq_false_imp] at hc1
    refine AW.exit ?_
    refine tq_exit ?_
    refine tq_exit ?_
    refine bq_hit ?_
    refine nq ?_
    refine AW.seqR ?_
    refine AL.s rfl (op_assignD (.e rfl)) ?_
    refine AL.nil ?_
    refine AW.ret ?_
    refine EndQ.d (.tmp (.e rfl) .nil) rfl ?_
    rw [idxOf_none (fun j h => hJ j h (by omega))]; rfl

/-- slices.Contains[[]string,string] -/
theorem containsS_ok (l : List (List UInt8)) (v : (List UInt8)) (hl : l.length ≤ 9223372036854775807) : Fn Try.prog 38 [.sl (l.map D.str), .str v] (.bool (hasS l v)) := by
  refine Fn.of_AW (fnn := Try.f38) Try.func38 rfl (Nat.le_of_ble_eq_true rfl) (fun g0 w0 hw0 => ?_)
  refine AW.seqR ?_
  refine AL.s rfl (op_assignD (.e rfl)) ?_
  refine AL.nil ?_
  refine AW.seqR ?_
  refine AL.s rfl (op_moveD (.e rfl)) ?_
  refine AL.s rfl (op_moveD (.e rfl)) ?_
  refine AL.s rfl (op_fn Try.call50 (.e rfl) (.cons (.r rfl) (.cons (.r rfl) .nil)) (indexS_ok _ _ (by omega))) ?_
  refine AL.s rfl (op_geq (.r rfl) (.r rfl)) ?_
  refine AL.s rfl (op_assignD (.e rfl)) ?_
  refine AL.nil ?_
  refine AW.ret ?_
  refine EndQ.d (.tmp (.e rfl) .nil) rfl ?_
  unfold hasS; rw [← idxOf_any]

/-- slices.Contains[[]int,int] -/
theorem containsI_ok (l : List Int) (v : Int) (hl : l.length ≤ 9223372036854775807) : Fn Try.prog 40 [.sl (l.map D.i), .int .i64 v] (.bool (hasI l v)) := by
  refine Fn.of_AW (fnn := Try.f40) Try.func40 rfl (Nat.le_of_ble_eq_true rfl) (fun g0 w0 hw0 => ?_)
  refine AW.seqR ?_
  refine AL.s rfl (op_assignD (.e rfl)) ?_
  refine AL.nil ?_
  refine AW.seqR ?_
  refine AL.s rfl (op_moveD (.e rfl)) ?_
  refine AL.s rfl (op_moveD (.e rfl)) ?_
  refine AL.s rfl (op_fn Try.call51 (.e rfl) (.cons (.r rfl) (.cons (.r rfl) .nil)) (indexI_ok _ _ (by omega))) ?_
  refine AL.s rfl (op_geq (.r rfl) (.r rfl)) ?_
  refine AL.s rfl (op_assignD (.e rfl)) ?_
  refine AL.nil ?_
  refine AW.ret ?_
  refine EndQ.d (.tmp (.e rfl) .nil) rfl ?_
  unfold hasI; rw [← idxOf_any]

/-- slices.IndexFunc[[]byte,byte] -/
theorem indexFuncB_ok {ff : FuncId} {caps : List V} {p : UInt8 → Bool} {H : List HE} (hff : ∀ (a : Array Value) (w : World), (callFunc ff a).run Try.prog w = .ok (.enter ff a) w) (l : List UInt8) (hl : l.length ≤ 9223372036854775807) (hF : ∀ x ∈ l, ACall Try.prog ff (.d (.int .u8 x.toNat) :: caps) H fun r H' => r = .d (.bool (p x)) ∧ H' = H) : ACall Try.prog 53 [.d (.sl (l.map fun x => .int .u8 x.toNat)), .fn (.func ff) caps] H (fun r H' => r = .d (.int .i64 (idxOf p l)) ∧ H' = H) := by
  refine ACall.of_AW (fnn := Try.f53) Try.func53 rfl (Nat.le_of_ble_eq_true rfl) (fun g0 w0 hw0 => ?_)
  refine AW.seqR ?_
  refine AL.s rfl (op_assignD (.e rfl)) ?_
  refine AL.nil ?_
  refine AW.seq ?_
  refine AW.seqR ?_
  refine AL.s rfl (op_moveD (.e rfl)) ?_
  refine AL.s rfl (op_lenN (.r rfl) (by first | exact List.length_map _ | rfl) sl73) ?_
  refine AL.s rfl (op_moveD (.e rfl)) ?_
  refine AL.nil ?_
  refine AW.block ?_
  refine AW.loopE (α := Nat) (fun k => k ≤ l.length ∧ ∀ (j : Nat) (h : j < l.length), j < k → p l[j] = false) [0, 1, 7] (fun k => [(8, .d (.int .i64 (k : Int)))]) (fun k => l.length - k) (0) (⟨by omega, by omega⟩) ⟨by first | exact .of rfl | exact .d rfl | exact .any | exact .int (by simp), trivial⟩ ?_
  intro k hI
  obtain ⟨hI, hJ⟩ := hI
  refine AW.seqR ?_
  refine AL.s rfl (op_lss (.r rfl) (.r rfl)) ?_
  refine AL.nil ?_
  refine AW.seq ?_
  refine AW.cond (b := _) rfl (fun hc1 => ?_) (fun hc1 => ?_)
  · try simp only [Bool.and_eq_true, Bool.or_eq_true, Bool.not_eq_true', Bool.not_eq_false', decide_eq_true_eq, decide_eq_false_iff_not, Bool.or_eq_false_iff, Bool.and_eq_false_imp] at hc1
    refine AW.skip ?_
    refine nq ?_
    refine AW.seq ?_
    refine AW.block ?_
    refine AW.seqR ?_
    refine AL.s rfl (op_moveD (.e rfl)) ?_
    refine AL.s rfl (op_assignD (.e rfl)) ?_
    refine AL.nil ?_
    refine AW.seqR ?_
    refine AL.s rfl (op_moveF (.e rfl)) ?_
    refine AL.s rfl (op_moveD (.e rfl)) ?_
    refine AL.s rfl (op_moveD (.e rfl)) ?_
    refine AL.s rfl (op_indexAddr (.r rfl) (.r rfl) rfl (by first | exact getMap (by omega) | exact List.getElem?_eq_getElem (by omega)) sl73 rfl) ?_
    refine AL.s rfl (op_load_vp1 (.e rfl) rfl sc5) ?_
    refine AL.s rfl (op_call hff (.e rfl) (.cons (.e rfl) .nil) (hF _ (List.getElem_mem (by omega)))) ?_
    refine AL.nil ?_
    refine AW.cond (b := _) rfl (fun hc2 => ?_) (fun hc2 => ?_)
    · try simp only [Bool.and_eq_true, Bool.or_eq_true, Bool.not_eq_true', Bool.not_eq_false', decide_eq_true_eq, decide_eq_false_iff_not, Bool.or_eq_false_iff, Bool.and_eq_false_imp] at hc2
      refine AW.seqR ?_
      refine AL.s rfl (op_moveD (.e rfl)) ?_
      refine AL.s rfl (op_assignD (.e rfl)) ?_
      refine AL.nil ?_
      refine AW.ret ?_
      refine bq_ret ?_
      refine tq_ret ?_
      refine tq_ret ?_
      refine bq_ret ?_
      refine tq_ret ?_
      refine ⟨_, _, (.tmp (.e rfl) .nil), .of rfl, ?_⟩
      rw [idxOf_some (by omega) hc2 hJ]; exact ⟨rfl, rfl⟩
    · try simp only [Bool.and_eq_true, Bool.or_eq_true, Bool.not_eq_true', Bool.not_eq_false', decide_eq_true_eq, decide_eq_false_iff_not, Bool.or_eq_false_iff, Bool.and_eq_false_imp] at hc2
      refine AW.skip ?_
      refine bq_n ?_
      refine nq ?_
      refine AW.region ?_
      refine AL.s rfl (op_add (.r rfl) (.r rfl) (w64 (by omega) (by omega))) ?_
      refine AL.s rfl (op_moveD (.e rfl)) ?_
      refine AL.nil ?_
      refine nq ⟨k + 1, ?_, ?_, ⟨by first | exact .of rfl | exact .int (by omega) | exact .d rfl | exact .any, trivial⟩, ⟨rfl, rfl, rfl, trivial⟩, rfl⟩
      · exact ⟨by omega, fun j h hj => by rcases Nat.lt_or_ge j k with h1 | h1; exact hJ j h h1; obtain rfl : j = k := (by omega); exact hc2⟩
      · omega
  · try simp only [Bool.and_eq_true, Bool.or_eq_true, Bool.not_eq_true', Bool.not_eq_false', decide_eq_true_eq, decide_eq_false_iff_not, Bool.or_eq_false_iff, Bool.and_eq_false_imp] at hc1
    refine AW.exit ?_
    refine tq_exit ?_
    refine tq_exit ?_
    refine bq_hit ?_
    refine nq ?_
    refine AW.seqR ?_
    refine AL.s rfl (op_assignD (.e rfl)) ?_
    refine AL.nil ?_
    refine AW.ret ?_
    refine ⟨_, _, (.tmp (.e rfl) .nil), .of rfl, ?_⟩
    rw [idxOf_none (fun j h => hJ j h (by omega))]; exact ⟨rfl, rfl⟩

/-- slices.ContainsFunc[[]byte,byte] -/
theorem containsFuncB_ok {ff : FuncId} {caps : List V} {p : UInt8 → Bool} {H : List HE} (hff : ∀ (a : Array Value) (w : World), (callFunc ff a).run Try.prog w = .ok (.enter ff a) w) (l : List UInt8) (hl : l.length ≤ 9223372036854775807) (hF : ∀ x ∈ l, ACall Try.prog ff (.d (.int .u8 x.toNat) :: caps) H fun r H' => r = .d (.bool (p x)) ∧ H' = H) : ACall Try.prog 49 [.d (.sl (l.map fun x => .int .u8 x.toNat)), .fn (.func ff) caps] H (fun r H' => r = .d (.bool (l.any p)) ∧ H' = H) := by
  refine ACall.of_AW (fnn := Try.f49) Try.func49 rfl (Nat.le_of_ble_eq_true rfl) (fun g0 w0 hw0 => ?_)
  refine AW.seqR ?_
  refine AL.s rfl (op_assignD (.e rfl)) ?_
  refine AL.nil ?_
  refine AW.seqR ?_
  refine AL.s rfl (op_moveD (.e rfl)) ?_
  refine AL.s rfl (op_moveF (.e rfl)) ?_
  refine AL.s rfl (op_call Try.call53 (.e rfl) (.cons (.e rfl) (.cons (.e rfl) .nil)) (indexFuncB_ok hff l hl hF)) ?_
  refine AL.s rfl (op_geq (.r rfl) (.r rfl)) ?_
  refine AL.s rfl (op_assignD (.e rfl)) ?_
  refine AL.nil ?_
  refine AW.ret ?_
  refine ⟨_, _, (.tmp (.e rfl) .nil), .of rfl, ?_⟩
  rw [← idxOf_any]; exact ⟨rfl, rfl⟩

/-- bookplate/request.Name -/
theorem name_ok (s : List UInt8) (hs : s.length ≤ 9223372036854775807) : Fn Try.prog 36 [.str s] (.bool (nameB s)) := by
  refine Fn.of_AW (fnn := Try.f36) Try.func36 rfl (Nat.le_of_ble_eq_true rfl) (fun g0 w0 hw0 => ?_)
  refine AW.seqR ?_
  refine AL.s rfl (op_assignD (.e rfl)) ?_
  refine AL.nil ?_
  refine AW.seqR ?_
  refine AL.s rfl (op_alloc (n := 0) zr71 rfl) ?_
  refine AL.s rfl (op_store (.e rfl) (.e rfl) rfl rfl rfl ⟨_, rfl, rfl⟩ rfl (Nat.le_of_ble_eq_true rfl)) ?_
  refine AL.nil ?_
  refine AW.seqR ?_
  refine AL.s rfl (op_makeFunc (.cons (.e rfl) .nil)) ?_
  refine AL.s rfl (op_assignF (.e rfl)) ?_
  refine AL.nil ?_
  refine AW.seqD [([], []), ([], []), ([], []), ([], []), ([], []), ([], []), ([], []), ([], []), ([0], []), ([], []), ([], []), ([], []), ([], []), ([], []), ([], []), ([], []), ([], []), ([0], []), ([], []), ([], []), ([], [])] mo (by decide +kernel) ?_
  refine AD.s (ws := []) rfl rfl (fun H' _ hH => op_moveD (.e rfl)) ?_
  refine AD.s (ws := []) rfl rfl (fun H' _ hH => op_neqS (.r rfl) (.r rfl)) ?_
  refine AD.s (ws := []) rfl rfl (fun H' _ hH => op_moveD (.e rfl)) ?_
  refine AD.sT rfl rfl rfl rfl (fun g H' _ hH => op_moveD (.e rfl)) ?_
  refine AD.sT rfl rfl rfl rfl (fun g H' _ hH => op_lenS (.we g rfl rfl) Try.underlying9) ?_
  refine AD.sT rfl rfl rfl rfl (fun g H' _ hH => op_leq (.we g rfl rfl) (.r rfl)) ?_
  refine AD.s (ws := []) rfl rfl (fun H' _ hH => op_and (.r rfl) (fun h => (.we h rfl rfl)) rfl) ?_
  refine AD.s (ws := []) rfl rfl (fun H' _ hH => op_moveD (.e rfl)) ?_
  refine AD.sT rfl rfl rfl rfl (fun g H' _ hH => op_load_ptr1 (.e rfl) ((hH _ (by first | exact List.Mem.head _ | simp)).trans rfl) rfl sc71) ?_
  refine AD.sT rfl rfl rfl rfl (fun g H' _ hH => op_moveD (.e rfl)) ?_
  refine AD.sT rfl rfl rfl rfl (fun g H' _ hH => op_indexS (.we g rfl rfl) (.r rfl) rfl (getD_some (d := 0) (nameB_pos g)) Try.underlying9) ?_
  refine AD.sT rfl rfl rfl rfl (fun g H' _ hH => op_fn Try.call47 (.we g rfl) (.cons (.we g rfl rfl) .nil) (letter_ok _)) ?_
  refine AD.s (ws := []) rfl rfl (fun H' _ hH => op_and (.r rfl) (fun h => (.we h rfl rfl)) rfl) ?_
  refine AD.s (ws := []) rfl rfl (fun H' _ hH => op_moveD (.e rfl)) ?_
  refine AD.sT rfl rfl rfl rfl (fun g H' _ hH => op_moveD (.e rfl)) ?_
  refine AD.sT rfl rfl rfl rfl (fun g H' _ hH => op_bytes (.we g rfl rfl) Try.underlying9 Try.underlying73 Try.underlying5) ?_
  refine AD.sT rfl rfl rfl rfl (fun g H' _ hH => op_moveF (.e rfl)) ?_
  refine AD.sT rfl rfl rfl rfl (fun g H' _ hH => op_call Try.call49 (.e rfl) (.cons (.we g rfl) (.cons (.we g rfl) .nil)) (containsFuncB_ok (p := fun x => oddI x.toNat) Try.call48 s hs (fun x _ => odd_ok _ _ ((hH _ (by first | exact List.Mem.head _ | simp)).trans rfl)))) ?_
  refine AD.sT rfl rfl rfl rfl (fun g H' _ hH => op_not (.we g rfl rfl)) ?_
  refine AD.s (ws := []) rfl rfl (fun H' _ hH => op_and (.r rfl) (fun h => (.we h rfl rfl)) rfl) ?_
  refine AD.s (ws := []) rfl rfl (fun H' _ hH => op_assignD (.e rfl)) ?_
  refine AD.nil ?_
  refine AW.ret ?_
  refine EndQ.d (.tmp (.e rfl) .nil) rfl ?_
  rw [nameB_eq]

end Go.Proofs.Ytciojlggdnmncaa.Ab
