/- Sameness, smallness, and the laws' own helpers. Conditions: none. -/
import Derived.Test.YtciojlggdnmncaaSu
import Derived.Test.YtciojlggdnmncaaLw
set_option maxRecDepth 100000
namespace Go.Proofs.Ytciojlggdnmncaa.Ab
open Go 


theorem steps_sz (l : List Stp) (s : Stp) : ∀ x ∈ l.map Stp.e ++ [s.e], x.cells.length = 4 := by
  intro x hx
  simp only [List.mem_append, List.mem_map, List.mem_singleton] at hx
  rcases hx with ⟨a, _, rfl⟩ | rfl <;> rfl
theorem steps_one (l : List Stp) (s : Stp) : ∀ x ∈ l.map Stp.e ++ [s.e], ∀ y ∈ x.cells, y.one = true := by
  intro x hx
  simp only [List.mem_append, List.mem_map, List.mem_singleton] at hx
  rcases hx with ⟨a, _, rfl⟩ | rfl <;> simp [Stp.e, D.cells, D.one]
theorem steps_snoc {l : List Stp} {k : Nat} (hk : k < l.length) : (l.take k).map Stp.e ++ [(l.getD k zeroStp).e] = (l.take (k + 1)).map Stp.e := by
  have : l.getD k zeroStp = l[k] := by simp [List.getD, hk]
  rw [this, ← List.take_append_getElem hk, List.map_append]; rfl


/-- bookplate/bookplateref55.Same -/
theorem rsame_ok (a b : Req) (ha : a.tried.length ≤ 9223372036854775807) : Fn Try.prog 33 [a.e, b.e] (.bool (sameB a b)) := by
  refine Fn.of_AW (fnn := Try.f33) Try.func33 rfl (Nat.le_of_ble_eq_true rfl) (fun g0 w0 hw0 => ?_)
  refine AW.seqR ?_
  refine AL.s rfl (op_box (n := 0) (.e rfl) rfl rfl rfl) ?_
  refine AL.s rfl (op_box (n := 1) (.e rfl) rfl rfl rfl) ?_
  refine AL.s rfl (op_assignD (.e rfl)) ?_
  refine AL.nil ?_
  refine AW.seq ?_
  refine AW.seqR ?_
  refine AL.s rfl (op_field_ptr (.e rfl) fd24_0) ?_
  refine AL.s rfl (op_load_ptr1 (.e rfl) rfl rfl sc3) ?_
  refine AL.s rfl (op_field_ptr (.e rfl) fd24_0) ?_
  refine AL.s rfl (op_load_ptr1 (.e rfl) rfl rfl sc3) ?_
  refine AL.s rfl (op_neq (.r rfl) (.r rfl)) ?_
  refine AL.s rfl (op_moveD (.e rfl)) ?_
  refine AL.sF rfl rfl rfl rfl (fun g => op_field_ptr (.e rfl) fd24_1) ?_
  refine AL.sF rfl rfl rfl rfl (fun g => op_load_ptr1 (.we (nt g) rfl) rfl rfl sc3) ?_
  refine AL.sF rfl rfl rfl rfl (fun g => op_field_ptr (.e rfl) fd24_1) ?_
  refine AL.sF rfl rfl rfl rfl (fun g => op_load_ptr1 (.we (nt g) rfl) rfl rfl sc3) ?_
  refine AL.sF rfl rfl rfl rfl (fun g => op_neq (.we (nt g) rfl rfl) (.we (nt g) rfl rfl)) ?_
  refine AL.s rfl (op_or (.r rfl) rfl (fun h => (.we (nt h) rfl rfl))) ?_
  refine AL.s rfl (op_moveD (.e rfl)) ?_
  refine AL.sF rfl rfl rfl rfl (fun g => op_field_ptr (.e rfl) fd24_2) ?_
  refine AL.sF rfl rfl rfl rfl (fun g => op_load_ptr1 (.we (nt g) rfl) rfl rfl sc9) ?_
  refine AL.sF rfl rfl rfl rfl (fun g => op_field_ptr (.e rfl) fd24_2) ?_
  refine AL.sF rfl rfl rfl rfl (fun g => op_load_ptr1 (.we (nt g) rfl) rfl rfl sc9) ?_
  refine AL.sF rfl rfl rfl rfl (fun g => op_neqS (.we (nt g) rfl rfl) (.we (nt g) rfl rfl)) ?_
  refine AL.s rfl (op_or (.r rfl) rfl (fun h => (.we (nt h) rfl rfl))) ?_
  refine AL.s rfl (op_moveD (.e rfl)) ?_
  refine AL.sF rfl rfl rfl rfl (fun g => op_field_ptr (.e rfl) fd24_3) ?_
  refine AL.sF rfl rfl rfl rfl (fun g => op_load_ptr1 (.we (nt g) rfl) rfl rfl sc3) ?_
  refine AL.sF rfl rfl rfl rfl (fun g => op_field_ptr (.e rfl) fd24_3) ?_
  refine AL.sF rfl rfl rfl rfl (fun g => op_load_ptr1 (.we (nt g) rfl) rfl rfl sc3) ?_
  refine AL.sF rfl rfl rfl rfl (fun g => op_neq (.we (nt g) rfl rfl) (.we (nt g) rfl rfl)) ?_
  refine AL.s rfl (op_or (.r rfl) rfl (fun h => (.we (nt h) rfl rfl))) ?_
  refine AL.s rfl (op_moveD (.e rfl)) ?_
  refine AL.sF rfl rfl rfl rfl (fun g => op_field_ptr (.e rfl) fd24_4) ?_
  refine AL.sF rfl rfl rfl rfl (fun g => op_load_ptr1 (.we (nt g) rfl) rfl rfl sc3) ?_
  refine AL.sF rfl rfl rfl rfl (fun g => op_field_ptr (.e rfl) fd24_4) ?_
  refine AL.sF rfl rfl rfl rfl (fun g => op_load_ptr1 (.we (nt g) rfl) rfl rfl sc3) ?_
  refine AL.sF rfl rfl rfl rfl (fun g => op_neq (.we (nt g) rfl rfl) (.we (nt g) rfl rfl)) ?_
  refine AL.s rfl (op_or (.r rfl) rfl (fun h => (.we (nt h) rfl rfl))) ?_
  refine AL.s rfl (op_moveD (.e rfl)) ?_
  refine AL.sF rfl rfl rfl rfl (fun g => op_field_ptr (.e rfl) fd24_5) ?_
  refine AL.sF rfl rfl rfl rfl (fun g => op_load_ptr1 (.we (nt g) rfl) rfl rfl sc9) ?_
  refine AL.sF rfl rfl rfl rfl (fun g => op_field_ptr (.e rfl) fd24_5) ?_
  refine AL.sF rfl rfl rfl rfl (fun g => op_load_ptr1 (.we (nt g) rfl) rfl rfl sc9) ?_
  refine AL.sF rfl rfl rfl rfl (fun g => op_neqS (.we (nt g) rfl rfl) (.we (nt g) rfl rfl)) ?_
  refine AL.s rfl (op_or (.r rfl) rfl (fun h => (.we (nt h) rfl rfl))) ?_
  refine AL.s rfl (op_moveD (.e rfl)) ?_
  refine AL.sF rfl rfl rfl rfl (fun g => op_field_ptr (.e rfl) fd24_7) ?_
  refine AL.sF rfl rfl rfl rfl (fun g => op_load_ptr1 (.we (nt g) rfl) rfl rfl sc3) ?_
  refine AL.sF rfl rfl rfl rfl (fun g => op_field_ptr (.e rfl) fd24_7) ?_
  refine AL.sF rfl rfl rfl rfl (fun g => op_load_ptr1 (.we (nt g) rfl) rfl rfl sc3) ?_
  refine AL.sF rfl rfl rfl rfl (fun g => op_neq (.we (nt g) rfl rfl) (.we (nt g) rfl rfl)) ?_
  refine AL.s rfl (op_or (.r rfl) rfl (fun h => (.we (nt h) rfl rfl))) ?_
  refine AL.s rfl (op_moveD (.e rfl)) ?_
  refine AL.sF rfl rfl rfl rfl (fun g => op_field_ptr (.e rfl) fd24_8) ?_
  refine AL.sF rfl rfl rfl rfl (fun g => op_load_ptr1 (.we (nt g) rfl) rfl rfl sc3) ?_
  refine AL.sF rfl rfl rfl rfl (fun g => op_field_ptr (.e rfl) fd24_8) ?_
  refine AL.sF rfl rfl rfl rfl (fun g => op_load_ptr1 (.we (nt g) rfl) rfl rfl sc3) ?_
  refine AL.sF rfl rfl rfl rfl (fun g => op_neq (.we (nt g) rfl rfl) (.we (nt g) rfl rfl)) ?_
  refine AL.s rfl (op_or (.r rfl) rfl (fun h => (.we (nt h) rfl rfl))) ?_
  refine AL.s rfl (op_moveD (.e rfl)) ?_
  refine AL.sF rfl rfl rfl rfl (fun g => op_field_ptr (.e rfl) fd24_6) ?_
  refine AL.sF rfl rfl rfl rfl (fun g => op_load_ptr1 (.we (nt g) rfl) rfl rfl sc22) ?_
  refine AL.sF rfl rfl rfl rfl (fun g => op_lenN (.we (nt g) rfl rfl) (by first | exact List.length_map _ | rfl) sl22) ?_
  refine AL.sF rfl rfl rfl rfl (fun g => op_field_ptr (.e rfl) fd24_6) ?_
  refine AL.sF rfl rfl rfl rfl (fun g => op_load_ptr1 (.we (nt g) rfl) rfl rfl sc22) ?_
  refine AL.sF rfl rfl rfl rfl (fun g => op_lenN (.we (nt g) rfl rfl) (by first | exact List.length_map _ | rfl) sl22) ?_
  refine AL.sF rfl rfl rfl rfl (fun g => op_neq (.we (nt g) rfl rfl) (.we (nt g) rfl rfl)) ?_
  refine AL.s rfl (op_or (.r rfl) rfl (fun h => (.we (nt h) rfl rfl))) ?_
  refine AL.nil ?_
  refine AW.cond (b := _) rfl (fun hc1 => ?_) (fun hc1 => ?_)
  · skip
    refine AW.seqR ?_
    refine AL.s rfl (op_assignD (.e rfl)) ?_
    refine AL.nil ?_
    refine AW.ret ?_
    refine tq_ret ?_
    refine EndQ.d (.tmp (.e rfl) .nil) rfl ?_
    simp only [sameB, hc1, if_true] <;> rfl
  · skip
    refine AW.skip ?_
    refine nq ?_
    refine AW.seq ?_
    refine AW.seqR ?_
    refine AL.s rfl (op_assignD (.e rfl)) ?_
    refine AL.nil ?_
    refine AW.block ?_
    refine AW.loopE (α := Nat) (fun k => k ≤ a.tried.length ∧ ∀ j, j < k → (!decide (a.tried.getD j [] = b.tried.getD j [])) = false) [2, 3] (fun k => [(5, .d (.int .i64 (k : Int)))]) (fun k => a.tried.length - k) (0) (⟨by omega, by omega⟩) ⟨by first | exact .of rfl | exact .d rfl | exact .any | exact .int (by simp), trivial⟩ ?_
    intro k hI
    obtain ⟨hI, hJ⟩ := hI
    refine AW.seq ?_
    refine AW.seqR ?_
    refine AL.s rfl (op_moveD (.e rfl)) ?_
    refine AL.s rfl (op_field_ptr (.e rfl) fd24_6) ?_
    refine AL.s rfl (op_load_ptr1 (.e rfl) rfl rfl sc22) ?_
    refine AL.s rfl (op_lenN (.r rfl) (by first | exact List.length_map _ | rfl) sl22) ?_
    refine AL.s rfl (op_lss (.r rfl) (.r rfl)) ?_
    refine AL.nil ?_
    refine AW.cond (b := _) rfl (fun hc2 => ?_) (fun hc2 => ?_)
    · skip
      refine AW.skip ?_
      refine nq ?_
      refine AW.seq ?_
      refine AW.block ?_
      refine AW.seqD [([], []), ([0], []), ([], []), ([], []), ([], []), ([], []), ([1], []), ([], []), ([], []), ([], []), ([], [])] mo (by decide +kernel) ?_
      refine AD.s (ws := []) rfl rfl (fun H' _ hH => op_field_ptr (.e rfl) fd24_6) ?_
      refine AD.s (ws := []) rfl rfl (fun H' _ hH => op_load_ptr1 (.e rfl) ((hH _ (by first | exact List.Mem.head _ | simp)).trans rfl) rfl sc22) ?_
      refine AD.s (ws := []) rfl rfl (fun H' _ hH => op_moveD (.e rfl)) ?_
      refine AD.s (ws := []) rfl rfl (fun H' _ hH => op_indexAddr (.r rfl) (.r rfl) rfl (getMapD (d := []) (by simp at hc2; omega)) sl22 rfl) ?_
      refine AD.s (ws := []) rfl rfl (fun H' _ hH => op_load_vp1 (.e rfl) rfl sc9) ?_
      refine AD.s (ws := []) rfl rfl (fun H' _ hH => op_field_ptr (.e rfl) fd24_6) ?_
      refine AD.s (ws := []) rfl rfl (fun H' _ hH => op_load_ptr1 (.e rfl) ((hH _ (by first | exact List.Mem.head _ | simp)).trans rfl) rfl sc22) ?_
      refine AD.s (ws := []) rfl rfl (fun H' _ hH => op_moveD (.e rfl)) ?_
      refine AD.s (ws := []) rfl rfl (fun H' _ hH => op_indexAddr (.r rfl) (.r rfl) rfl (getMapD (d := []) (by simp at hc1 hc2; omega)) sl22 rfl) ?_
      refine AD.s (ws := []) rfl rfl (fun H' _ hH => op_load_vp1 (.e rfl) rfl sc9) ?_
      refine AD.s (ws := []) rfl rfl (fun H' _ hH => op_neqS (.r rfl) (.r rfl)) ?_
      refine AD.nil ?_
      refine AW.cond (b := _) rfl (fun hc3 => ?_) (fun hc3 => ?_)
      · skip
        refine AW.seqR ?_
        refine AL.s rfl (op_assignD (.e rfl)) ?_
        refine AL.nil ?_
        refine AW.ret ?_
        refine bq_ret ?_
        refine tq_ret ?_
        refine tq_ret ?_
        refine bq_ret ?_
        refine tq_ret ?_
        refine EndQ.d (.tmp (.e rfl) .nil) rfl ?_
        simp only [sameB, hc1, any_yes (p := fun k => !decide (a.tried.getD k [] = b.tried.getD k [])) (show k < a.tried.length by simp at hc2; omega) hc3, Bool.false_eq_true, ↓reduceIte] <;> rfl
      · skip
        refine AW.skip ?_
        refine bq_n ?_
        refine nq ?_
        refine AW.region ?_
        refine AL.s rfl (op_moveD (.e rfl)) ?_
        refine AL.s rfl (op_add (.r rfl) (.r rfl) (w64 (by omega) (by simp at hc2; omega))) ?_
        refine AL.s rfl (op_assignD (.e rfl)) ?_
        refine AL.nil ?_
        refine nq ⟨k + 1, ?_, ?_, ⟨by first | exact .of rfl | exact .int (by omega) | exact .d rfl | exact .any, trivial⟩, ⟨rfl, rfl, trivial⟩, rfl⟩
        · simp at hc2; exact ⟨by omega, fun j hj => by rcases Nat.lt_or_ge j k with h1 | h1; exact hJ j h1; obtain rfl : j = k := (by omega); exact hc3⟩
        · simp at hc2; omega
    · skip
      refine AW.exit ?_
      refine tq_exit ?_
      refine tq_exit ?_
      refine bq_hit ?_
      refine nq ?_
      refine AW.seqR ?_
      refine AL.s rfl (op_assignD (.e rfl)) ?_
      refine AL.nil ?_
      refine AW.ret ?_
      refine EndQ.d (.tmp (.e rfl) .nil) rfl ?_
      simp only [sameB, hc1, any_no (n := a.tried.length) (p := fun k => !decide (a.tried.getD k [] = b.tried.getD k [])) (fun j hj => hJ j (by simp at hc2; omega)), Bool.false_eq_true, ↓reduceIte] <;> rfl

/-- bookplate/bookplateref55.Few -/
theorem few_ok (r : Req) (hr : r.tried.length ≤ 9223372036854775807) : Fn Try.prog 9 [r.e] (.bool (fewB r)) := by
  refine Fn.of_AW (fnn := Try.f9) Try.func9 rfl (Nat.le_of_ble_eq_true rfl) (fun g0 w0 hw0 => ?_)
  refine AW.seqR ?_
  refine AL.s rfl (op_box (n := 0) (.e rfl) rfl rfl rfl) ?_
  refine AL.s rfl (op_assignD (.e rfl)) ?_
  refine AL.nil ?_
  refine AW.seq ?_
  refine AW.seqR ?_
  refine AL.s rfl (op_assignD (.e rfl)) ?_
  refine AL.nil ?_
  refine AW.block ?_
  refine AW.loopE (α := Nat) (fun k => k ≤ r.tried.length ∧ ∀ j, j < k → decide (50 < ((r.tried.getD j []).length : Int)) = false) [1] (fun k => [(3, .d (.int .i64 (k : Int)))]) (fun k => r.tried.length - k) (0) (⟨by omega, by omega⟩) ⟨by first | exact .of rfl | exact .d rfl | exact .any | exact .int (by simp), trivial⟩ ?_
  intro k hI
  obtain ⟨hI, hJ⟩ := hI
  refine AW.seq ?_
  refine AW.seqR ?_
  refine AL.s rfl (op_moveD (.e rfl)) ?_
  refine AL.s rfl (op_field_ptr (.e rfl) fd24_6) ?_
  refine AL.s rfl (op_load_ptr1 (.e rfl) rfl rfl sc22) ?_
  refine AL.s rfl (op_lenN (.r rfl) (by first | exact List.length_map _ | rfl) sl22) ?_
  refine AL.s rfl (op_lss (.r rfl) (.r rfl)) ?_
  refine AL.nil ?_
  refine AW.cond (b := _) rfl (fun hc1 => ?_) (fun hc1 => ?_)
  · skip
    refine AW.skip ?_
    refine nq ?_
    refine AW.seq ?_
    refine AW.block ?_
    refine AW.seqR ?_
    refine AL.s rfl (op_field_ptr (.e rfl) fd24_6) ?_
    refine AL.s rfl (op_load_ptr1 (.e rfl) rfl rfl sc22) ?_
    refine AL.s rfl (op_moveD (.e rfl)) ?_
    refine AL.s rfl (op_indexAddr (.r rfl) (.r rfl) rfl (getMapD (d := []) (by simp at hc1; omega)) sl22 rfl) ?_
    refine AL.s rfl (op_load_vp1 (.e rfl) rfl sc9) ?_
    refine AL.s rfl (op_lenS (.r rfl) Try.underlying9) ?_
    refine AL.s rfl (op_gtr (.r rfl) (.r rfl)) ?_
    refine AL.nil ?_
    refine AW.cond (b := _) rfl (fun hc2 => ?_) (fun hc2 => ?_)
    · skip
      refine AW.seqR ?_
      refine AL.s rfl (op_assignD (.e rfl)) ?_
      refine AL.nil ?_
      refine AW.ret ?_
      refine bq_ret ?_
      refine tq_ret ?_
      refine tq_ret ?_
      refine bq_ret ?_
      refine tq_ret ?_
      refine EndQ.d (.tmp (.e rfl) .nil) rfl ?_
      simp only [fewB, any_yes (p := fun k => decide (50 < ((r.tried.getD k []).length : Int))) (show k < r.tried.length by simp at hc1; omega) hc2, if_true] <;> rfl
    · skip
      refine AW.skip ?_
      refine bq_n ?_
      refine nq ?_
      refine AW.region ?_
      refine AL.s rfl (op_moveD (.e rfl)) ?_
      refine AL.s rfl (op_add (.r rfl) (.r rfl) (w64 (by omega) (by simp at hc1; omega))) ?_
      refine AL.s rfl (op_assignD (.e rfl)) ?_
      refine AL.nil ?_
      refine nq ⟨k + 1, ?_, ?_, ⟨by first | exact .of rfl | exact .int (by omega) | exact .d rfl | exact .any, trivial⟩, ⟨rfl, trivial⟩, rfl⟩
      · simp at hc1; exact ⟨by omega, fun j hj => by rcases Nat.lt_or_ge j k with h1 | h1; exact hJ j h1; obtain rfl : j = k := (by omega); exact hc2⟩
      · simp at hc1; omega
  · skip
    refine AW.exit ?_
    refine tq_exit ?_
    refine tq_exit ?_
    refine bq_hit ?_
    refine nq ?_
    refine AW.seqR ?_
    refine AL.s rfl (op_field_ptr (.e rfl) fd24_6) ?_
    refine AL.s rfl (op_load_ptr1 (.e rfl) rfl rfl sc22) ?_
    refine AL.s rfl (op_lenN (.r rfl) (by first | exact List.length_map _ | rfl) sl22) ?_
    refine AL.s rfl (op_leq (.r rfl) (.r rfl)) ?_
    refine AL.s rfl (op_moveD (.e rfl)) ?_
    refine AL.sT rfl rfl rfl rfl (fun g => op_field_ptr (.e rfl) fd24_2) ?_
    refine AL.sT rfl rfl rfl rfl (fun g => op_load_ptr1 (.we g rfl) rfl rfl sc9) ?_
    refine AL.sT rfl rfl rfl rfl (fun g => op_lenS (.we g rfl rfl) Try.underlying9) ?_
    refine AL.sT rfl rfl rfl rfl (fun g => op_leq (.we g rfl rfl) (.r rfl)) ?_
    refine AL.s rfl (op_and (.r rfl) (fun h => (.we h rfl rfl)) rfl) ?_
    refine AL.s rfl (op_moveD (.e rfl)) ?_
    refine AL.sT rfl rfl rfl rfl (fun g => op_field_ptr (.e rfl) fd24_5) ?_
    refine AL.sT rfl rfl rfl rfl (fun g => op_load_ptr1 (.we g rfl) rfl rfl sc9) ?_
    refine AL.sT rfl rfl rfl rfl (fun g => op_lenS (.we g rfl rfl) Try.underlying9) ?_
    refine AL.sT rfl rfl rfl rfl (fun g => op_leq (.we g rfl rfl) (.r rfl)) ?_
    refine AL.s rfl (op_and (.r rfl) (fun h => (.we h rfl rfl)) rfl) ?_
    refine AL.s rfl (op_assignD (.e rfl)) ?_
    refine AL.nil ?_
    refine AW.ret ?_
    refine EndQ.d (.tmp (.e rfl) .nil) rfl ?_
    simp only [fewB, any_no (n := r.tried.length) (p := fun k => decide (50 < ((r.tried.getD k []).length : Int))) (fun j hj => hJ j (by simp at hc1; omega)), Bool.false_eq_true, ↓reduceIte] <;> rfl

/-- bookplate/bookplatelaw55.Own -/
theorem own_ok (r : Req) : Fn Try.prog 12 [r.e] (r.e) := by
  refine Fn.of_AW (fnn := Try.f12) Try.func12 rfl (Nat.le_of_ble_eq_true rfl) (fun g0 w0 hw0 => ?_)
  refine AW.seqR ?_
  refine AL.s rfl (op_box (n := 0) (.e rfl) rfl rfl rfl) ?_
  refine AL.s rfl (op_alloc (n := 1) zr29 rfl) ?_
  refine AL.nil ?_
  refine AW.seqR ?_
  refine AL.s rfl (op_load_ptrA (.e rfl) rfl rfl rfl ag24) ?_
  refine AL.s rfl (op_storeA (.e rfl) (.e rfl) rfl rfl ⟨_, rfl, rfl⟩ rfl (Nat.le_of_ble_eq_true rfl)) ?_
  refine AL.nil ?_
  refine AW.ret ?_
  refine EndQ.d (.cellA (.e rfl) rfl rfl rfl ag29 .nil) rfl ?_
  rfl

/-- bookplate/bookplatelaw55.Theirs -/
theorem theirs_ok (r : Req) : Fn Try.prog 34 [r.e] (r.e) := by
  refine Fn.of_AW (fnn := Try.f34) Try.func34 rfl (Nat.le_of_ble_eq_true rfl) (fun g0 w0 hw0 => ?_)
  refine AW.seqR ?_
  refine AL.s rfl (op_box (n := 0) (.e rfl) rfl rfl rfl) ?_
  refine AL.s rfl (op_alloc (n := 1) zr24 rfl) ?_
  refine AL.nil ?_
  refine AW.seqR ?_
  refine AL.s rfl (op_load_ptrA (.e rfl) rfl rfl rfl ag29) ?_
  refine AL.s rfl (op_storeA (.e rfl) (.e rfl) rfl rfl ⟨_, rfl, rfl⟩ rfl (Nat.le_of_ble_eq_true rfl)) ?_
  refine AL.nil ?_
  refine AW.ret ?_
  refine EndQ.d (.cellA (.e rfl) rfl rfl rfl ag24 .nil) rfl ?_
  rfl

/-- bookplate/bookplatelaw55.same -/
theorem same_ok (a b : Req) (ha : a.tried.length ≤ 9223372036854775807) : Fn Try.prog 15 [a.e, b.e] (.bool (sameB a b)) := by
  refine Fn.of_AW (fnn := Try.f15) Try.func15 rfl (Nat.le_of_ble_eq_true rfl) (fun g0 w0 hw0 => ?_)
  refine AW.seqR ?_
  refine AL.s rfl (op_box (n := 0) (.e rfl) rfl rfl rfl) ?_
  refine AL.s rfl (op_box (n := 1) (.e rfl) rfl rfl rfl) ?_
  refine AL.s rfl (op_assignD (.e rfl)) ?_
  refine AL.nil ?_
  refine AW.seqD [([0], []), ([], []), ([1], []), ([], []), ([], []), ([], [])] mo (by decide +kernel) ?_
  refine AD.s (ws := []) rfl rfl (fun H' _ hH => op_load_ptrA (.e rfl) ((hH _ (by first | exact List.Mem.head _ | simp)).trans rfl) rfl rfl ag29) ?_
  refine AD.s (ws := []) rfl rfl (fun H' _ hH => op_fn Try.call34 (.e rfl) (.cons (.r rfl) .nil) (theirs_ok ⟨_, _, _, _, _, _, _, _, _⟩)) ?_
  refine AD.s (ws := []) rfl rfl (fun H' _ hH => op_load_ptrA (.e rfl) ((hH _ (by first | exact List.Mem.head _ | simp)).trans rfl) rfl rfl ag29) ?_
  refine AD.s (ws := []) rfl rfl (fun H' _ hH => op_fn Try.call34 (.e rfl) (.cons (.r rfl) .nil) (theirs_ok ⟨_, _, _, _, _, _, _, _, _⟩)) ?_
  refine AD.s (ws := []) rfl rfl (fun H' _ hH => op_fn Try.call33 (.e rfl) (.cons (.r rfl) (.cons (.r rfl) .nil)) (rsame_ok ⟨_, _, _, _, _, _, _, _, _⟩ ⟨_, _, _, _, _, _, _, _, _⟩ (by omega))) ?_
  refine AD.s (ws := []) rfl rfl (fun H' _ hH => op_assignD (.e rfl)) ?_
  refine AD.nil ?_
  refine AW.ret ?_
  refine EndQ.d (.tmp (.e rfl) .nil) rfl ?_
  rfl

/-- bookplate/bookplatelaw55.fewSteps -/
theorem fewSteps_ok (l : List Stp) (hl : l.length ≤ 9223372036854775807) : Fn Try.prog 10 [.sl (l.map Stp.e)] (.bool (fewStepsB l)) := by
  refine Fn.of_AW (fnn := Try.f10) Try.func10 rfl (Nat.le_of_ble_eq_true rfl) (fun g0 w0 hw0 => ?_)
  refine AW.seqR ?_
  refine AL.s rfl (op_assignD (.e rfl)) ?_
  refine AL.nil ?_
  refine AW.seq ?_
  refine AW.seqR ?_
  refine AL.s rfl (op_moveD (.e rfl)) ?_
  refine AL.s rfl (op_lenN (.r rfl) (by first | exact List.length_map _ | rfl) sl25) ?_
  refine AL.s rfl (op_moveD (.e rfl)) ?_
  refine AL.nil ?_
  refine AW.block ?_
  refine AW.loopT 0 (α := Nat) (fun k => k ≤ l.length ∧ ∀ j, j < k → decide (50 < ((l.getD j zeroStp).lender.length : Int)) = false) [0, 5, 6] (fun k => [(7, .d (.int .i64 (k : Int)))]) (fun k => []) (fun k => l.length - k) (0) (⟨by omega, by omega⟩) (WOK.g0 hw0 (by simp)) (fun x => .ofB (by first | rfl | (cases x; rfl))) (.ofB rfl) (fun x => .ofB (by first | rfl | (cases x; rfl))) ⟨by first | exact .of rfl | exact .d rfl | exact .any | exact .int (by simp), trivial⟩ rfl ?_
  intro k hI
  obtain ⟨hI, hJ⟩ := hI
  refine AW.seqR ?_
  refine AL.s rfl (op_lss (.r rfl) (.r rfl)) ?_
  refine AL.nil ?_
  refine AW.seq ?_
  refine AW.cond (b := _) rfl (fun hc1 => ?_) (fun hc1 => ?_)
  · skip
    refine AW.skip ?_
    refine nq ?_
    refine AW.seq ?_
    refine AW.block ?_
    refine AW.seqR ?_
    refine AL.s rfl (op_indexAddr (.r rfl) (.r rfl) rfl (getMapD (d := zeroStp) (by simp at hc1; omega)) sl25 rfl) ?_
    refine AL.s rfl (op_loadA (.e rfl) rfl ag44) ?_
    refine AL.s rfl (op_alloc (n := 0) zr44 rfl) ?_
    refine AL.s rfl (op_store (.e rfl) (.e rfl) rfl rfl rfl ⟨_, rfl, rfl⟩ rfl (Nat.le_of_ble_eq_true rfl)) ?_
    refine AL.nil ?_
    refine AW.seqR ?_
    refine AL.s rfl (op_field_ptr (.e rfl) fd44_2) ?_
    refine AL.s rfl (op_load_ptr1 (.e rfl) rfl rfl sc9) ?_
    refine AL.s rfl (op_lenS (.r rfl) Try.underlying9) ?_
    refine AL.s rfl (op_gtr (.r rfl) (.r rfl)) ?_
    refine AL.nil ?_
    refine AW.cond (b := _) rfl (fun hc2 => ?_) (fun hc2 => ?_)
    · skip
      refine AW.seqR ?_
      refine AL.s rfl (op_assignD (.e rfl)) ?_
      refine AL.nil ?_
      refine AW.ret ?_
      refine bq_ret ?_
      refine tq_ret ?_
      refine tq_ret ?_
      refine bq_ret ?_
      refine tq_ret ?_
      refine EndQ.d (.tmp (.e rfl) .nil) rfl ?_
      simp only [fewStepsB, any_yes (p := fun k => decide (50 < ((l.getD k zeroStp).lender.length : Int))) (show k < l.length by simp at hc1; omega) hc2, if_true] <;> rfl
    · skip
      refine AW.skip ?_
      refine bq_n ?_
      refine nq ?_
      refine AW.region ?_
      refine AL.s rfl (op_add (.r rfl) (.r rfl) (w64 (by omega) (by simp at hc1; omega))) ?_
      refine AL.s rfl (op_moveD (.e rfl)) ?_
      refine AL.nil ?_
      refine nq ⟨k + 1, ?_, ?_, ⟨by first | exact .of rfl | exact .int (by omega) | exact .d rfl | exact .any, trivial⟩, ⟨rfl, rfl, rfl, trivial⟩, rfl, by first | exact Nat.le_of_ble_eq_true rfl | simp⟩
      · simp at hc1; exact ⟨by omega, fun j hj => by rcases Nat.lt_or_ge j k with h1 | h1; exact hJ j h1; obtain rfl : j = k := (by omega); exact hc2⟩
      · simp at hc1; omega
  · skip
    refine AW.exit ?_
    refine tq_exit ?_
    refine tq_exit ?_
    refine bq_hit ?_
    refine nq ?_
    refine AW.seqR ?_
    refine AL.s rfl (op_moveD (.e rfl)) ?_
    refine AL.s rfl (op_lenN (.r rfl) (by first | exact List.length_map _ | rfl) sl25) ?_
    refine AL.s rfl (op_leq (.r rfl) (.r rfl)) ?_
    refine AL.s rfl (op_assignD (.e rfl)) ?_
    refine AL.nil ?_
    refine AW.ret ?_
    refine EndQ.d (.tmp (.e rfl) .nil) rfl ?_
    simp only [fewStepsB, any_no (n := l.length) (p := fun k => decide (50 < ((l.getD k zeroStp).lender.length : Int))) (fun j hj => hJ j (by simp at hc1; omega)), Bool.false_eq_true, ↓reduceIte] <;> rfl

/-- bookplate/bookplatelaw55.steps -/
theorem steps_ok (l : List Stp) (hl : l.length ≤ 1000000) : Fn Try.prog 13 [.sl (l.map Stp.e)] (.sl (l.map Stp.e)) := by
  refine Fn.of_AW (fnn := Try.f13) Try.func13 rfl (Nat.le_of_ble_eq_true rfl) (fun g0 w0 hw0 => ?_)
  refine AW.seqR ?_
  refine AL.s rfl (op_assignN (.e rfl)) ?_
  refine AL.nil ?_
  refine AW.seqR ?_
  refine AL.s rfl (op_assignN (.e rfl)) ?_
  refine AL.nil ?_
  refine AW.seq ?_
  refine AW.seqR ?_
  refine AL.s rfl (op_moveD (.e rfl)) ?_
  refine AL.s rfl (op_lenN (.r rfl) (by first | exact List.length_map _ | rfl) sl25) ?_
  refine AL.s rfl (op_moveD (.e rfl)) ?_
  refine AL.nil ?_
  refine AW.block ?_
  refine AW.tokenize (n := 0) 3 43 4 rfl rfl (by simp) ?_
  refine AW.loopT 1 (α := Nat) (fun k => k ≤ l.length) [6, 7] (fun k => [(3, .tk 0 ((l.take k).map Stp.e)), (8, .d (.int .i64 (k : Int)))]) (fun k => [.tok ((l.take k).map Stp.e).length 43 4]) (fun k => l.length - k) (0) (Nat.zero_le _) (WOK.g0 hw0 (by simp)) (fun x => .ofB (by first | rfl | (cases x; rfl))) (.ofB rfl) (fun x => .ofB (by first | rfl | (cases x; rfl))) ⟨by first | exact .of rfl | exact .d rfl | exact .any | exact .int (by simp), by first | exact .of rfl | exact .d rfl | exact .any | exact .int (by simp), trivial⟩ rfl ?_
  intro k hI
  refine AW.seqR ?_
  refine AL.s rfl (op_lss (.r rfl) (.r rfl)) ?_
  refine AL.nil ?_
  refine AW.seq ?_
  refine AW.cond (b := _) rfl (fun hc1 => ?_) (fun hc1 => ?_)
  · skip
    refine AW.skip ?_
    refine nq ?_
    refine AW.seq ?_
    refine AW.block ?_
    refine AW.seqR ?_
    refine AL.s rfl (op_indexAddr (.r rfl) (.r rfl) rfl (getMapD (d := zeroStp) (by simp at hc1; omega)) sl25 rfl) ?_
    refine AL.s rfl (op_loadA (.e rfl) rfl ag44) ?_
    refine AL.s rfl (op_alloc (n := 1) zr44 rfl) ?_
    refine AL.s rfl (op_store (.e rfl) (.e rfl) rfl rfl rfl ⟨_, rfl, rfl⟩ rfl (Nat.le_of_ble_eq_true rfl)) ?_
    refine AL.nil ?_
    refine AW.region ?_
    refine AL.s rfl (op_moveT (.e rfl)) ?_
    refine AL.s rfl (op_load_ptrA (.e rfl) rfl rfl rfl ag44) ?_
    refine AL.s rfl (op_buildSlice sl34 (.cons (.r rfl) rfl (by simp [absD, absC, D.cells, D.one]) .nil) rfl (by decide)) ?_
    refine AL.s rfl (op_append sl34 (.e rfl) (.r rfl) rfl (steps_sz _ _) (steps_one _ _) (by simp at hc1 ⊢; omega) (by simp at hc1 ⊢; omega)) ?_
    refine AL.s rfl (op_assignT (.e rfl)) ?_
    refine AL.nil ?_
    refine bq_n ?_
    refine nq ?_
    refine AW.region ?_
    refine AL.s rfl (op_add (.r rfl) (.r rfl) (w64 (by omega) (by simp at hc1; omega))) ?_
    refine AL.s rfl (op_moveD (.e rfl)) ?_
    refine AL.nil ?_
    refine nq ⟨k + 1, ?_, ?_, ⟨by exact .tk (steps_snoc (by simp at hc1; omega)), by first | exact .of rfl | exact .int (by omega) | exact .d rfl | exact .any, trivial⟩, ⟨rfl, rfl, trivial⟩, (show _ = [HE.tok ((l.take (k + 1)).map Stp.e).length 43 4] from by rw [← steps_snoc (by simp at hc1; omega)]; rfl), by first | exact Nat.le_of_ble_eq_true rfl | simp⟩
    · simp at hc1; omega
    · simp at hc1; omega
  · skip
    refine AW.exit ?_
    refine tq_exit ?_
    refine tq_exit ?_
    refine bq_hit ?_
    refine nq ?_
    refine AW.seqR ?_
    refine AL.s rfl (op_moveT (.e rfl)) ?_
    refine AL.s rfl (op_assignT (.e rfl)) ?_
    refine AL.nil ?_
    refine AW.ret ?_
    refine EndQ.d (.tmp (.e rfl) .nil) rfl ?_
    have hk : k = l.length := (by simp at hc1; omega); rw [hk, List.take_length]

end Go.Proofs.Ytciojlggdnmncaa.Ab
