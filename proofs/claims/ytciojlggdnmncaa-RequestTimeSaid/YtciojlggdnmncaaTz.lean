/- What a step leaves as it was. Conditions: none. -/
import Derived.Test.YtciojlggdnmncaaSx
set_option maxRecDepth 100000
namespace Go.Proofs.Ytciojlggdnmncaa.Ab
open Go 


structure TimeI (r x : Req) : Prop where
  v : validB x = true
  f : x.Fits
  id : x.id = r.id
  lib : x.lib = r.lib
theorem time_round {r x : Req} {s : Stp} (h : TimeI r x) (hs : s.lender.length ≤ 9223372036854775807) (h0 : (doI x s).2 = 0) : TimeI r (doI x s).1 := by
  refine ⟨do_keeps h0, do_fits h.f hs, ?_, ?_⟩ <;> rw [do_step h0] <;> unfold stepR <;> (repeat' split) <;> first | exact h.id | exact h.lib
theorem time_no {r x : Req} {s : Stp} (h : TimeI r x) (h0 : (doI x s).2 = 0) : (((((((decide ((doI x s).1.tm < x.tm) || !decide ((doI x s).1.tm = s.tm)) || (decide (s.kind = 6) && decide (x.due < (doI x s).1.due))) || decide ((doI x s).1.ren < x.ren)) || decide (2 < (doI x s).1.ren)) || decide (((doI x s).1.tried.length : Int) < x.tried.length)) || !decide ((doI x s).1.id = r.id)) || !decide ((doI x s).1.lib = r.lib)) = false := by
  have d := done_of h0
  have ok := validB_ok h.v
  have ok2 := validB_ok (do_keeps h0)
  have t := d.tm
  have o := ok2.ren
  rw [d.eq] at o ⊢
  have hi := h.id; have hl := h.lib
  rcases pairs_of d.has with ⟨hs, hk | hk | hk⟩ | ⟨hs, hk | hk | hk⟩ | ⟨hs, hk⟩ | ⟨hs, hk | hk | hk⟩ | ⟨hs, hk⟩ | ⟨hs, hk⟩ <;> simp [stepR, hk, hi, hl] at o ⊢ <;> omega
theorem time_tried {x : Req} {s : Stp} {k : Nat} (h0 : (doI x s).2 = 0) (hk : k < x.tried.length) : k < (doI x s).1.tried.length ∧ (doI x s).1.tried.getD k [] = x.tried.getD k [] := by
  rw [do_step h0]
  unfold stepR
  repeat' split
  case isFalse.isTrue =>
    refine ⟨by simp; omega, ?_⟩
    show (x.tried ++ [x.lender]).getD k [] = _
    rw [List.getD_eq_getElem?_getD, List.getElem?_append_left hk, ← List.getD_eq_getElem?_getD]
  all_goals exact ⟨hk, rfl⟩
theorem time_refused {x : Req} {k : Nat} {tm : Int} (hk : k < x.tried.length) : (doI x ⟨1, tm, x.tried.getD k [], 0⟩).2 ≠ 0 := fun h0 => by
  have := (done_of h0).ref
  have hh : hasS x.tried (x.tried.getD k []) = true := hasS_yes hk (by simp)
  simp only [refusedI, hh] at this
  simp at this
  split at this <;> simp at this


end Go.Proofs.Ytciojlggdnmncaa.Ab
