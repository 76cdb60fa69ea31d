/- What a state permits. Conditions: none. -/
import Derived.Test.YtciojlggdnmncaaSx
set_option maxRecDepth 100000
namespace Go.Proofs.Ytciojlggdnmncaa.Ab
open Go 


def hasTo (l : List Int) (v : Int) (k : Nat) : Bool := (l.take k).any fun x => decide (x = v)
theorem hasTo_succ {l : List Int} {v : Int} {k : Nat} (hk : k < l.length) : hasTo l v (k + 1) = (hasTo l v k || decide (l.getD k 0 = v)) := by
  have : l.getD k 0 = l[k] := by simp [List.getD, hk]
  rw [this, hasTo, ← List.take_append_getElem hk, List.any_append]; simp [hasTo]
theorem hasTo_all (l : List Int) (v : Int) : hasTo l v l.length = hasI l v := by
  rw [hasTo, List.take_length, hasI]; congr 1; funext x; rw [Bool.eq_iff_iff]; simp; exact eq_comm
theorem refused_not (r : Req) (s : Stp) : refusedI r s ≠ 11 := by
  unfold refusedI; repeat' split
  all_goals decide
theorem kinds_empty {r : Req} (h : r.OK) : (inI r.st 7 9 == decide ((((kindsL r.st).length : Nat) : Int) = 0)) = true := by
  have h' : r.st = 1 ∨ r.st = 2 ∨ r.st = 3 ∨ r.st = 4 ∨ r.st = 5 ∨ r.st = 6 ∨ r.st = 7 ∨ r.st = 8 ∨ r.st = 9 := by have := h.st; omega
  rcases h' with h | h | h | h | h | h | h | h | h <;> rw [h] <;> decide
theorem permitted_no {r : Req} {s : Stp} (h : validB r = true) : ((!(inI r.st 7 9 == decide ((((kindsL r.st).length : Nat) : Int) = 0)) || (decide ((doI r s).2 = 0) && !hasI (kindsL r.st) s.kind)) || (decide ((doI r s).2 = 11) && hasI (kindsL r.st) s.kind)) = false := by
  rw [kinds_empty (validB_ok h)]
  cases hk : hasI (kindsL r.st) s.kind with
  | true =>
    have : (doI r s).2 ≠ 11 := by
      unfold doI
      split; · decide
      split
      · rename_i h2; simp [hk] at h2
      split; · decide
      split
      · exact refused_not r s
      · show (0 : Int) ≠ 11; decide
    simp [this]
  | false =>
    have : (doI r s).2 ≠ 0 := fun h0 => by have := (done_of h0).has; rw [hk] at this; cases this
    simp [this]
theorem permitted_yes {r : Req} {s : Stp} : (!decide ((doI r s).2 = 0) || (decide ((doI r s).1.st = r.st) == decide (s.kind = 5))) = true := by
  by_cases h0 : (doI r s).2 = 0
  · have d := done_of h0
    rw [d.eq]
    simp only [h0]
    rcases pairs_of d.has with ⟨hs, hk | hk | hk⟩ | ⟨hs, hk | hk | hk⟩ | ⟨hs, hk⟩ | ⟨hs, hk | hk | hk⟩ | ⟨hs, hk⟩ | ⟨hs, hk⟩ <;> simp [stepR, hk, hs]
  · simp [h0]


end Go.Proofs.Ytciojlggdnmncaa.Ab
