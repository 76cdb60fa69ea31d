/- Sameness and smallness. Conditions: none. -/
import Derived.Test.YtciojlggdnmncaaSt
set_option maxRecDepth 100000
namespace Go.Proofs.Ytciojlggdnmncaa.Ab
open Go 


def sameB (a b : Req) : Bool :=
  if ((((((((!decide (a.id = b.id) || !decide (a.work = b.work)) || !decide (a.lib = b.lib)) || !decide (a.st = b.st)) || !decide (a.tm = b.tm)) || !decide (a.lender = b.lender)) || !decide (a.due = b.due)) || !decide (a.ren = b.ren)) || !decide ((a.tried.length : Int) = b.tried.length)) = true then false
  else !((List.range a.tried.length).any fun k => !decide (a.tried.getD k [] = b.tried.getD k []))
theorem any_yes {n k : Nat} {p : Nat → Bool} (hk : k < n) (h : p k = true) : (List.range n).any p = true := List.any_eq_true.2 ⟨k, List.mem_range.2 hk, h⟩
theorem any_no {n : Nat} {p : Nat → Bool} (h : ∀ j, j < n → p j = false) : (List.range n).any p = false := by
  rw [List.any_eq_false]; intro j hj; simp [h j (List.mem_range.1 hj)]
theorem same_refl (a : Req) : sameB a a = true := by
  have : ((List.range a.tried.length).any fun k => !decide (a.tried.getD k [] = a.tried.getD k [])) = false := any_no (fun j _ => by simp)
  unfold sameB; rw [this]; simp
def fewB (r : Req) : Bool :=
  if ((List.range r.tried.length).any fun k => decide (50 < ((r.tried.getD k []).length : Int))) = true then false
  else ((decide ((r.tried.length : Int) ≤ 21) && decide ((r.lib.length : Int) ≤ 50)) && decide ((r.lender.length : Int) ≤ 50))
def fewStepsB (l : List Stp) : Bool :=
  if ((List.range l.length).any fun k => decide (50 < ((l.getD k zeroStp).lender.length : Int))) = true then false else decide ((l.length : Int) ≤ 15)
theorem fewSteps_ok' {l : List Stp} (h : fewStepsB l = true) : l.length ≤ 15 := by
  unfold fewStepsB at h
  split at h
  · cases h
  · have := of_decide_eq_true h; omega
theorem few_fits {r : Req} (h : fewB r = true) : r.tried.length ≤ 21 := by
  unfold fewB at h
  split at h
  · cases h
  · simp at h; omega


end Go.Proofs.Ytciojlggdnmncaa.Ab
