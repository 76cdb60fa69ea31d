/- What the laws ask. Conditions: none. -/
import Derived.Test.YtciojlggdnmncaaFs
import Derived.Test.YtciojlggdnmncaaFe
set_option maxRecDepth 100000
namespace Go.Proofs.Ytciojlggdnmncaa.Ab
open Go 


theorem runG_fits {l : List Stp} : ∀ {r : Req} {i : Int}, r.Fits → (∀ s ∈ l, s.lender.length ≤ 9223372036854775807) → (runG r l i).1.Fits := by
  induction l with
  | nil => intro r i hr _; exact hr
  | cons s l ih =>
    intro r i hr hl
    unfold runG
    split
    · exact hr
    · exact ih (do_fits hr (hl s (List.mem_cons_self ..))) (fun x hx => hl x (List.mem_cons_of_mem _ hx))
theorem run_fits {l : List Stp} {r : Req} (hr : r.Fits) (hl : ∀ s ∈ l, s.lender.length ≤ 9223372036854775807) : (runI r l).1.Fits := by
  unfold runI
  split
  · exact zeroReq_fits
  · exact runG_fits hr hl
theorem getD_len {l : List Stp} (hl : ∀ s ∈ l, s.lender.length ≤ 9223372036854775807) (k : Nat) : (l.getD k zeroStp).lender.length ≤ 9223372036854775807 := by
  rw [List.getD_eq_getElem?_getD]
  by_cases h : k < l.length
  · rw [List.getElem?_eq_getElem h]; exact hl _ (List.getElem_mem h)
  · rw [List.getElem?_eq_none (by omega)]; decide
def awakeR : Req := (newR 1 2 [106, 101, 110, 97] 0).1
def awakeL : List Stp := [⟨1, 1, [107, 105, 101, 108], 0⟩, ⟨2, 2, [], 0⟩, ⟨1, 3, [98, 111, 110, 110], 0⟩, ⟨3, 4, [], 0⟩, ⟨4, 6, [], 30⟩, ⟨6, 10, [], 0⟩]
theorem awakeR_fits : awakeR.Fits := ⟨by decide +kernel, by decide +kernel, by decide +kernel, fun k => by
  have : awakeR.tried = [] := by decide +kernel
  rw [this]; simp⟩
theorem awakeL_len : ∀ s ∈ awakeL, s.lender.length ≤ 9223372036854775807 := by decide +kernel
theorem parseK_back {n : Int} (h : 1 ≤ n ∧ n ≤ 10) : parseK (kindNameL n) 10 1 = (n, 0) := by
  have h' : n = 1 ∨ n = 2 ∨ n = 3 ∨ n = 4 ∨ n = 5 ∨ n = 6 ∨ n = 7 ∨ n = 8 ∨ n = 9 ∨ n = 10 := by omega
  rcases h' with rfl | rfl | rfl | rfl | rfl | rfl | rfl | rfl | rfl | rfl <;> decide +kernel
theorem names_true (n : Int) (s : List UInt8) : (decide ((parseK s 10 1).1 = (parseK s 10 1).1) && decide ((parseK s 10 1).2 = (parseK s 10 1).2) && ((decide (n < 1) || decide (10 < n)) || (decide ((parseK (kindNameL n) 10 1).2 = 0) && decide ((parseK (kindNameL n) 10 1).1 = n)))) = true := by
  by_cases h : 1 ≤ n ∧ n ≤ 10
  · simp [parseK_back h]
  · have : n < 1 ∨ 10 < n := by omega
    simp [this]


end Go.Proofs.Ytciojlggdnmncaa.Ab
