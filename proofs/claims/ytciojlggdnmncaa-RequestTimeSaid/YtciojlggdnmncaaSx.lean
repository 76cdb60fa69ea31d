/- Rounds of a run. Conditions: none. -/
import Derived.Test.YtciojlggdnmncaaSw
set_option maxRecDepth 100000
namespace Go.Proofs.Ytciojlggdnmncaa.Ab
open Go 


theorem take_len {l : List Stp} (hl : ∀ s ∈ l, s.lender.length ≤ 9223372036854775807) (m : Nat) : ∀ s ∈ l.take m, s.lender.length ≤ 9223372036854775807 := fun s hs => hl s (List.mem_of_mem_take hs)
theorem drop_len {l : List Stp} (hl : ∀ s ∈ l, s.lender.length ≤ 9223372036854775807) (m : Nat) : ∀ s ∈ l.drop m, s.lender.length ≤ 9223372036854775807 := fun s hs => hl s (List.mem_of_mem_drop hs)
theorem run_round {r x : Req} {l : List Stp} {k : Nat} (hv : validB r = true) (hJ : runG r l 0 = runG x (l.drop k) (k : Int)) (hk : (k : Int) < (runI r l).2.1) : k < l.length ∧ (doI x (l.getD k zeroStp)).2 = 0 ∧ runG r l 0 = runG (doI x (l.getD k zeroStp)).1 (l.drop (k + 1)) ((k : Int) + 1) := by
  rw [runI_eq hv, hJ] at hk
  have hlt : k < l.length := by
    rcases Nat.lt_or_ge k l.length with h | h
    · exact h
    · rw [runG_end (by omega)] at hk; simp at hk
  rw [runG_at hlt] at hk hJ
  by_cases h : (doI x (l.getD k zeroStp)).2 = 0
  · simp only [h, decide_true, Bool.not_true, Bool.false_eq_true, ↓reduceIte] at hJ
    exact ⟨hlt, h, hJ⟩
  · simp only [h, decide_false, Bool.not_false, ↓reduceIte] at hk
    omega
theorem run_last {r x : Req} {l : List Stp} {k : Nat} (hv : validB r = true) (hJ : runG r l 0 = runG x (l.drop k) (k : Int)) (hk : (k : Int) = (runI r l).2.1) : (runI r l).1 = x := by
  rw [runI_eq hv] at hk ⊢
  rw [hJ] at hk ⊢
  exact runG_stop hk.symm
theorem run_bounds {r : Req} {l : List Stp} : 0 ≤ (runI r l).2.1 ∧ (runI r l).2.1 ≤ l.length := by
  unfold runI
  split
  · simp
  · have := runG_bounds (l := l) (r := r) (i := 0); omega
theorem cut_of {c : Int} {l : List Stp} (hc : 0 ≤ c) : ∃ m : Nat, c % ((l.length : Int) + 1) = m ∧ m ≤ l.length := by
  have h1 := Int.emod_nonneg c (show (l.length : Int) + 1 ≠ 0 by omega)
  have h2 := Int.emod_lt_of_pos c (show 0 < (l.length : Int) + 1 by omega)
  exact ⟨(c % ((l.length : Int) + 1)).toNat, by omega, by omega⟩


end Go.Proofs.Ytciojlggdnmncaa.Ab
