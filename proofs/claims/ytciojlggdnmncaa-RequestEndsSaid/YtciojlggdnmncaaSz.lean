/- The steps that lead on. Conditions: none. -/
import Derived.Test.YtciojlggdnmncaaSx
set_option maxRecDepth 100000
namespace Go.Proofs.Ytciojlggdnmncaa.Ab
open Go 


def rank (n : Int) : Int := if n = 1 ∨ n = 2 then 1 else if n = 3 then 3 else if n = 4 ∨ n = 5 then 2 else if n = 6 then 1 else 0
theorem rank_pos (n : Int) : 0 ≤ rank n := by unfold rank; repeat' split
                                              all_goals omega
theorem do_yes {r : Req} {s : Stp} (hv : validB r = true) (h1 : 1 ≤ s.kind ∧ s.kind ≤ 10) (h3 : s.lender = []) (h4 : s.kind = 4 ∨ s.kind = 5 ∨ s.due = 0) (hh : hasI (kindsL r.st) s.kind = true)
    (ht : r.tm ≤ s.tm ∧ s.tm ≤ 1000000) (hf : refusedI r s = 0) : doI r s = (stepR r s, 0) := by
  unfold doI
  rw [if_neg (by have hi := inI_iff.2 h1; simp only [hv, hi, h3]; rcases h4 with h4 | h4 | h4 <;> simp [h4]), if_neg (by simp [hh]), if_neg (by simp; omega), if_neg (by simp [hf])]
/-- The step that leads on. -/
def Leads (x : Req) (s : Stp) : Prop := ((x.st = 1 ∨ x.st = 2) ∧ s = ⟨9, x.tm, [], 0⟩) ∨ (x.st = 3 ∧ s = ⟨4, x.tm, [], x.tm + 1⟩) ∨ ((x.st = 4 ∨ x.st = 5) ∧ s = ⟨7, x.tm, [], 0⟩) ∨ (x.st = 6 ∧ s = ⟨8, x.tm, [], 0⟩)
theorem ends_step {x : Req} {s : Stp} (hv : validB x = true) (hq : ¬ (x.st = 3 ∧ x.tm = 1000000)) (hl : Leads x s) : (doI x s).2 = 0 ∧ rank (doI x s).1.st + 1 = rank x.st ∧ (doI x s).1.st ≠ 3 := by
  have ok := validB_ok hv
  have t := ok.tm
  rcases hl with ⟨h | h, rfl⟩ | ⟨h, rfl⟩ | ⟨h | h, rfl⟩ | ⟨h, rfl⟩
  · rw [do_yes hv (show (1 : Int) ≤ 9 ∧ (9 : Int) ≤ 10 by decide) rfl (.inr (.inr rfl)) (by rw [h]; exact (show hasI (kindsL 1) 9 = true by decide)) (by show x.tm ≤ x.tm ∧ x.tm ≤ 1000000; omega) (by simp [refusedI])]; simp [stepR, rank, h]
  · rw [do_yes hv (show (1 : Int) ≤ 9 ∧ (9 : Int) ≤ 10 by decide) rfl (.inr (.inr rfl)) (by rw [h]; exact (show hasI (kindsL 2) 9 = true by decide)) (by show x.tm ≤ x.tm ∧ x.tm ≤ 1000000; omega) (by simp [refusedI])]; simp [stepR, rank, h]
  · rw [do_yes hv (show (1 : Int) ≤ 4 ∧ (4 : Int) ≤ 10 by decide) rfl (.inl rfl) (by rw [h]; exact (show hasI (kindsL 3) 4 = true by decide)) (by show x.tm ≤ x.tm ∧ x.tm ≤ 1000000; omega) (by simp [refusedI]; omega)]; simp [stepR, rank, h]
  · rw [do_yes hv (show (1 : Int) ≤ 7 ∧ (7 : Int) ≤ 10 by decide) rfl (.inr (.inr rfl)) (by rw [h]; exact (show hasI (kindsL 4) 7 = true by decide)) (by show x.tm ≤ x.tm ∧ x.tm ≤ 1000000; omega) (by simp [refusedI])]; simp [stepR, rank, h]
  · rw [do_yes hv (show (1 : Int) ≤ 7 ∧ (7 : Int) ≤ 10 by decide) rfl (.inr (.inr rfl)) (by rw [h]; exact (show hasI (kindsL 5) 7 = true by decide)) (by show x.tm ≤ x.tm ∧ x.tm ≤ 1000000; omega) (by simp [refusedI])]; simp [stepR, rank, h]
  · rw [do_yes hv (show (1 : Int) ≤ 8 ∧ (8 : Int) ≤ 10 by decide) rfl (.inr (.inr rfl)) (by rw [h]; exact (show hasI (kindsL 6) 8 = true by decide)) (by show x.tm ≤ x.tm ∧ x.tm ≤ 1000000; omega) (by simp [refusedI])]; simp [stepR, rank, h]
structure EndsI (x : Req) (k : Nat) : Prop where
  hk : k ≤ 5
  v : validB x = true
  f : x.Fits
  q : ¬ (x.st = 3 ∧ x.tm = 1000000)
  r : rank x.st + (k : Int) ≤ 3
theorem ends_start {r : Req} (hv : validB r = true) (hf : r.Fits) (hq : ¬ (r.st = 3 ∧ r.tm = 1000000)) : EndsI r 0 := by
  refine ⟨by omega, hv, hf, hq, ?_⟩
  unfold rank; repeat' split
  all_goals simp
theorem ends_round {x : Req} {s : Stp} {k : Nat} (h : EndsI x k) (hl : Leads x s) (hs : s.lender = []) : EndsI (doI x s).1 (k + 1) := by
  obtain ⟨h1, h2, h3⟩ := ends_step h.v h.q hl
  have := rank_pos (doI x s).1.st
  have hr := h.r
  exact ⟨by omega, do_keeps h1, do_fits h.f (by rw [hs]; decide), fun hh => h3 hh.1, by show rank (doI x s).1.st + ((k + 1 : Nat) : Int) ≤ 3; omega⟩
theorem ends_last {x : Req} {k : Nat} (h : EndsI x k) (hk : ¬ k < 5) : False := by
  have := rank_pos x.st; have := h.r; omega
theorem ends_dead {x : Req} {s : Stp} {k : Nat} (h : EndsI x k) (hl : Leads x s) (e : (!decide ((doI x s).2 = 0)) = true) : False := by
  rw [(ends_step h.v h.q hl).1] at e; exact absurd e (by decide)
theorem ends_final {x : Req} {k : Nat} (h : EndsI x k) (h1 : x.st ≠ 1) (h2 : x.st ≠ 2) (h3 : x.st ≠ 3) (h4 : x.st ≠ 4) (h5 : x.st ≠ 5) (h6 : x.st ≠ 6) : inI x.st 7 9 = true := by
  have := (validB_ok h.v).st
  exact inI_iff.2 (by omega)


end Go.Proofs.Ytciojlggdnmncaa.Ab
