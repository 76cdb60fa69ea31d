/- What steps do to requests. Conditions: none. -/
import Derived.Test.YtciojlggdnmncaaFb
import Derived.Test.YtciojlggdnmncaaFc
set_option maxRecDepth 100000
namespace Go.Proofs.Ytciojlggdnmncaa.Ab
open Go 


structure Req.OK (r : Req) : Prop where
  id : 1 ≤ r.id ∧ r.id ≤ 1000000000
  work : 1 ≤ r.work ∧ r.work ≤ 1000000000
  st : 1 ≤ r.st ∧ r.st ≤ 9
  tm : 0 ≤ r.tm ∧ r.tm ≤ 1000000
  due : 0 ≤ r.due ∧ r.due ≤ 1000000
  ren : 0 ≤ r.ren ∧ r.ren ≤ 2
  tried : r.tried.length ≤ 20
theorem inI_iff {n lo hi : Int} : inI n lo hi = true ↔ lo ≤ n ∧ n ≤ hi := by simp [inI]
theorem inI_no {n lo hi : Int} : inI n lo hi = false ↔ ¬ (lo ≤ n ∧ n ≤ hi) := by rw [← inI_iff]; simp
theorem validB_ok {r : Req} (h : validB r = true) : r.OK := by
  unfold validB at h
  split at h
  · simp at h
  rename_i h1
  simp only [Bool.or_eq_true, Bool.not_eq_true', not_or, Bool.not_eq_false, inI_iff, triedB, Bool.and_eq_true, decide_eq_true_eq] at h1
  obtain ⟨⟨⟨⟨⟨a1, a2⟩, a3⟩, a4⟩, a5⟩, a6⟩ := h1
  have ht : r.tried.length ≤ 20 := by have := a6.2; omega
  cases ha : inI r.st 2 7 <;> cases hb : inI r.st 4 7 <;> simp only [ha, hb, Bool.not_true, Bool.not_false, Bool.false_eq_true, ↓reduceIte] at h <;> (split at h <;> try (split at h)) <;>
    simp only [Bool.and_eq_true, decide_eq_true_eq, inI_iff, Bool.false_eq_true] at h <;> exact ⟨a1, a2, a4, a5, by omega, by omega, ht⟩
theorem pv {r : Req} {b c d : Bool} (h : (((!validB r || b) || c) || d) = false) : validB r = true := by revert h; cases validB r <;> simp
theorem kindsL_len (n : Int) : (kindsL n).length ≤ 9223372036854775807 := by
  unfold kindsL; repeat' split
  all_goals simp
def stepR (r : Req) (s : Stp) : Req :=
  if decide (s.kind = 1) = true then ⟨r.id, r.work, r.lib, 2, s.tm, s.lender, r.tried, r.due, r.ren⟩
  else if decide (s.kind = 2) = true then ⟨r.id, r.work, r.lib, 1, s.tm, [], r.tried ++ [r.lender], r.due, r.ren⟩
  else if decide (s.kind = 3) = true then ⟨r.id, r.work, r.lib, 3, s.tm, r.lender, r.tried, r.due, r.ren⟩
  else if decide (s.kind = 4) = true then ⟨r.id, r.work, r.lib, 4, s.tm, r.lender, r.tried, s.due, r.ren⟩
  else if decide (s.kind = 5) = true then ⟨r.id, r.work, r.lib, r.st, s.tm, r.lender, r.tried, s.due, r.ren + 1⟩
  else if decide (s.kind = 6) = true then ⟨r.id, r.work, r.lib, 5, s.tm, r.lender, r.tried, min r.due (s.tm + 7), r.ren⟩
  else if decide (s.kind = 7) = true then ⟨r.id, r.work, r.lib, 6, s.tm, r.lender, r.tried, r.due, r.ren⟩
  else if decide (s.kind = 8) = true then ⟨r.id, r.work, r.lib, 7, s.tm, r.lender, r.tried, r.due, r.ren⟩
  else if decide (s.kind = 9) = true then ⟨r.id, r.work, r.lib, 8, s.tm, [], r.tried, r.due, r.ren⟩
  else if decide (s.kind = 10) = true then ⟨r.id, r.work, r.lib, 9, s.tm, r.lender, r.tried, r.due, r.ren⟩
  else ⟨r.id, r.work, r.lib, r.st, s.tm, r.lender, r.tried, r.due, r.ren⟩
def doI (r : Req) (s : Stp) : Req × Int :=
  if (((!validB r || !inI s.kind 1 10) || (!decide (s.kind = 1) && !decide (s.lender = []))) || (!(decide (s.kind = 4) || decide (s.kind = 5)) && !decide (s.due = 0))) = true then (zeroReq, 1)
  else if (!hasI (kindsL r.st) s.kind) = true then (zeroReq, 11)
  else if (decide (s.tm < r.tm) || decide (1000000 < s.tm)) = true then (zeroReq, 25)
  else if (!decide (refusedI r s = 0)) = true then (zeroReq, refusedI r s)
  else (stepR r s, 0)
theorem do_valid {r : Req} {s : Stp} (h : (doI r s).2 = 0) : validB r = true := by
  cases hv : validB r with
  | true => rfl
  | false => simp [doI, hv] at h
theorem do_step {r : Req} {s : Stp} (h : (doI r s).2 = 0) : (doI r s).1 = stepR r s := by
  unfold doI at h ⊢
  split at h; · simp at h
  split at h; · simp at h
  split at h; · simp at h
  split at h
  · rename_i h1; simp at h1; exact absurd h h1
  · rename_i h1 h2 h3 h4; simp only [h1, h2, h3, h4, if_false]; rfl
theorem do_tm {r : Req} {s : Stp} (h : (doI r s).2 = 0) : r.tm ≤ s.tm ∧ s.tm ≤ 1000000 := by
  unfold doI at h
  split at h; · simp at h
  split at h; · simp at h
  split at h; · simp at h
  rename_i h3
  simp at h3; omega
theorem zeroReq_fits : zeroReq.Fits := ⟨by simp [zeroReq], by simp [zeroReq], by simp [zeroReq], by simp [zeroReq]⟩
theorem step_fits {r : Req} {s : Stp} (hv : validB r = true) (hr : r.Fits) (hs : s.lender.length ≤ 9223372036854775807) : (stepR r s).Fits := by
  have ok := validB_ok hv
  obtain ⟨a, b, c, d⟩ := hr
  unfold stepR
  repeat' split
  case isFalse.isTrue => 
    refine ⟨a, by simp, by have := ok.tried; simp; omega, fun k => ?_⟩
    simp only [List.getD_eq_getElem?_getD, List.getElem?_append]
    split
    · have := d k; simpa [List.getD_eq_getElem?_getD] using this
    · cases k - r.tried.length with
      | zero => simpa using b
      | succ i => simp
  all_goals exact ⟨a, by first | exact hs | exact b | simp, c, d⟩
theorem do_fits {r : Req} {s : Stp} (hr : r.Fits) (hs : s.lender.length ≤ 9223372036854775807) : (doI r s).1.Fits := by
  cases hv : validB r with
  | false => have : (doI r s).1 = zeroReq := by simp [doI, hv]
             rw [this]; exact zeroReq_fits
  | true =>
    unfold doI
    repeat' split
    all_goals first | exact zeroReq_fits | exact step_fits hv hr hs
def runG (r : Req) : List Stp → Int → Req × Int × Int
  | [], i => (r, i, 0)
  | s :: l, i => if (!decide ((doI r s).2 = 0)) = true then (r, i, (doI r s).2) else runG (doI r s).1 l (i + 1)
def runI (r : Req) (l : List Stp) : Req × Int × Int := if (!validB r) = true then (zeroReq, 0, 1) else runG r l 0
def zeroStp : Stp := ⟨0, 0, [], 0⟩
theorem runG_at {r : Req} {l : List Stp} {k : Nat} (hk : k < l.length) (i : Int) : runG r (l.drop k) i = if (!decide ((doI r (l.getD k zeroStp)).2 = 0)) = true then (r, i, (doI r (l.getD k zeroStp)).2) else runG (doI r (l.getD k zeroStp)).1 (l.drop (k + 1)) (i + 1) := by
  rw [List.drop_eq_getElem_cons hk]
  have : l.getD k zeroStp = l[k] := by simp [List.getD, hk]
  rw [this, runG]
theorem runG_end {r : Req} {l : List Stp} {k : Nat} (hk : ¬ k < l.length) (i : Int) : runG r (l.drop k) i = (r, i, 0) := by
  rw [List.drop_eq_nil_of_le (by omega)]; rfl
def lateI (r : Req) (now : Int) : Int := if ((!validB r || (!decide (r.st = 4) && !decide (r.st = 5))) || decide (now ≤ r.due)) = true then 0 else now - r.due
def parseK (s : List UInt8) : Nat → Int → Int × Int
  | 0, _ => (0, 7)
  | n + 1, k => if decide (kindNameL k = s) = true then (k, 0) else parseK s n (k + 1)


end Go.Proofs.Ytciojlggdnmncaa.Ab
