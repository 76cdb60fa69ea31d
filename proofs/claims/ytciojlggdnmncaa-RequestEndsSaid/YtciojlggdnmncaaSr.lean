/- The reference's forms, and that they say the same. Conditions: none. -/
import Derived.Test.YtciojlggdnmncaaSq
set_option maxRecDepth 100000
namespace Go.Proofs.Ytciojlggdnmncaa.Ab
open Go 


def rOddAt (s : List UInt8) (k : Nat) : Bool := !(decide (97 ≤ ((s.getD k 0).toNat : Int)) && decide (((s.getD k 0).toNat : Int) ≤ 122)) && (decide ((k : Int) = 0) || (!decide (((s.getD k 0).toNat : Int) = 45) && (decide (((s.getD k 0).toNat : Int) < 48) || decide (57 < ((s.getD k 0).toNat : Int)))))
theorem rOdd_no {s : List UInt8} {k : Nat} (hk : k < s.length) (h : rOddAt s k = true) : nameB s = false := by
  cases s with
  | nil => simp at hk
  | cons c l =>
    simp only [rOddAt, Bool.and_eq_true, Bool.or_eq_true, Bool.not_eq_true', Bool.and_eq_false_imp, decide_eq_true_eq, decide_eq_false_iff_not] at h
    cases k with
    | zero =>
      have : letterI (((c :: l).getD 0 0).toNat) = false := by simp only [letterI, Bool.and_eq_false_imp, decide_eq_true_eq, decide_eq_false_iff_not]; exact h.1
      unfold nameB; rw [this]; simp
    | succ k =>
      have hx : (c :: l).getD (k + 1) 0 ∈ c :: l := by
        rw [List.getD_eq_getElem?_getD, List.getElem?_eq_getElem hk]; exact List.getElem_mem _
      have : ((c :: l).any fun x => oddI x.toNat) = true := by
        rw [List.any_eq_true]
        refine ⟨_, hx, ?_⟩
        simp only [oddI, letterI, Bool.and_eq_true, Bool.not_eq_true', Bool.and_eq_false_imp, Bool.or_eq_true, decide_eq_true_eq, decide_eq_false_iff_not]
        have h2 := h.2; have h1 := h.1
        refine ⟨⟨h1, ?_⟩, ?_⟩ <;> omega
      unfold nameB; rw [this]; simp
theorem rOdd_yes {s : List UInt8} (h : ∀ k, k < s.length → rOddAt s k = false) : nameB s = (decide (1 ≤ (s.length : Int)) && decide ((s.length : Int) ≤ 40)) := by
  cases s with
  | nil => rfl
  | cons c l =>
    have h0 := h 0 (by simp)
    have hl : letterI (((c :: l).getD 0 0).toNat) = true := by
      simp only [rOddAt] at h0
      simp only [letterI]
      simpa using h0
    have ha : ((c :: l).any fun x => oddI x.toNat) = false := by
      rw [List.any_eq_false]
      intro x hx
      obtain ⟨k, hk, rfl⟩ := List.mem_iff_getElem.1 hx
      have := h k hk
      have e : (c :: l).getD k 0 = (c :: l)[k] := by rw [List.getD_eq_getElem?_getD, List.getElem?_eq_getElem hk]; rfl
      rw [rOddAt, e] at this
      simp only [oddI, letterI, Bool.and_eq_true, Bool.not_eq_true', Bool.and_eq_false_imp, Bool.or_eq_true, Bool.or_eq_false_iff, decide_eq_true_eq, decide_eq_false_iff_not] at this ⊢
      intro hc
      have t := this hc.1.1
      omega
    unfold nameB; rw [hl, ha]; simp
    omega
theorem hasS_yes {l : List (List UInt8)} {v : List UInt8} {k : Nat} (hk : k < l.length) (h : decide (l.getD k [] = v) = true) : hasS l v = true := by
  rw [hasS, List.any_eq_true]
  refine ⟨l[k], List.getElem_mem hk, ?_⟩
  have e : l.getD k [] = l[k] := by simp [List.getD, hk]
  rw [e] at h; simpa using (by simpa using h : l[k] = v).symm
theorem hasS_no {l : List (List UInt8)} {v : List UInt8} (h : ∀ j, j < l.length → decide (l.getD j [] = v) = false) : hasS l v = false := by
  rw [hasS, List.any_eq_false]
  intro x hx
  obtain ⟨k, hk, rfl⟩ := List.mem_iff_getElem.1 hx
  have := h k hk
  have e : l.getD k [] = l[k] := by simp [List.getD, hk]
  rw [e] at this; simp at this ⊢; exact fun h => this h.symm
theorem hasI_yes {l : List Int} {v : Int} {k : Nat} (hk : k < l.length) (h : decide (l.getD k 0 = v) = true) : hasI l v = true := by
  rw [hasI, List.any_eq_true]
  refine ⟨l[k], List.getElem_mem hk, ?_⟩
  have e : l.getD k 0 = l[k] := by simp [List.getD, hk]
  rw [e] at h; simpa using (by simpa using h : l[k] = v).symm
theorem hasI_no {l : List Int} {v : Int} (h : ∀ j, j < l.length → decide (l.getD j 0 = v) = false) : hasI l v = false := by
  rw [hasI, List.any_eq_false]
  intro x hx
  obtain ⟨k, hk, rfl⟩ := List.mem_iff_getElem.1 hx
  have := h k hk
  have e : l.getD k 0 = l[k] := by simp [List.getD, hk]
  rw [e] at this; simp at this ⊢; exact fun h => this h.symm
def tryB (l : List (List UInt8)) (lib : List UInt8) : Bool := (List.range l.length).any fun k => triedAt l lib k
theorem tryB_yes {l : List (List UInt8)} {lib : List UInt8} {k : Nat} (hk : k < l.length) (h : triedAt l lib k = true) : tryB l lib = true := by
  rw [tryB, List.any_eq_true]; exact ⟨k, List.mem_range.2 hk, h⟩
theorem tryB_no {l : List (List UInt8)} {lib : List UInt8} (h : ∀ j, j < l.length → triedAt l lib j = false) : tryB l lib = false := by
  rw [tryB, List.any_eq_false]; intro j hj; simp [h j (List.mem_range.1 hj)]
theorem tryB_eq (l : List (List UInt8)) (lib : List UInt8) : triedB l lib = (!tryB l lib && decide ((l.length : Int) ≤ 20)) := by
  unfold triedB tryB; congr 1; rw [List.all_eq_not_any_not]; simp
def rTail (r : Req) : Bool :=
  if (!(decide (4 ≤ r.st) && decide (r.st ≤ 7))) = true then (decide (r.due = 0) && decide (r.ren = 0)) else
  if ((decide (r.st = 4) || decide (r.st = 5)) && decide (r.due < r.tm)) = true then false else (((decide (1 ≤ r.due) && decide (r.due ≤ 1000000)) && decide (0 ≤ r.ren)) && decide (r.ren ≤ 2))
def rValidB (r : Req) : Bool :=
  if ((((((((decide (r.id < 1) || decide (1000000000 < r.id)) || decide (r.work < 1)) || decide (1000000000 < r.work)) || !nameB r.lib) || decide (r.st < 1)) || decide (9 < r.st)) || !(decide (0 ≤ r.tm) && decide (r.tm ≤ 1000000))) || decide (20 < (r.tried.length : Int))) = true then false else
  if tryB r.tried r.lib = true then false else
  if (decide (r.st < 2) || decide (7 < r.st)) = true then (if (!decide (r.lender = [])) = true then false else rTail r)
  else (if ((!nameB r.lender || decide (r.lender = r.lib)) || hasS r.tried r.lender) = true then false else rTail r)
theorem inI_eq (n lo hi : Int) : (decide (n < lo) || decide (hi < n)) = !inI n lo hi := by rw [Bool.eq_iff_iff]; simp [inI] <;> omega
theorem rValid_eq (r : Req) : rValidB r = validB r := by
  have e1 : rTail r = (if (!inI r.st 4 7) = true then (decide (r.due = 0) && decide (r.ren = 0)) else
      if ((decide (r.st = 4) || decide (r.st = 5)) && decide (r.due < r.tm)) = true then false else (inI r.due 1 1000000 && inI r.ren 0 2)) := by
    simp only [rTail, inI, Bool.and_assoc]
  have e2 : (decide (0 ≤ r.tm) && decide (r.tm ≤ 1000000)) = inI r.tm 0 1000000 := rfl
  have e3 : decide (20 < (r.tried.length : Int)) = !decide ((r.tried.length : Int) ≤ 20) := by rw [Bool.eq_iff_iff]; simp
  unfold rValidB validB
  rw [← e1, e2, e3, tryB_eq, inI_eq r.st 2 7]
  have f1 := inI_eq r.id 1 1000000000
  have f2 := inI_eq r.work 1 1000000000
  have f3 := inI_eq r.st 1 9
  rw [show ((((((decide (r.id < 1) || decide (1000000000 < r.id)) || decide (r.work < 1)) || decide (1000000000 < r.work)) || !nameB r.lib) || decide (r.st < 1)) || decide (9 < r.st)) = (((!inI r.id 1 1000000000 || !inI r.work 1 1000000000) || !nameB r.lib) || !inI r.st 1 9) from by
    rw [← f1, ← f2, ← f3]; simp only [Bool.or_assoc]]
  generalize (((!inI r.id 1 1000000000 || !inI r.work 1 1000000000) || !nameB r.lib) || !inI r.st 1 9) = A
  generalize tryB r.tried r.lib = B
  generalize inI r.tm 0 1000000 = C
  generalize decide ((r.tried.length : Int) ≤ 20) = G
  generalize inI r.st 2 7 = E
  generalize ((!nameB r.lender || decide (r.lender = r.lib)) || hasS r.tried r.lender) = K
  generalize (!decide (r.lender = [])) = L
  generalize rTail r = T
  revert A B C G E K L T; decide
def rRef (r : Req) (s : Stp) : Int :=
  if decide (s.kind = 1) = true then (if (!nameB s.lender || decide (s.lender = r.lib)) = true then 8 else if hasS r.tried s.lender = true then 24 else 0)
  else if decide (s.kind = 2) = true then (if decide ((r.tried.length : Int) = 20) = true then 3 else 0)
  else if (if decide (s.kind = 4) = true then true else decide (s.kind = 5)) = true then
    (if decide (r.ren = 2) = true then 3 else if ((decide (s.due ≤ s.tm) || decide (1000000 < s.due)) || decide (s.due ≤ r.due)) = true then 25 else 0)
  else if decide (s.kind = 6) = true then (if decide (r.due < s.tm) = true then 25 else 0) else 0
def rcheckI (r : Req) (s : Stp) : Int :=
  if ((((!validB r || decide (s.kind < 1)) || decide (10 < s.kind)) || (!decide (s.kind = 1) && !decide (s.lender = []))) || ((!decide (s.kind = 4) && !decide (s.kind = 5)) && !decide (s.due = 0))) = true then 1
  else if (!hasI (kindsL r.st) s.kind) = true then 11
  else if (decide (s.tm < r.tm) || decide (1000000 < s.tm)) = true then 25 else rRef r s
theorem shipped_of {n : Int} (h : hasI (kindsL n) 4 = true) : n = 3 := by
  unfold kindsL at h
  repeat' split at h
  all_goals first | assumption | (exfalso; revert h; decide)
theorem valid_shipped {r : Req} (h : validB r = true) (h3 : r.st = 3) : r.due = 0 ∧ r.ren = 0 := by
  unfold validB at h
  rw [h3] at h
  split at h; · simp at h
  rw [show inI 3 2 7 = true from rfl, show inI 3 4 7 = false from rfl] at h
  simp only [if_true, Bool.not_false] at h
  split at h; · simp at h
  simpa using h
theorem rcheck_eq (r : Req) (s : Stp) : rcheckI r s = (doI r s).2 := by
  have hA : ((((!validB r || decide (s.kind < 1)) || decide (10 < s.kind)) || (!decide (s.kind = 1) && !decide (s.lender = []))) || ((!decide (s.kind = 4) && !decide (s.kind = 5)) && !decide (s.due = 0))) =
      ((((!validB r || !inI s.kind 1 10) || (!decide (s.kind = 1) && !decide (s.lender = []))) || (!(decide (s.kind = 4) || decide (s.kind = 5)) && !decide (s.due = 0)))) := by
    rw [← inI_eq]; simp only [Bool.or_assoc, Bool.not_or]
  unfold rcheckI doI
  rw [hA]
  split; · rfl
  rename_i h1
  split; · rfl
  rename_i h2
  split; · rfl
  rename_i h3
  have hv : validB r = true := pv (by simpa only [Bool.not_eq_true] using h1)
  have ok := validB_ok hv
  have ot := ok.tm
  have key : rRef r s = refusedI r s := by
    unfold rRef refusedI
    by_cases k1 : s.kind = 1
    · simp [k1]
    by_cases k2 : s.kind = 2
    · simp [k2]
    by_cases k5 : s.kind = 5
    · simp [k5]
    by_cases k4 : s.kind = 4
    · obtain ⟨d, n⟩ := valid_shipped hv (shipped_of (by rw [k4] at h2; simpa using h2))
      simp only [k4, d, n]
      simp at h3
      by_cases q : s.due ≤ s.tm
      · simp [q]
      · have : ¬ s.due ≤ 0 := by omega
        simp [q, this]
    simp [k1, k2, k4, k5]
  rw [key]
  split
  · rfl
  · rename_i h; simpa using h
theorem do_zero {r : Req} {s : Stp} (h : (!decide ((doI r s).2 = 0)) = true) : (doI r s).1 = zeroReq := by
  unfold doI at h ⊢
  split; · rfl
  split; · rfl
  split; · rfl
  split; · rfl
  rename_i h1 h2 h3 h4
  simp only [if_neg h1, if_neg h2, if_neg h3, if_neg h4] at h; simp at h


end Go.Proofs.Ytciojlggdnmncaa.Ab
