/- When a list of works is valid, both ways. Few works; their copies; the work and the edition of a record, both ways. Which works are touched, both ways. The law of works' forms, in plain Lean. Conditions: none. -/
import Derived.Test.YtlbiooppadlolaaGreatDoorUb
section
namespace Go.Proofs.YtlbiooppadlolaaGreatDoor.Ab.U
open Go

/-- Few works. -/
structure FewW (a : List SWork) : Prop where
  l : a.length ≤ 10
  w : ∀ x ∈ a, Bw x

def recs (a : List SWork) (i : Nat) : List Int := ((a.take i).map SWork.fRecords).flatten
theorem recs_snoc {a : List SWork} {i : Nat} (h : i < a.length) : recs a (i + 1) = recs a i ++ a[i].fRecords := by
  unfold recs
  rw [take_snocL h, List.map_append, List.flatten_append]; simp only [List.map_cons, List.map_nil, List.flatten_cons, List.flatten_nil, List.append_nil]
theorem recs_len {a : List SWork} (hb : FewW a) (i : Nat) : (recs a i).length ≤ 120 := by
  have := flat_len (E := (a.take i).map SWork.fRecords) (c := 12) fun y hy => by
    obtain ⟨w, hw, rfl⟩ := List.mem_map.1 hy
    exact (hb.w w (List.mem_of_mem_take hw)).r
  have h2 : ((a.take i).map SWork.fRecords).length ≤ 10 := by rw [List.length_map, List.length_take]; have := hb.l; omega
  unfold recs; omega

def oldB (a : List SWork) (i : Nat) : Bool := decide (0 < i) && decide ((a.getD i default).fID ≤ (a.getD (i - 1) default).fID)
def badW (a : List SWork) (i : Nat) : Bool := (!wv (a.getD i default) || oldB a i) || anyN (a.getD i default).fRecords.length (dupB (recs a i) (a.getD i default).fRecords)
def VW (a : List SWork) : Bool := !anyN a.length (badW a)

theorem seen_ok {w : SWork} (hb : Bw w) (s : List Int) : iter FU (fun t => m_work_Valid_L2 FU w t.1 t.2) ((0 : Int), seenM s) = some (if anyN w.fRecords.length (dupB s w.fRecords) = true then .inl false else .inr (seenM (s ++ w.fRecords))) := by
  have hr := hb.r
  refine iter_st (f := fun t => m_work_Valid_L2 FU w t.1 t.2) (fun j => ((j : Int), seenM (s ++ w.fRecords.take j))) (dupB s w.fRecords) (.inl false) _ w.fRecords.length (by simp) (by simp only [FU]; omega) (fun j hj _ => ?_) (fun _ => by simp [m_work_Valid_L2])
  simp only [m_work_Valid_L2]
  rw [if_pos (decide_eq_true (by omega)), ixL hj, Option.bind_some, wadd1 hj (by simp only [ML]; omega), seen_has]
  unfold dupB
  rw [getD_at hj, take_snocL hj, ← List.append_assoc, seenM_snoc]
  cases decide (w.fRecords[j] ∈ s ++ w.fRecords.take j) <;> rfl

theorem Valid_ok {a : List SWork} (hb : FewW a) : m_work_Valid FU a = some (VW a) := by
  have hl := hb.l
  have q : iter FU (fun t => m_work_Valid_L1 FU a t.1 t.2) ((0 : Int), []) = some (if anyN a.length (badW a) = true then .inl false else .inr (seenM (recs a a.length))) := by
    refine iter_st (f := fun t => m_work_Valid_L1 FU a t.1 t.2) (fun j => ((j : Int), seenM (recs a j))) (badW a) (.inl false) _ a.length rfl (by simp only [FU]; omega) (fun j hj _ => ?_) (fun _ => by simp [m_work_Valid_L1])
    have hw := hb.w _ (List.getElem_mem hj)
    simp only [m_work_Valid_L1]
    rw [if_pos (decide_eq_true (by omega)), ixL hj, Option.bind_some, valid_ok hw, Option.bind_some, wadd1 hj (by simp only [ML]; omega)]
    unfold badW oldB
    rw [getD_at hj]
    have tail : ∀ B : Bool, (if B = true then some (Sum.inr (Sum.inl false)) else (iter FU (fun s => m_work_Valid_L2 FU a[j] s.1 s.2) ((0 : Int), seenM (recs a j))).bind fun t7 => match t7 with | (.inl u8) => some (.inr (.inl u8)) | (.inr u9) => some (.inl (((j + 1 : Nat) : Int), u9))) =
        (some (if (B || anyN a[j].fRecords.length (dupB (recs a j) a[j].fRecords)) = true then Sum.inr (Sum.inl false) else Sum.inl (((j + 1 : Nat) : Int), seenM (recs a (j + 1)))) : Option (_ ⊕ (Bool ⊕ List (Int × Bool)))) := fun B => by
      rw [seen_ok hw, recs_snoc hj]
      cases B with
      | true => rfl
      | false => cases anyN a[j].fRecords.length (dupB (recs a j) a[j].fRecords) <;> rfl
    by_cases h0 : 0 < j
    · have hj1 : j - 1 < a.length := by omega
      rw [wsub1 h0 (by simp only [ML]; omega), ixL hj1, getD_at hj1, decide_eq_true h0, decide_eq_true (show (0 : Int) < (j : Int) by omega)]
      cases wv a[j] with
      | true =>
        simp only [Bool.not_true, Bool.not_false, Bool.and_self, if_true, Option.bind_some, Bool.false_or, Bool.true_and]
        exact tail _
      | false => simp
    · rw [decide_eq_false h0, decide_eq_false (show ¬ (0 : Int) < (j : Int) by omega)]
      cases wv a[j] with
      | true =>
        simp only [Bool.not_true, Bool.not_false, Bool.and_false, Bool.false_eq_true, if_false, Option.bind_some, Bool.false_and, Bool.or_self]
        exact tail false
      | false => simp
  unfold m_work_Valid VW
  rw [q]
  cases anyN a.length (badW a) <;> rfl

/-! ### the reference's way -/
section
variable {a : List SWork} {i : Nat}
theorem rL2 (hb : FewW a) (hi : i < a.length) {s : List Int} (hs : s.length ≤ 1000) : iter FU (fun t => m_ref35_Valid_L2 FU a (i : Int) t.1 t.2) (s, (0 : Int)) = some (if anyN a[i].fRecords.length (dupB s a[i].fRecords) = true then .inl false else .inr (s ++ a[i].fRecords)) := by
  have hr := (hb.w _ (List.getElem_mem hi)).r
  refine iter_st (f := fun t => m_ref35_Valid_L2 FU a (i : Int) t.1 t.2) (fun j => (s ++ a[i].fRecords.take j, (j : Int))) (dupB s a[i].fRecords) (.inl false) _ a[i].fRecords.length (by simp) (by simp only [FU]; omega) (fun j hj _ => ?_) (fun _ => by simp [m_ref35_Valid_L2, ixL hi])
  simp only [m_ref35_Valid_L2]
  have hlen : (s ++ a[i].fRecords.take j).length ≤ 1012 := by rw [List.length_append, List.length_take]; omega
  rw [ixL hi, Option.bind_some, if_pos (decide_eq_true (by omega)), Option.bind_some, ixL hj, Option.bind_some, wadd1 hj (by simp only [ML]; omega), has_ok (by omega), Option.bind_some]
  unfold dupB
  rw [getD_at hj, take_snocL hj, ← List.append_assoc]
  have happ : app 8 (s ++ a[i].fRecords.take j) [a[i].fRecords[j]] = some (s ++ a[i].fRecords.take j ++ [a[i].fRecords[j]]) := app_one (by omega) (by omega)
  simp only [Option.bind_some, ixL hj, happ]
  cases decide (a[i].fRecords[j] ∈ s ++ a[i].fRecords.take j) <;> rfl

theorem rL4 (hb : FewW a) (hi : i < a.length) {s x : List Int} (hs : s.length ≤ 1000) (hx : x.length ≤ 12) : iter FU (fun t => m_ref35_Valid_L4 FU a (i : Int) x t.1 t.2) (s, (0 : Int)) = some (if anyN x.length (inW s x a[i].fRecords) = true then .inl false else .inr (s ++ x)) := by
  have hr := (hb.w _ (List.getElem_mem hi)).r
  refine iter_st (f := fun t => m_ref35_Valid_L4 FU a (i : Int) x t.1 t.2) (fun j => (s ++ x.take j, (j : Int))) (inW s x a[i].fRecords) (.inl false) _ x.length (by simp) (by simp only [FU]; omega) (fun j hj _ => ?_) (fun _ => by simp [m_ref35_Valid_L4])
  simp only [m_ref35_Valid_L4]
  have hlen : (s ++ x.take j).length ≤ 1012 := by rw [List.length_append, List.length_take]; omega
  rw [if_pos (decide_eq_true (by omega)), ixL hj, Option.bind_some, wadd1 hj (by simp only [ML]; omega), has_ok (by omega), Option.bind_some, ixL hi]
  unfold inW dupB
  rw [getD_at hj, take_snocL hj, ← List.append_assoc]
  have happ : app 8 (s ++ x.take j) [x[j]] = some (s ++ x.take j ++ [x[j]]) := app_one (by omega) (by omega)
  cases decide (x[j] ∈ s ++ x.take j) with
  | true => simp
  | false =>
    simp only [Bool.not_false, if_true, Option.bind_some, happ, has_ok (show a[i].fRecords.length ≤ 1000000 by omega), Bool.false_or]
    cases decide (x[j] ∈ a[i].fRecords) <;> rfl

theorem rL3 (hb : FewW a) (hi : i < a.length) : iter FU (fun t => m_ref35_Valid_L3 FU a (i : Int) t.1 t.2) (([] : List Int), (0 : Int)) =
    some (if anyN a[i].fEditions.length (fun k => edBad a[i].fEditions k || anyN (a[i].fEditions.getD k []).length (inW (a[i].fEditions.take k).flatten (a[i].fEditions.getD k []) a[i].fRecords)) = true then .inl false else .inr a[i].fEditions.flatten) := by
  have hw := hb.w _ (List.getElem_mem hi)
  have hE := hw.e
  refine iter_st (f := fun t => m_ref35_Valid_L3 FU a (i : Int) t.1 t.2) (fun j => ((a[i].fEditions.take j).flatten, (j : Int))) (fun k => edBad a[i].fEditions k || anyN (a[i].fEditions.getD k []).length (inW (a[i].fEditions.take k).flatten (a[i].fEditions.getD k []) a[i].fRecords)) (.inl false) _ a[i].fEditions.length rfl (by simp only [FU]; omega) (fun j hj hbad => ?_) (fun _ => by simp [m_ref35_Valid_L3, ixL hi])
  have hlen : a[i].fEditions[j].length ≤ 12 := hw.x _ (List.getElem_mem hj)
  have hfl := flat_take hw.x j
  simp only [m_ref35_Valid_L3]
  rw [ixL hi, Option.bind_some, if_pos (decide_eq_true (by omega)), Option.bind_some, ixL hj, Option.bind_some, rasc_ok (by omega), Option.bind_some, wadd1 hj (by simp only [ML]; omega)]
  unfold edBad
  rw [getD_at hj]
  have tail : ∀ B : Bool, (if B = true then some (Sum.inr (Sum.inl false)) else (iter FU (fun s => m_ref35_Valid_L4 FU a (i : Int) a[i].fEditions[j] s.1 s.2) ((a[i].fEditions.take j).flatten, (0 : Int))).bind fun t24 => match t24 with | (.inl u25) => some (.inr (.inl u25)) | (.inr u26) => some (.inl (u26, ((j + 1 : Nat) : Int)))) =
      (some (if (B || anyN a[i].fEditions[j].length (inW (a[i].fEditions.take j).flatten a[i].fEditions[j] a[i].fRecords)) = true then Sum.inr (Sum.inl false) else Sum.inl ((a[i].fEditions.take (j + 1)).flatten, ((j + 1 : Nat) : Int))) : Option (_ ⊕ (Bool ⊕ List Int))) := fun B => by
    rw [rL4 hb hi (by omega) hlen, flat_snoc hj]
    cases B with
    | true => rfl
    | false => cases anyN a[i].fEditions[j].length (inW (a[i].fEditions.take j).flatten a[i].fEditions[j] a[i].fRecords) <;> rfl
  cases hA : ascB a[i].fEditions[j] with
  | false => simp
  | true =>
    have hp := (ascB_spec hA).2
    by_cases h0 : 0 < j
    · have hj1 : j - 1 < a[i].fEditions.length := by omega
      have hA1 : ascB a[i].fEditions[j - 1] = true := by
        have := hbad (j - 1) (by omega)
        unfold edBad at this
        rw [getD_at hj1] at this
        simp only [Bool.or_eq_false_iff, Bool.not_eq_false'] at this
        exact this.1.1
      have hp1 := (ascB_spec hA1).2
      rw [wsub1 h0 (by simp only [ML]; omega), getD_at hj1, decide_eq_true h0, decide_eq_true (show (0 : Int) < (j : Int) by omega), ix0 hp]
      simp only [Bool.not_true, Bool.not_false, Bool.and_self, if_true, Option.bind_some, ixL hj1, ix0 hp1, Bool.false_or, Bool.true_and]
      exact tail _
    · rw [decide_eq_false h0, decide_eq_false (show ¬ (0 : Int) < (j : Int) by omega)]
      simp only [Bool.not_true, Bool.not_false, Bool.and_false, Bool.false_eq_true, if_false, Option.bind_some, Bool.false_and, Bool.or_self]
      exact tail false
end

theorem rValid_ok {a : List SWork} (hb : FewW a) : m_ref35_Valid FU a = some (VW a) := by
  have hl := hb.l
  have q : iter FU (fun t => m_ref35_Valid_L1 FU a t.1 t.2) (([] : List Int), (0 : Int)) = some (if anyN a.length (badW a) = true then .inl false else .inr (recs a a.length)) := by
    refine iter_st (f := fun t => m_ref35_Valid_L1 FU a t.1 t.2) (fun j => (recs a j, (j : Int))) (badW a) (.inl false) _ a.length rfl (by simp only [FU]; omega) (fun j hj _ => ?_) (fun _ => by simp [m_ref35_Valid_L1])
    have hw := hb.w _ (List.getElem_mem hj)
    have hrl := recs_len hb j
    have hrr := hw.r
    simp only [m_ref35_Valid_L1]
    rw [if_pos (decide_eq_true (by omega)), ixL hj, Option.bind_some, rasc_ok (by omega), Option.bind_some, wadd1 hj (by simp only [ML]; omega)]
    unfold badW oldB
    rw [getD_at hj, wv_wr]
    unfold wr
    have tail : ∀ B : Bool, (if B = true then some (Sum.inr (Sum.inl false)) else (iter FU (fun s => m_ref35_Valid_L2 FU a (j : Int) s.1 s.2) (recs a j, (0 : Int))).bind fun t11 => match t11 with
        | (.inl u12) => some (.inr (.inl u12))
        | (.inr u13) => (iter FU (fun s => m_ref35_Valid_L3 FU a (j : Int) s.1 s.2) ([], (0 : Int))).bind fun t14 => match t14 with
          | (.inl u15) => some (.inr (.inl u15))
          | (.inr u16) => if (!decide ((u16.length : Int) = (a[j].fRecords.length : Int))) = true then some (.inr (.inl false)) else some (.inl (u13, ((j + 1 : Nat) : Int)))) =
        (some (if (((B || anyN a[j].fRecords.length (dupB (recs a j) a[j].fRecords)) || anyN a[j].fEditions.length (fun k => edBad a[j].fEditions k || anyN (a[j].fEditions.getD k []).length (inW (a[j].fEditions.take k).flatten (a[j].fEditions.getD k []) a[j].fRecords))) || !decide (a[j].fEditions.flatten.length = a[j].fRecords.length)) = true then Sum.inr (Sum.inl false) else Sum.inl (recs a (j + 1), ((j + 1 : Nat) : Int))) : Option (_ ⊕ (Bool ⊕ List Int))) := fun B => by
      rw [rL2 hb hj (by omega), rL3 hb hj, recs_snoc hj]
      cases B with
      | true => rfl
      | false =>
        cases anyN a[j].fRecords.length (dupB (recs a j) a[j].fRecords) with
        | true => rfl
        | false =>
          simp only [Bool.false_or, Bool.false_eq_true, if_false, Option.bind_some]
          cases anyN a[j].fEditions.length (fun k => edBad a[j].fEditions k || anyN (a[j].fEditions.getD k []).length (inW (a[j].fEditions.take k).flatten (a[j].fEditions.getD k []) a[j].fRecords)) with
          | true => rfl
          | false =>
            simp only [Bool.false_or, Bool.false_eq_true, if_false, Int.natCast_inj]
            cases decide (a[j].fEditions.flatten.length = a[j].fRecords.length) <;> rfl
    cases hA : ascB a[j].fRecords with
    | false => simp
    | true =>
      have hp := (ascB_spec hA).2
      have hid : decide (a[j].fID = a[j].fRecords.getD 0 0) = decide (a[j].fRecords.getD 0 0 = a[j].fID) := by rw [Bool.eq_iff_iff]; simp only [decide_eq_true_eq]; exact eq_comm
      simp only [Bool.not_true, Bool.not_false, if_true, Option.bind_some, ix0 hp, Bool.false_or, Bool.true_and, hid]
      cases hD : decide (a[j].fRecords.getD 0 0 = a[j].fID) with
      | false => simp
      | true =>
        simp only [Bool.not_true, Bool.not_false, Bool.true_and, Bool.false_or]
        have fin : ∀ B : Bool, (((B || anyN a[j].fRecords.length (dupB (recs a j) a[j].fRecords)) || anyN a[j].fEditions.length (fun k => edBad a[j].fEditions k || anyN (a[j].fEditions.getD k []).length (inW (a[j].fEditions.take k).flatten (a[j].fEditions.getD k []) a[j].fRecords))) || !decide (a[j].fEditions.flatten.length = a[j].fRecords.length)) =
            ((!(!anyN a[j].fEditions.length (fun k => edBad a[j].fEditions k || anyN (a[j].fEditions.getD k []).length (inW (a[j].fEditions.take k).flatten (a[j].fEditions.getD k []) a[j].fRecords)) && decide (a[j].fEditions.flatten.length = a[j].fRecords.length)) || B) || anyN a[j].fRecords.length (dupB (recs a j) a[j].fRecords)) := fun B => by
          generalize anyN a[j].fEditions.length (fun k => edBad a[j].fEditions k || anyN (a[j].fEditions.getD k []).length (inW (a[j].fEditions.take k).flatten (a[j].fEditions.getD k []) a[j].fRecords)) = x1
          generalize anyN a[j].fRecords.length (dupB (recs a j) a[j].fRecords) = x2
          generalize decide (a[j].fEditions.flatten.length = a[j].fRecords.length) = x3
          cases B <;> cases x1 <;> cases x2 <;> cases x3 <;> rfl
        by_cases h0 : 0 < j
        · have hj1 : j - 1 < a.length := by omega
          rw [wsub1 h0 (by simp only [ML]; omega), ixL hj1, getD_at hj1, decide_eq_true h0, decide_eq_true (show (0 : Int) < (j : Int) by omega)]
          simp only [Bool.and_self, if_true, Option.bind_some, Bool.true_and]
          rw [← fin]
          exact tail _
        · rw [decide_eq_false h0, decide_eq_false (show ¬ (0 : Int) < (j : Int) by omega)]
          simp only [Bool.and_false, Bool.false_eq_true, if_false, Option.bind_some, Bool.false_and]
          rw [← fin]
          exact tail false
  unfold m_ref35_Valid VW
  rw [q]
  cases anyN a.length (badW a) <;> rfl
end Go.Proofs.YtlbiooppadlolaaGreatDoor.Ab.U
end
section
namespace Go.Proofs.YtlbiooppadlolaaGreatDoor.Ab.U
open Go

/-! ### few works -/
def fewE (w : SWork) : Bool := anyN w.fEditions.length fun k => decide (12 < (w.fEditions.getD k []).length)
def fewB (w : SWork) : Bool := (decide (12 < w.fRecords.length) || decide (12 < w.fEditions.length)) || fewE w
theorem few_L2 {a : List SWork} {i : Nat} (hi : i < a.length) (he : a[i].fEditions.length ≤ 12) : iter FU (fun s => m_ref35_Few_L2 FU a (i : Int) s) 0 = some (if fewE a[i] = true then .inl false else .inr ()) := by
  refine iter_any (f := fun s => m_ref35_Few_L2 FU a (i : Int) s) a[i].fEditions.length FU (fun k => decide (12 < (a[i].fEditions.getD k []).length)) (.inl false) (.inr ()) (fun j hj => ?_) (by simp [m_ref35_Few_L2, ixL hi]) (by simp only [FU]; omega)
  simp only [m_ref35_Few_L2]
  rw [ixL hi, Option.bind_some, if_pos (decide_eq_true (by omega)), Option.bind_some, ixL hj, Option.bind_some, wadd1 hj (by simp only [ML]; omega), getD_at hj]
  by_cases h : 12 < a[i].fEditions[j].length
  · rw [if_pos (decide_eq_true (by omega)), if_pos (decide_eq_true h)]
  · rw [if_neg (by simp; omega), if_neg (by simp; omega)]
theorem few_ok {a : List SWork} (ha : a.length ≤ 9223372036854775807) : ∃ b, m_ref35_Few FU a = some b ∧ (b = true → FewW a) := by
  have q : iter FU (fun s => m_ref35_Few_L1 FU a s) 0 = some (if anyN a.length (fun i => fewB (a.getD i default)) = true then .inl false else .inr ()) := by
    refine iter_any (f := fun s => m_ref35_Few_L1 FU a s) a.length FU (fun i => fewB (a.getD i default)) (.inl false) (.inr ()) (fun j hj => ?_) (by simp [m_ref35_Few_L1]) (by simp only [FU]; omega)
    simp only [m_ref35_Few_L1]
    rw [if_pos (decide_eq_true (by omega)), ixL hj, Option.bind_some, wadd1 hj (by simp only [ML]; omega), getD_at hj]
    unfold fewB
    by_cases h1 : 12 < a[j].fRecords.length
    · rw [decide_eq_true (show (12 : Int) < (a[j].fRecords.length : Int) by omega), decide_eq_true h1]; rfl
    · rw [decide_eq_false (show ¬ (12 : Int) < (a[j].fRecords.length : Int) by omega), decide_eq_false h1]
      simp only [Bool.not_false, if_true, Option.bind_some, Bool.false_or]
      by_cases h2 : 12 < a[j].fEditions.length
      · rw [decide_eq_true (show (12 : Int) < (a[j].fEditions.length : Int) by omega), decide_eq_true h2]; rfl
      · rw [decide_eq_false (show ¬ (12 : Int) < (a[j].fEditions.length : Int) by omega), decide_eq_false h2, few_L2 hj (by omega)]
        cases fewE a[j] <;> rfl
  unfold m_ref35_Few
  rw [q]
  cases hA : anyN a.length (fun i => fewB (a.getD i default)) with
  | true => exact ⟨false, rfl, fun h => by cases h⟩
  | false =>
    refine ⟨decide ((a.length : Int) ≤ 10), rfl, fun h => ⟨by have := of_decide_eq_true h; omega, fun x hx => ?_⟩⟩
    obtain ⟨i, hi, rfl⟩ := List.getElem_of_mem hx
    have h1 := anyN_f.1 hA i hi
    rw [getD_at hi] at h1
    simp only [fewB, fewE, Bool.or_eq_false_iff, decide_eq_false_iff_not, Nat.not_lt] at h1
    refine ⟨h1.1.1, h1.1.2, fun y hy => ?_⟩
    obtain ⟨k, hk, rfl⟩ := List.getElem_of_mem hy
    have h2 := anyN_f.1 h1.2 k hk
    rw [getD_at hk] at h2
    simpa using h2

/-! ### copies -/
theorem own_ok {a : List SWork} (hb : FewW a) : m_law35_Own FU a = some a := by
  have hl := hb.l
  unfold m_law35_Own
  rw [iter_sm (f := fun s => m_law35_Own_L1 FU a s.1 s.2) (s0 := (([] : List SWork), (0 : Int))) (fun j => (a.take j, (j : Int))) a a.length (by simp) (by simp only [FU]; omega) (fun j hj => ?_) (by simp [m_law35_Own_L1])]
  · rfl
  · simp only [m_law35_Own_L1]
    rw [if_pos (decide_eq_true (by omega)), ixL hj, Option.bind_some, wadd1 hj (by simp only [ML]; omega), take_snocL hj, app_one (by rw [List.length_take]; omega) (by rw [List.length_take]; omega)]
    rfl
theorem clone_ok {l : List Int} (hl : l.length ≤ 1000000) : m_slices_Clone_int_int FU l = some l := by
  unfold m_slices_Clone_int_int
  rw [app_eq (by simp; omega) (by simp; omega)]; rfl
theorem setI_self {α : Type} {l : List α} {j : Nat} (h : j < l.length) : setI l (j : Int) l[j] = some l := by
  unfold setI
  rw [if_pos ⟨by omega, by omega⟩, Int.toNat_natCast, List.set_getElem_self]
theorem cloned_ok {w : SWork} (hb : Bw w) : m_work_cloned FU w = some w := by
  have hr := hb.r; have he := hb.e
  unfold m_work_cloned m_slices_Clone_int_intx
  rw [clone_ok (by omega), Option.bind_some, app_eq (by simp; omega) (by simp; omega)]
  simp only [Option.bind_some, List.nil_append]
  rw [iter_sm (f := fun s => m_work_cloned_L1 FU w.fEditions s.1 s.2) (s0 := ((0 : Int), w.fEditions)) (fun j => ((j : Int), w.fEditions)) w.fEditions w.fEditions.length rfl (by simp only [FU]; omega) (fun j hj => ?_) (by simp [m_work_cloned_L1])]
  · rfl
  · have := hb.x _ (List.getElem_mem hj)
    simp only [m_work_cloned_L1]
    rw [if_pos (decide_eq_true (by omega)), ixL hj, Option.bind_some, Option.bind_some, clone_ok (by omega), Option.bind_some, Option.bind_some, setI_self hj, wadd1 hj (by simp only [ML]; omega)]
    rfl
theorem copy_ok {w : SWork} (hb : Bw w) : m_ref35_Copy FU w = some w := by
  have hr := hb.r; have he := hb.e
  unfold m_ref35_Copy
  rw [app_eq (by simp; omega) (by simp; omega), Option.bind_some]
  rw [iter_sm (f := fun s => m_ref35_Copy_L1 FU w s.1 s.2) (s0 := ((0 : Int), ([] : List (List Int)))) (fun j => ((j : Int), w.fEditions.take j)) w.fEditions w.fEditions.length rfl (by simp only [FU]; omega) (fun j hj => ?_) (by simp [m_ref35_Copy_L1])]
  · rfl
  · have := hb.x _ (List.getElem_mem hj)
    simp only [m_ref35_Copy_L1]
    rw [if_pos (decide_eq_true (by omega)), ixL hj, Option.bind_some, app_eq (by simp; omega) (by simp; omega), Option.bind_some, wadd1 hj (by simp only [ML]; omega), take_snocL hj, app_one (by rw [List.length_take]; omega) (by rw [List.length_take]; omega)]
    rfl

/-! ### the work of a record -/
def no0 : SWork × Bool := (⟨0, [], []⟩, false)
def fnd (a : List SWork) (x : Int) : SWork × Bool := if VW a = true then (match a.find? (fun w => decide (x ∈ w.fRecords)) with | some w => (w, true) | none => no0) else no0
theorem find_ok {a : List SWork} {x : Int} (hb : FewW a) : m_work_Find FU a x = some (fnd a x) := by
  have hl := hb.l
  unfold m_work_Find fnd
  rw [Valid_ok hb, Option.bind_some]
  cases VW a with
  | false => rfl
  | true =>
    rw [iter_find (f := fun s => m_work_Find_L1 FU a x s) a (fun w => decide (x ∈ w.fRecords)) (fun w => .inl (w, true)) (.inr ()) (by simp only [FU]; omega) (fun j hj => ?_) (by simp [m_work_Find_L1])]
    · cases a.find? (fun w => decide (x ∈ w.fRecords)) <;> rfl
    · have hw := hb.w _ (List.getElem_mem hj)
      have := hw.r
      simp only [m_work_Find_L1]
      rw [if_pos (decide_eq_true (by omega)), ixL hj, Option.bind_some, contains_ok (by omega), Option.bind_some, cloned_ok hw, wadd1 hj (by simp only [ML]; omega)]
      cases decide (x ∈ a[j].fRecords) <;> rfl
theorem rfind_ok {a : List SWork} {x : Int} (hb : FewW a) : m_ref35_Find FU a x = some (fnd a x) := by
  have hl := hb.l
  unfold m_ref35_Find fnd
  cases hV : VW a with
  | false =>
    rw [iter_sm (f := fun s => m_ref35_Find_L1 FU a x s) (s0 := (0 : Int)) (fun _ => 0) (.inr ()) 0 rfl (by simp only [FU]; omega) (fun j hj => absurd hj (Nat.not_lt_zero _)) ?_]
    · rfl
    · simp only [m_ref35_Find_L1]
      rw [rValid_ok hb, hV]
      by_cases h : (0 : Int) < (a.length : Int)
      · rw [decide_eq_true h]; rfl
      · rw [decide_eq_false h]; rfl
  | true =>
    rw [iter_find (f := fun s => m_ref35_Find_L1 FU a x s) a (fun w => decide (x ∈ w.fRecords)) (fun w => .inl (w, true)) (.inr ()) (by simp only [FU]; omega) (fun j hj => ?_) (by simp [m_ref35_Find_L1])]
    · cases a.find? (fun w => decide (x ∈ w.fRecords)) <;> rfl
    · have hw := hb.w _ (List.getElem_mem hj)
      have := hw.r
      simp only [m_ref35_Find_L1]
      rw [decide_eq_true (show (j : Int) < (a.length : Int) by omega), rValid_ok hb, hV]
      simp only [if_true, Option.bind_some, Bool.and_self]
      rw [ixL hj, Option.bind_some, has_ok (by omega), Option.bind_some, Option.bind_some, copy_ok hw, wadd1 hj (by simp only [ML]; omega)]
      cases decide (x ∈ a[j].fRecords) <;> rfl
theorem fnd_bw {a : List SWork} {x : Int} (hb : FewW a) : Bw (fnd a x).1 := by
  have h0 : Bw no0.1 := ⟨Nat.zero_le _, Nat.zero_le _, fun y hy => by cases hy⟩
  unfold fnd
  split
  · cases h : a.find? (fun w => decide (x ∈ w.fRecords)) with
    | none => exact h0
    | some w => exact hb.w w (List.mem_of_find?_eq_some h)
  · exact h0

/-! ### the edition of a record -/
def edn (x : Int) (v : SWork × Bool) (b : Bool) : List Int × Bool := match v.1.fEditions.find? (fun e => decide (x ∈ e)) with | some e => (e, true) | none => ([], b)
theorem edition_ok {a : List SWork} {x : Int} (hb : FewW a) : m_work_Edition FU a x = some (edn x (fnd a x) false) := by
  have hw := fnd_bw (x := x) hb
  have he := hw.e
  unfold m_work_Edition edn
  rw [find_ok hb, Option.bind_some]
  rw [iter_find (f := fun s => m_work_Edition_L1 FU x (fnd a x) s) (fnd a x).1.fEditions (fun e => decide (x ∈ e)) (fun e => .inl (e, true)) (.inr ()) (by simp only [FU]; omega) (fun j hj => ?_) (by simp [m_work_Edition_L1])]
  · cases (fnd a x).1.fEditions.find? (fun e => decide (x ∈ e)) <;> rfl
  · have := hw.x _ (List.getElem_mem hj)
    simp only [m_work_Edition_L1]
    rw [if_pos (decide_eq_true (by omega)), ixL hj, Option.bind_some, contains_ok (by omega), Option.bind_some, wadd1 hj (by simp only [ML]; omega)]
    cases decide (x ∈ (fnd a x).1.fEditions[j]) <;> rfl
theorem redition_ok' {a : List SWork} {x : Int} (hb : FewW a) : m_ref35_Edition FU a x = some (edn x (fnd a x) (fnd a x).2) := by
  have hw := fnd_bw (x := x) hb
  have he := hw.e
  unfold m_ref35_Edition edn
  rw [rfind_ok hb, Option.bind_some]
  rw [iter_find (f := fun s => m_ref35_Edition_L1 FU x (fnd a x) s) (fnd a x).1.fEditions (fun e => decide (x ∈ e)) (fun e => .inl (e, true)) (.inr ()) (by simp only [FU]; omega) (fun j hj => ?_) (by simp [m_ref35_Edition_L1])]
  · cases (fnd a x).1.fEditions.find? (fun e => decide (x ∈ e)) <;> rfl
  · have := hw.x _ (List.getElem_mem hj)
    simp only [m_ref35_Edition_L1]
    rw [if_pos (decide_eq_true (by omega)), ixL hj, Option.bind_some, has_ok (by omega), Option.bind_some, Option.bind_some, wadd1 hj (by simp only [ML]; omega)]
    cases decide (x ∈ (fnd a x).1.fEditions[j]) <;> rfl
theorem VW_wv {a : List SWork} (h : VW a = true) {w : SWork} (hw : w ∈ a) : wv w = true := by
  obtain ⟨i, hi, rfl⟩ := List.getElem_of_mem hw
  have h1 : anyN a.length (badW a) = false := by simpa [VW] using h
  have h2 := anyN_f.1 h1 i hi
  unfold badW at h2
  rw [getD_at hi] at h2
  simp only [Bool.or_eq_false_iff, Bool.not_eq_false'] at h2
  exact h2.1.1
theorem wv_has {w : SWork} (h : wv w = true) {x : Int} (hx : x ∈ w.fRecords) : ∃ e ∈ w.fEditions, x ∈ e := by
  simp only [wv, Bool.and_eq_true, decide_eq_true_eq] at h
  have := h.2
  rw [← this, (isort_perm _ _).mem_iff] at hx
  exact List.mem_flatten.1 hx
theorem redition_ok {a : List SWork} {x : Int} (hb : FewW a) : m_ref35_Edition FU a x = some (edn x (fnd a x) false) := by
  rw [redition_ok' hb]
  unfold fnd
  by_cases hV : VW a = true
  · rw [if_pos hV]
    cases h : a.find? (fun w => decide (x ∈ w.fRecords)) with
    | none => rfl
    | some w =>
      have hx : x ∈ w.fRecords := by simpa using List.find?_some h
      obtain ⟨e, he, hxe⟩ := wv_has (VW_wv hV (List.mem_of_find?_eq_some h)) hx
      unfold edn
      dsimp only
      cases h2 : w.fEditions.find? (fun e => decide (x ∈ e)) with
      | some e => rfl
      | none => exact absurd (List.find?_eq_none.1 h2 e he) (by simp [hxe])
  · rw [if_neg hV]; rfl

/-! ### works that are the same -/
theorem work_eq {x y : SWork} : decide (x = y) = (decide (x.fID = y.fID) && (decide (x.fRecords = y.fRecords) && decide (x.fEditions = y.fEditions))) := by
  cases x; cases y
  rw [Bool.eq_iff_iff]
  simp only [SWork.mk.injEq, Bool.and_eq_true, decide_eq_true_eq]
theorem sameWork_ok {x y : SWork} (hb : Bw x) : m_ref35_SameWork FU x y = some (decide (x = y)) := by
  have hr := hb.r; have he := hb.e
  rw [work_eq]
  unfold m_ref35_SameWork
  cases decide (x.fID = y.fID) with
  | false => rfl
  | true =>
    simp only [Bool.not_true, Bool.not_false, if_true, Bool.false_or, Bool.true_and]
    rw [sameI_ok (by omega), Option.bind_some]
    cases decide (x.fRecords = y.fRecords) with
    | false => rfl
    | true =>
      simp only [Bool.not_true, Bool.false_or, Bool.true_and]
      exact same_gen (g := fun s => m_ref35_SameWork_L1 FU x y s) (by omega) (fun j h h2 => by
        have := hb.x _ (List.getElem_mem h)
        simp only [m_ref35_SameWork_L1]
        rw [if_pos (decide_eq_true (by omega)), ixL h, Option.bind_some, ixL h2, Option.bind_some, sameI_ok (by omega), Option.bind_some, wadd1 h (by simp only [ML]; omega)]
        by_cases e : x.fEditions[j] = y.fEditions[j]
        · rw [if_neg (by simp [e]), if_pos e]
        · rw [if_pos (by simp [e]), if_neg e]) (by simp [m_ref35_SameWork_L1])
theorem same_ok {x y : SWork} (hb : Bw x) : m_work_same FU x y = some (decide (x.fRecords = y.fRecords) && decide (x.fEditions = y.fEditions)) := by
  have hr := hb.r; have he := hb.e
  unfold m_work_same
  rw [equal_ok (by omega), Option.bind_some]
  cases decide (x.fRecords = y.fRecords) with
  | false => rfl
  | true =>
    rw [if_pos rfl, equalF_ok (by omega) (fun e hx f _ => equal_ok (by have := hb.x e hx; omega))]
    rfl
end Go.Proofs.YtlbiooppadlolaaGreatDoor.Ab.U
end
section
namespace Go.Proofs.YtlbiooppadlolaaGreatDoor.Ab.U
open Go

theorem t11_ok {x y : SWork} (hb : Bw y) : m_work_Touched_1_1 FU x y = some (decide (y = x)) := by
  rw [work_eq]
  unfold m_work_Touched_1_1
  cases decide (y.fID = x.fID) with
  | false => rfl
  | true => rw [if_pos rfl, same_ok hb]; rfl
theorem t1_ok {l : List SWork} {x : SWork} (hl : l.length ≤ 1000000) (hb : Bw x) : m_work_Touched_1 FU l x = some (decide (x ∈ l)) := by
  unfold m_work_Touched_1 m_slices_ContainsFunc_work_Work_work_Work m_slices_IndexFunc_work_Work_work_Work
  rcases iter_scan (f := fun s => m_slices_IndexFunc_work_Work_work_Work_L1 FU l (fun y1 => m_work_Touched_1_1 FU y1 x) s) l.length (fun j => decide (x = l.getD j default)) (fun j => .inl (j : Int)) (.inr ()) l.length 0 FU 0 (by omega) (fun j hj => by
    simp only [m_slices_IndexFunc_work_Work_work_Work_L1]
    rw [if_pos (decide_eq_true (by omega)), ix_get default hj, Option.bind_some, t11_ok hb, Option.bind_some, wadd1 hj (by simp only [ML]; omega)]
    split <;> rfl) (by simp [m_slices_IndexFunc_work_Work_work_Work_L1]) (by simp only [FU]; omega) rfl with ⟨i, _, h2, h3, _, h5⟩ | ⟨h1, h2⟩
  · rw [h5]
    simp only [Option.bind_some]
    have : x ∈ l := by
      have := of_decide_eq_true h3
      rw [this]; simp [h2]
    rw [decide_eq_true (by omega), decide_eq_true this]
  · rw [h2]
    simp only [Option.bind_some]
    have : x ∉ l := fun hm => by
      obtain ⟨i, hi, rfl⟩ := List.getElem_of_mem hm
      have := h1 i (by omega) hi
      simp [hi] at this
    rw [decide_eq_false (by omega), decide_eq_false this]

/-- The IDs of the works of a list that are not in another one. -/
def lone (a b : List SWork) : List Int := (a.filter fun w => !decide (w ∈ b)).map SWork.fID
theorem lone_snoc {a b : List SWork} {j : Nat} (h : j < a.length) : lone (a.take (j + 1)) b = if decide (a[j] ∈ b) = true then lone (a.take j) b else lone (a.take j) b ++ [a[j].fID] := by
  unfold lone
  rw [take_snocL h, List.filter_append, List.map_append]
  by_cases hm : a[j] ∈ b <;> simp [hm]
theorem lone_len (a b : List SWork) : (lone a b).length ≤ a.length := by
  unfold lone; rw [List.length_map]; exact List.length_filter_le _ _
def srt (l : List Int) : List Int := cmpct (isort intLt l)
theorem srt_asc (l : List Int) : AscI (srt l) := sorted_int l
theorem srt_mem {l : List Int} {y : Int} : y ∈ srt l ↔ y ∈ l := sorted_int_mem
theorem srt_ext {l k : List Int} (h : ∀ y, y ∈ l ↔ y ∈ k) : srt l = srt k := ascI_ext (srt_asc l) (srt_asc k) fun y => by rw [srt_mem, srt_mem]; exact h y
theorem srt_len (l : List Int) : (srt l).length ≤ l.length := Nat.le_trans (cmpct_len _) (Nat.le_of_eq (isort_len _ _))
def tch (a b : List SWork) : List Int := if (VW a && VW b) = true then srt (lone a b ++ lone b a) else []
theorem tch_comm (a b : List SWork) : tch a b = tch b a := by
  unfold tch
  rw [Bool.and_comm, srt_ext (k := lone b a ++ lone a b) fun y => by rw [List.mem_append, List.mem_append]; exact or_comm]
theorem tch_self (a : List SWork) : tch a a = [] := by
  have : lone a a = [] := by
    unfold lone
    rw [List.filter_eq_nil_iff.2 (fun w hw => by simp [hw])]; rfl
  unfold tch
  rw [this]
  split <;> rfl
theorem tch_len {a b : List SWork} (ha : FewW a) (hb : FewW b) : (tch a b).length ≤ 20 := by
  have h1 := lone_len a b; have h2 := lone_len b a
  have h3 := ha.l; have h4 := hb.l
  unfold tch
  split
  · have := srt_len (lone a b ++ lone b a)
    rw [List.length_append] at this; omega
  · exact Nat.zero_le _

theorem touched_ok {a b : List SWork} (ha : FewW a) (hb : FewW b) : m_work_Touched FU a b = some (tch a b) := by
  have hla := ha.l; have hlb := hb.l
  have q1 : iter FU (fun t => m_work_Touched_L1 FU a b t.1 t.2) ((0 : Int), ([] : List Int)) = some (lone a b) := by
    have := iter_sm (f := fun t => m_work_Touched_L1 FU a b t.1 t.2) (fun j => ((j : Int), lone (a.take j) b)) (lone a b) a.length (s0 := ((0 : Int), ([] : List Int))) rfl (by simp only [FU]; omega) (fun j hj => ?_) (by simp [m_work_Touched_L1])
    · exact this
    · have hw := ha.w _ (List.getElem_mem hj)
      have hln := lone_len (a.take j) b
      rw [List.length_take] at hln
      simp only [m_work_Touched_L1]
      rw [if_pos (decide_eq_true (by omega)), ixL hj, Option.bind_some, t1_ok (by omega) hw, Option.bind_some, wadd1 hj (by simp only [ML]; omega), lone_snoc hj, app_one (by omega) (by omega)]
      cases decide (a[j] ∈ b) <;> rfl
  have q2 : iter FU (fun t => m_work_Touched_L2 FU a b t.1 t.2) ((0 : Int), lone a b) = some (lone a b ++ lone b a) := by
    have hla2 := lone_len a b
    have := iter_sm (f := fun t => m_work_Touched_L2 FU a b t.1 t.2) (fun j => ((j : Int), lone a b ++ lone (b.take j) a)) (lone a b ++ lone b a) b.length (s0 := ((0 : Int), lone a b)) (by simp [lone]) (by simp only [FU]; omega) (fun j hj => ?_) (by simp [m_work_Touched_L2])
    · exact this
    · have hw := hb.w _ (List.getElem_mem hj)
      have hln := lone_len (b.take j) a
      rw [List.length_take] at hln
      simp only [m_work_Touched_L2]
      rw [if_pos (decide_eq_true (by omega)), ixL hj, Option.bind_some, t1_ok (by omega) hw, Option.bind_some, wadd1 hj (by simp only [ML]; omega), lone_snoc hj, app_one (by rw [List.length_append]; omega) (by rw [List.length_append]; omega)]
      cases decide (b[j] ∈ a)
      · simp
      · rfl
  unfold m_work_Touched tch
  rw [Valid_ok ha, Option.bind_some, Valid_ok hb]
  cases VW a with
  | false => rfl
  | true =>
    cases VW b with
    | false => rfl
    | true =>
      have h1 := lone_len a b; have h2 := lone_len b a
      have hs : m_slices_Sort_int_int FU (lone a b ++ lone b a) = some (isort intLt (lone a b ++ lone b a)) := by
        unfold m_slices_Sort_int_int
        rw [if_pos (by rw [List.length_append]; omega)]
      simp only [Bool.not_true, Bool.not_false, if_true, Option.bind_some, Bool.or_self, Bool.false_eq_true, if_false, Bool.and_self]
      rw [q1, Option.bind_some, q2, Option.bind_some, hs, Option.bind_some, compact_int (by rw [isort_len, List.length_append]; omega)]
      rfl

/-! ### the reference's way -/
theorem put_is {l : List Int} {a : Int} (hl : l.length ≤ 100000) : m_ref35_put FU (srt l) a = some (srt (l ++ [a])) := by
  obtain ⟨r, h1, h2, h3, _⟩ := put_ok (a := a) (srt_asc l) (Nat.le_trans (srt_len l) hl)
  rw [h1, ascI_ext h2 (srt_asc (l ++ [a])) fun y => by
    rw [h3, srt_mem, srt_mem, List.mem_append, List.mem_singleton]; exact or_comm]
theorem rL2A {a b : List SWork} {i : Nat} (ha : FewW a) (hb : FewW b) (hi : i < a.length) : iter FU (fun t => m_ref35_alone_L2 FU a b (i : Int) t.1 t.2) (false, (0 : Int)) = some (decide (a[i] ∈ b)) := by
  have hlb := hb.l
  refine iter_sm (f := fun t => m_ref35_alone_L2 FU a b (i : Int) t.1 t.2) (fun j => (decide (a[i] ∈ b.take j), (j : Int))) _ b.length (by simp) (by simp only [FU]; omega) (fun j hj => ?_) (by simp [m_ref35_alone_L2])
  simp only [m_ref35_alone_L2]
  have e : decide (a[i] ∈ b.take (j + 1)) = (decide (a[i] ∈ b.take j) || decide (a[i] = b[j])) := by
    rw [take_snocL hj, Bool.eq_iff_iff]
    simp only [List.mem_append, List.mem_singleton, Bool.or_eq_true, decide_eq_true_eq]
  rw [if_pos (decide_eq_true (by omega)), ixL hi, ixL hj, wadd1 hj (by simp only [ML]; omega), e]
  cases decide (a[i] ∈ b.take j) with
  | true => rfl
  | false =>
    simp only [Bool.not_false, if_true, Option.bind_some]
    rw [sameWork_ok (ha.w _ (List.getElem_mem hi))]
    rfl
theorem alone_ok {a b : List SWork} (ha : FewW a) (hb : FewW b) {s : List Int} (hs : s.length ≤ 1000) : m_ref35_alone FU a b (srt s) = some (srt (s ++ lone a b)) := by
  have hla := ha.l
  unfold m_ref35_alone
  rw [iter_sm (f := fun t => m_ref35_alone_L1 FU a b t.1 t.2) (s0 := (srt s, (0 : Int))) (fun j => (srt (s ++ lone (a.take j) b), (j : Int))) (srt (s ++ lone a b)) a.length (by simp [lone]) (by simp only [FU]; omega) (fun j hj => ?_) (by simp [m_ref35_alone_L1])]
  · rfl
  · have hln := lone_len (a.take j) b
    rw [List.length_take] at hln
    simp only [m_ref35_alone_L1]
    rw [if_pos (decide_eq_true (by omega)), rL2A ha hb hj, Option.bind_some, ixL hj, Option.bind_some, put_is (by rw [List.length_append]; omega), wadd1 hj (by simp only [ML]; omega), lone_snoc hj]
    cases decide (a[j] ∈ b)
    · simp [List.append_assoc]
    · rfl
theorem rtouched_ok {a b : List SWork} (ha : FewW a) (hb : FewW b) : m_ref35_Touched FU a b = some (tch a b) := by
  have hla := ha.l
  unfold m_ref35_Touched tch
  rw [rValid_ok ha, Option.bind_some, rValid_ok hb]
  cases VW a with
  | false => rfl
  | true =>
    cases VW b with
    | false => rfl
    | true =>
      have h1 := lone_len a b
      have q1 : m_ref35_alone FU a b [] = some (srt (lone a b)) := by
        have := alone_ok ha hb (s := []) (by simp)
        exact this
      simp only [Bool.not_true, Bool.not_false, if_true, Option.bind_some, Bool.or_self, Bool.false_eq_true, if_false, Bool.and_self]
      rw [q1, Option.bind_some, alone_ok hb ha (by omega)]
      rfl
end Go.Proofs.YtlbiooppadlolaaGreatDoor.Ab.U
end
section
namespace Go.Proofs.YtlbiooppadlolaaGreatDoor.Ab.U
open Go

section
variable {n : Nat} {a b : List SWork} {x : Int}
theorem forms0 (h : m_ref35_Few n a = some false) : m_law35_WorkForms n a b x = some true := by
  unfold m_law35_WorkForms
  simp [h]
theorem forms1 (h : m_ref35_Few n a = some true) (h2 : m_ref35_Few n b = some false) : m_law35_WorkForms n a b x = some true := by
  unfold m_law35_WorkForms
  simp [h, h2]
theorem forms2 {v : SWork × Bool} {e : List Int × Bool} {t : List Int} {c : Bool} (h : m_ref35_Few n a = some true) (h2 : m_ref35_Few n b = some true) (oa : m_law35_Own n a = some a) (ob : m_law35_Own n b = some b)
    (f1 : m_work_Find n a x = some v) (f2 : m_ref35_Find n a x = some v) (e1 : m_work_Edition n a x = some e) (e2 : m_ref35_Edition n a x = some e) (s1 : m_ref35_SameWork n v.1 v.1 = some true) (s2 : m_ref30_SameInts n e.1 e.1 = some true)
    (v1 : m_work_Valid n a = some c) (v2 : m_ref35_Valid n a = some c) (t1 : m_work_Touched n a b = some t) (t2 : m_ref35_Touched n a b = some t) (t3 : m_work_Touched n b a = some t) (t4 : m_work_Touched n a a = some []) (s3 : m_ref30_SameInts n t t = some true) :
    m_law35_WorkForms n a b x = some true := by
  unfold m_law35_WorkForms
  simp [h, h2, oa, ob, f1, f2, e1, e2, s1, s2, v1, v2, t1, t2, t3, t4, s3]
end

theorem plain_WorkForms {a b : List SWork} {x : Int} (ha : a.length ≤ 9223372036854775807) (hb : b.length ≤ 9223372036854775807) : m_law35_WorkForms FU a b x = some true := by
  obtain ⟨p, hp, hpa⟩ := few_ok ha
  obtain ⟨q, hq, hqb⟩ := few_ok hb
  cases p with
  | false => exact forms0 hp
  | true =>
    cases q with
    | false => exact forms1 hp hq
    | true =>
      have fa := hpa rfl
      have fb := hqb rfl
      have hbw := fnd_bw (x := x) fa
      have hel : (edn x (fnd a x) false).1.length ≤ 1000000 := by
        unfold edn
        cases h : (fnd a x).1.fEditions.find? (fun e => decide (x ∈ e)) with
        | none => exact Nat.zero_le _
        | some e => have := hbw.x e (List.mem_of_find?_eq_some h); dsimp only; omega
      have ht := tch_len fa fb
      have s1 : m_ref35_SameWork FU (fnd a x).1 (fnd a x).1 = some true := by rw [sameWork_ok hbw, decide_eq_true rfl]
      have s2 : m_ref30_SameInts FU (edn x (fnd a x) false).1 (edn x (fnd a x) false).1 = some true := by rw [sameI_ok hel, decide_eq_true rfl]
      have s3 : m_ref30_SameInts FU (tch a b) (tch a b) = some true := by rw [sameI_ok (by omega), decide_eq_true rfl]
      exact forms2 hp hq (own_ok fa) (own_ok fb) (find_ok fa) (rfind_ok fa) (edition_ok fa) (redition_ok fa) s1 s2 (Valid_ok fa) (rValid_ok fa) (touched_ok fa fb) (rtouched_ok fa fb)
        (by rw [touched_ok fb fa, tch_comm]) (by rw [touched_ok fa fa, tch_self]) s3
end Go.Proofs.YtlbiooppadlolaaGreatDoor.Ab.U
end
