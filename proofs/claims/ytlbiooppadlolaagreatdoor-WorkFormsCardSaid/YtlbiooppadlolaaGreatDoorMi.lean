/- The functions in plain Lean. Conditions: none. -/
import Derived.Test.YtlbiooppadlolaaGreatDoorAb55
set_option maxRecDepth 100000
namespace Go.Proofs.YtlbiooppadlolaaGreatDoor.Ab
open Go
attribute [local irreducible] AL AD AW nlO nlV nlD

noncomputable section
structure SWork where
  fID : Int
  fRecords : (List Int)
  fEditions : (List (List Int))
  deriving Inhabited, DecidableEq
def SWork.e (x : SWork) : D := .agg [(.int .i64 x.fID), (.sl (x.fRecords.map D.i)), (.sl (x.fEditions.map (esl D.i)))]
theorem enSWork : En SWork.e 3 := ⟨fun _ => rfl, fun x y hy => by
  have hy' : y ∈ [((.int .i64 x.fID) : D), ((.sl (x.fRecords.map D.i)) : D), ((.sl (x.fEditions.map (esl D.i))) : D)] := hy
  simp only [List.mem_cons, List.not_mem_nil, or_false] at hy'
  rcases hy' with rfl | rfl | rfl <;> rfl⟩

def m_work_ascending_L1 (n : Nat) (a1 : (List Int)) (s2 : Int) : Option (Int ⊕ (Bool ⊕ Unit)) :=
  if (decide (s2 < (a1.length : Int))) = true then
    (ix a1 s2).bind fun v3 =>
    ((if ((!((decide (v3 < (1 : Int))) || (decide ((1000000000 : Int) < v3)))) && (decide ((0 : Int) < s2))) = true then ix a1 (IntKind.i64.wrap (s2 - (1 : Int))) else some default)).bind fun v4 =>
    if (((decide (v3 < (1 : Int))) || (decide ((1000000000 : Int) < v3))) || ((decide ((0 : Int) < s2)) && (decide (v3 ≤ v4)))) = true then
      some (.inr (.inl false))
    else
    some (.inl (IntKind.i64.wrap (s2 + (1 : Int))))
  else
  some (.inr (.inr ()))

/-- bookplate/work.ascending -/
def m_work_ascending (n : Nat) (a1 : (List Int)) : Option Bool :=
  (iter n (fun s => m_work_ascending_L1 n a1 s) (0 : Int)).bind fun t2 => match t2 with
  | (.inl u3) =>
    some u3
  | (.inr u4) =>
    some (decide ((0 : Int) < (a1.length : Int)))

/-- slices.Sort -/
def m_slices_Sort_int_int (_n : Nat) (c1 : List Int) : Option (List Int) := if c1.length < 4611686018427387904 then some (isort intLt c1) else none

def m_slices_Equal_int_int_L1 (n : Nat) (a1 : (List Int)) (a2 : (List Int)) (s3 : Int) : Option (Int ⊕ (Bool ⊕ Unit)) :=
  if (decide (s3 < (a1.length : Int))) = true then
    (ix a1 s3).bind fun v4 =>
    (ix a2 s3).bind fun v5 =>
    if (!decide (v4 = v5)) = true then
      some (.inr (.inl false))
    else
    some (.inl (IntKind.i64.wrap (s3 + (1 : Int))))
  else
  some (.inr (.inr ()))

/-- slices.Equal[[]int,int] -/
def m_slices_Equal_int_int (n : Nat) (a1 : (List Int)) (a2 : (List Int)) : Option Bool :=
  if (!decide ((a1.length : Int) = (a2.length : Int))) = true then
    some false
  else
  (iter n (fun s => m_slices_Equal_int_int_L1 n a1 a2 s) (0 : Int)).bind fun t3 => match t3 with
  | (.inl u4) =>
    some u4
  | (.inr u5) =>
    some true

def m_work_valid_L1 (n : Nat) (a1 : SWork) (s4 : Int) (s5 : (List Int)) : Option ((Int × (List Int)) ⊕ (Bool ⊕ (List Int))) :=
  if (decide (s4 < (a1.fEditions.length : Int))) = true then
    (ix a1.fEditions s4).bind fun v6 =>
    (m_work_ascending n v6).bind fun v7 =>
    ((if ((!(!v7)) && (decide ((0 : Int) < s4))) = true then ix v6 (0 : Int) else some default)).bind fun v8 =>
    ((if ((!(!v7)) && (decide ((0 : Int) < s4))) = true then ix a1.fEditions (IntKind.i64.wrap (s4 - (1 : Int))) else some default)).bind fun v9 =>
    ((if ((!(!v7)) && (decide ((0 : Int) < s4))) = true then ix v9 (0 : Int) else some default)).bind fun v10 =>
    if ((!v7) || ((decide ((0 : Int) < s4)) && (decide (v8 ≤ v10)))) = true then
      some (.inr (.inl false))
    else
    (app 8 s5 v6).bind fun v11 =>
    some (.inl ((IntKind.i64.wrap (s4 + (1 : Int))), v11))
  else
  some (.inr (.inr s5))

/-- bookplate/work.valid -/
def m_work_valid (n : Nat) (a1 : SWork) : Option Bool :=
  (m_work_ascending n a1.fRecords).bind fun v2 =>
  ((if (!(!v2)) = true then ix a1.fRecords (0 : Int) else some default)).bind fun v3 =>
  if ((!v2) || (!decide (v3 = a1.fID))) = true then
    some false
  else
  (iter n (fun s => m_work_valid_L1 n a1 s.1 s.2) ((0 : Int), ([] : List Int))).bind fun t4 => match t4 with
  | (.inl u5) =>
    some u5
  | (.inr u6) =>
    (m_slices_Sort_int_int n u6).bind fun v7 =>
    (m_slices_Equal_int_int n v7 a1.fRecords).bind fun v8 =>
    some v8

def m_work_Valid_L2 (n : Nat) (v4 : SWork) (s7 : Int) (s8 : (List (Int × Bool))) : Option ((Int × (List (Int × Bool))) ⊕ (Bool ⊕ (List (Int × Bool)))) :=
  if (decide (s7 < (v4.fRecords.length : Int))) = true then
    (ix v4.fRecords s7).bind fun v9 =>
    if ((mget s8 v9).getD (false : Bool)) = true then
      some (.inr (.inl false))
    else
    (some (mput s8 v9 true)).bind fun v10 =>
    some (.inl ((IntKind.i64.wrap (s7 + (1 : Int))), v10))
  else
  some (.inr (.inr s8))

def m_work_Valid_L1 (n : Nat) (a1 : (List SWork)) (s2 : Int) (s3 : (List (Int × Bool))) : Option ((Int × (List (Int × Bool))) ⊕ (Bool ⊕ (List (Int × Bool)))) :=
  if (decide (s2 < (a1.length : Int))) = true then
    (ix a1 s2).bind fun v4 =>
    (m_work_valid n v4).bind fun v5 =>
    ((if ((!(!v5)) && (decide ((0 : Int) < s2))) = true then ix a1 (IntKind.i64.wrap (s2 - (1 : Int))) else some default)).bind fun v6 =>
    if ((!v5) || ((decide ((0 : Int) < s2)) && (decide (v4.fID ≤ v6.fID)))) = true then
      some (.inr (.inl false))
    else
    (iter n (fun s => m_work_Valid_L2 n v4 s.1 s.2) ((0 : Int), s3)).bind fun t7 => match t7 with
    | (.inl u8) =>
      some (.inr (.inl u8))
    | (.inr u9) =>
      some (.inl ((IntKind.i64.wrap (s2 + (1 : Int))), u9))
  else
  some (.inr (.inr s3))

/-- bookplate/work.Valid -/
def m_work_Valid (n : Nat) (a1 : (List SWork)) : Option Bool :=
  (iter n (fun s => m_work_Valid_L1 n a1 s.1 s.2) ((0 : Int), [])).bind fun t2 => match t2 with
  | (.inl u3) =>
    some u3
  | (.inr u4) =>
    some true

def m_slices_Index_int_int_L1 (n : Nat) (a1 : (List Int)) (a2 : Int) (s3 : Int) : Option (Int ⊕ (Int ⊕ Unit)) :=
  if (decide (s3 < (a1.length : Int))) = true then
    (ix a1 s3).bind fun v4 =>
    if (decide (a2 = v4)) = true then
      some (.inr (.inl s3))
    else
    some (.inl (IntKind.i64.wrap (s3 + (1 : Int))))
  else
  some (.inr (.inr ()))

/-- slices.Index[[]int,int] -/
def m_slices_Index_int_int (n : Nat) (a1 : (List Int)) (a2 : Int) : Option Int :=
  (iter n (fun s => m_slices_Index_int_int_L1 n a1 a2 s) (0 : Int)).bind fun t3 => match t3 with
  | (.inl u4) =>
    some u4
  | (.inr u5) =>
    some (-1 : Int)

/-- slices.Contains[[]int,int] -/
def m_slices_Contains_int_int (n : Nat) (a1 : (List Int)) (a2 : Int) : Option Bool :=
  (m_slices_Index_int_int n a1 a2).bind fun v3 =>
  some (decide ((0 : Int) ≤ v3))

/-- slices.Clone[[]int,int] -/
def m_slices_Clone_int_int (n : Nat) (a1 : (List Int)) : Option (List Int) :=
  (app 8 (([] : List Int) : List Int) a1).bind fun v2 =>
  some v2

/-- slices.Clone[[][]int,[]int] -/
def m_slices_Clone_int_intx (n : Nat) (a1 : (List (List Int))) : Option (List (List Int)) :=
  (app 24 ([] : List (List Int)) a1).bind fun v2 =>
  some v2

def m_work_cloned_L1 (n : Nat) (v3 : (List (List Int))) (s4 : Int) (s5 : (List (List Int))) : Option ((Int × (List (List Int))) ⊕ (List (List Int))) :=
  if (decide (s4 < (v3.length : Int))) = true then
    (ix s5 s4).bind fun v6 =>
    (ix s5 s4).bind fun v7 =>
    (m_slices_Clone_int_int n v7).bind fun v8 =>
    (ix s5 s4).bind fun v9 =>
    (setI s5 s4 v8).bind fun v10 =>
    some (.inl ((IntKind.i64.wrap (s4 + (1 : Int))), v10))
  else
  some (.inr s5)

/-- bookplate/work.cloned -/
def m_work_cloned (n : Nat) (a1 : SWork) : Option SWork :=
  (m_slices_Clone_int_int n a1.fRecords).bind fun v2 =>
  (m_slices_Clone_int_intx n a1.fEditions).bind fun v3 =>
  (iter n (fun s => m_work_cloned_L1 n v3 s.1 s.2) ((0 : Int), v3)).bind fun t4 =>
  some (⟨a1.fID, v2, t4⟩ : SWork)

def m_work_Find_L1 (n : Nat) (a1 : (List SWork)) (a2 : Int) (s4 : Int) : Option (Int ⊕ ((SWork × Bool) ⊕ Unit)) :=
  if (decide (s4 < (a1.length : Int))) = true then
    (ix a1 s4).bind fun v5 =>
    (m_slices_Contains_int_int n v5.fRecords a2).bind fun v6 =>
    if v6 = true then
      (m_work_cloned n v5).bind fun v7 =>
      some (.inr (.inl (v7, true)))
    else
    some (.inl (IntKind.i64.wrap (s4 + (1 : Int))))
  else
  some (.inr (.inr ()))

/-- bookplate/work.Find -/
def m_work_Find (n : Nat) (a1 : (List SWork)) (a2 : Int) : Option (SWork × Bool) :=
  (m_work_Valid n a1).bind fun v3 =>
  if (!v3) = true then
    some ((⟨(0 : Int), [], []⟩ : SWork), false)
  else
  (iter n (fun s => m_work_Find_L1 n a1 a2 s) (0 : Int)).bind fun t4 => match t4 with
  | (.inl u5) =>
    some u5
  | (.inr u6) =>
    some ((⟨(0 : Int), [], []⟩ : SWork), false)

def m_work_Edition_L1 (n : Nat) (a2 : Int) (v3 : (SWork × Bool)) (s4 : Int) : Option (Int ⊕ (((List Int) × Bool) ⊕ Unit)) :=
  if (decide (s4 < (v3.1.fEditions.length : Int))) = true then
    (ix v3.1.fEditions s4).bind fun v5 =>
    (m_slices_Contains_int_int n v5 a2).bind fun v6 =>
    if v6 = true then
      some (.inr (.inl (v5, true)))
    else
    some (.inl (IntKind.i64.wrap (s4 + (1 : Int))))
  else
  some (.inr (.inr ()))

/-- bookplate/work.Edition -/
def m_work_Edition (n : Nat) (a1 : (List SWork)) (a2 : Int) : Option ((List Int) × Bool) :=
  (m_work_Find n a1 a2).bind fun v3 =>
  (iter n (fun s => m_work_Edition_L1 n a2 v3 s) (0 : Int)).bind fun t4 => match t4 with
  | (.inl u5) =>
    some u5
  | (.inr u6) =>
    some ([], false)

def m_slices_IndexFunc_work_Work_work_Work_L1 (n : Nat) (a1 : (List SWork)) (p2 : SWork → Option Bool) (s3 : Int) : Option (Int ⊕ (Int ⊕ Unit)) :=
  if (decide (s3 < (a1.length : Int))) = true then
    (ix a1 s3).bind fun v4 =>
    (p2 v4).bind fun v5 =>
    if v5 = true then
      some (.inr (.inl s3))
    else
    some (.inl (IntKind.i64.wrap (s3 + (1 : Int))))
  else
  some (.inr (.inr ()))

/-- slices.IndexFunc[[]bookplate/work.Work,bookplate/work.Work] -/
def m_slices_IndexFunc_work_Work_work_Work (n : Nat) (a1 : (List SWork)) (p2 : SWork → Option Bool) : Option Int :=
  (iter n (fun s => m_slices_IndexFunc_work_Work_work_Work_L1 n a1 p2 s) (0 : Int)).bind fun t3 => match t3 with
  | (.inl u4) =>
    some u4
  | (.inr u5) =>
    some (-1 : Int)

/-- slices.ContainsFunc[[]bookplate/work.Work,bookplate/work.Work] -/
def m_slices_ContainsFunc_work_Work_work_Work (n : Nat) (a1 : (List SWork)) (p2 : SWork → Option Bool) : Option Bool :=
  (m_slices_IndexFunc_work_Work_work_Work n a1 p2).bind fun v3 =>
  some (decide ((0 : Int) ≤ v3))

def m_slices_EqualFunc_int_int_int_int_L1 (n : Nat) (a1 : (List (List Int))) (a2 : (List (List Int))) (p3 : (List Int) → (List Int) → Option Bool) (s4 : Int) : Option (Int ⊕ (Bool ⊕ Unit)) :=
  if (decide (s4 < (a1.length : Int))) = true then
    (ix a1 s4).bind fun v5 =>
    (ix a2 s4).bind fun v6 =>
    (p3 v5 v6).bind fun v7 =>
    if (!v7) = true then
      some (.inr (.inl false))
    else
    some (.inl (IntKind.i64.wrap (s4 + (1 : Int))))
  else
  some (.inr (.inr ()))

/-- slices.EqualFunc[[][]int,[][]int,[]int,[]int] -/
def m_slices_EqualFunc_int_int_int_int (n : Nat) (a1 : (List (List Int))) (a2 : (List (List Int))) (p3 : (List Int) → (List Int) → Option Bool) : Option Bool :=
  if (!decide ((a1.length : Int) = (a2.length : Int))) = true then
    some false
  else
  (iter n (fun s => m_slices_EqualFunc_int_int_int_int_L1 n a1 a2 p3 s) (0 : Int)).bind fun t4 => match t4 with
  | (.inl u5) =>
    some u5
  | (.inr u6) =>
    some true

/-- bookplate/work.same -/
def m_work_same (n : Nat) (a1 : SWork) (a2 : SWork) : Option Bool :=
  (m_slices_Equal_int_int n a1.fRecords a2.fRecords).bind fun v3 =>
  ((if v3 = true then m_slices_EqualFunc_int_int_int_int n a1.fEditions a2.fEditions (fun y1 y2 => m_slices_Equal_int_int n y1 y2) else some default)).bind fun v4 =>
  some (v3 && v4)

/-- bookplate/work.Touched$1$1 -/
def m_work_Touched_1_1 (n : Nat) (a1 : SWork) (c2 : SWork) : Option Bool :=
  ((if (decide (c2.fID = a1.fID)) = true then m_work_same n c2 a1 else some default)).bind fun v3 =>
  some ((decide (c2.fID = a1.fID)) && v3)

/-- bookplate/work.Touched$1 -/
def m_work_Touched_1 (n : Nat) (a1 : (List SWork)) (a2 : SWork) : Option Bool :=
  (m_slices_ContainsFunc_work_Work_work_Work n a1 (fun y1 => m_work_Touched_1_1 n y1 a2)).bind fun v3 =>
  some v3

def m_slices_Compact_int_int_L2 (n : Nat) (s2 : Int) (v7 : (List Int)) (s8 : Int) (s9 : Int) (s10 : (List Int)) : Option ((Int × Int × (List Int)) ⊕ (Int × (List Int))) :=
  if (decide (s9 < (v7.length : Int))) = true then
    (
      (ix v7 s9).bind fun v11 =>
      (ix s10 (s2 + s9)).bind fun v12 =>
      (ix v7 (IntKind.i64.wrap (s9 - (1 : Int)))).bind fun v13 =>
      (ix s10 (s2 + (IntKind.i64.wrap (s9 - (1 : Int))))).bind fun v14 =>
      if (!decide (v12 = v14)) = true then
        (ix v7 s9).bind fun v15 =>
        (ix s10 (s2 + s9)).bind fun v16 =>
        (ix s10 s8).bind fun v17 =>
        (setI s10 s8 v16).bind fun v18 =>
        some ((IntKind.i64.wrap (s8 + (1 : Int))), v18)
      else
      some (s8, s10) : Option (Int × (List Int))).bind fun t19 =>
    some (.inl (t19.1, (IntKind.i64.wrap (s9 + (1 : Int))), t19.2))
  else
  some (.inr (s8, s10))

def m_slices_Compact_int_int_L1 (n : Nat) (c1 : (List Int)) (s2 : Int) : Option (Int ⊕ ((List Int) ⊕ Unit)) :=
  if (decide (s2 < (c1.length : Int))) = true then
    (ix c1 s2).bind fun v3 =>
    (ix c1 s2).bind fun v4 =>
    (ix c1 (IntKind.i64.wrap (s2 - (1 : Int)))).bind fun v5 =>
    (ix c1 (IntKind.i64.wrap (s2 - (1 : Int)))).bind fun v6 =>
    if (decide (v4 = v6)) = true then
      (slc c1 s2 (c1.length : Int)).bind fun v7 =>
      (iter n (fun s => m_slices_Compact_int_int_L2 n s2 v7 s.1 s.2.1 s.2.2) (s2, (1 : Int), c1)).bind fun t8 =>
      (slc t8.2 t8.1 (t8.2.length : Int)).bind fun v9 =>
      (slc (clrL t8.2 t8.1.toNat v9.length ((0 : Int) : Int)) (0 : Int) t8.1).bind fun v10 =>
      some (.inr (.inl v10))
    else
    some (.inl (IntKind.i64.wrap (s2 + (1 : Int))))
  else
  some (.inr (.inr ()))

/-- slices.Compact[[]int,int] -/
def m_slices_Compact_int_int (n : Nat) (c1 : (List Int)) : Option (List Int) :=
  if (decide ((c1.length : Int) < (2 : Int))) = true then
    some c1
  else
  (iter n (fun s => m_slices_Compact_int_int_L1 n c1 s) (1 : Int)).bind fun t2 => match t2 with
  | (.inl u3) =>
    some u3
  | (.inr u4) =>
    some c1

def m_work_Touched_L1 (n : Nat) (a1 : (List SWork)) (a2 : (List SWork)) (s5 : Int) (s6 : (List Int)) : Option ((Int × (List Int)) ⊕ (List Int)) :=
  if (decide (s5 < (a1.length : Int))) = true then
    (
      (ix a1 s5).bind fun v7 =>
      (m_work_Touched_1 n a2 v7).bind fun v8 =>
      if (!v8) = true then
        (app 8 s6 ([v7.fID] : List Int)).bind fun v9 =>
        some v9
      else
      some s6 : Option (List Int)).bind fun t10 =>
    some (.inl ((IntKind.i64.wrap (s5 + (1 : Int))), t10))
  else
  some (.inr s6)

def m_work_Touched_L2 (n : Nat) (a1 : (List SWork)) (a2 : (List SWork)) (s6 : Int) (s7 : (List Int)) : Option ((Int × (List Int)) ⊕ (List Int)) :=
  if (decide (s6 < (a2.length : Int))) = true then
    (
      (ix a2 s6).bind fun v8 =>
      (m_work_Touched_1 n a1 v8).bind fun v9 =>
      if (!v9) = true then
        (app 8 s7 ([v8.fID] : List Int)).bind fun v10 =>
        some v10
      else
      some s7 : Option (List Int)).bind fun t11 =>
    some (.inl ((IntKind.i64.wrap (s6 + (1 : Int))), t11))
  else
  some (.inr s7)

/-- bookplate/work.Touched -/
def m_work_Touched (n : Nat) (a1 : (List SWork)) (a2 : (List SWork)) : Option (List Int) :=
  (m_work_Valid n a1).bind fun v3 =>
  ((if (!(!v3)) = true then m_work_Valid n a2 else some default)).bind fun v4 =>
  if ((!v3) || (!v4)) = true then
    some []
  else
  (iter n (fun s => m_work_Touched_L1 n a1 a2 s.1 s.2) ((0 : Int), ([] : List Int))).bind fun t5 =>
  (iter n (fun s => m_work_Touched_L2 n a1 a2 s.1 s.2) ((0 : Int), t5)).bind fun t6 =>
  (m_slices_Sort_int_int n t6).bind fun v7 =>
  (m_slices_Compact_int_int n v7).bind fun v8 =>
  some v8

def m_ref35_ascending_L1 (n : Nat) (a1 : (List Int)) (s2 : Int) : Option (Int ⊕ (Bool ⊕ Unit)) :=
  if (decide (s2 < (a1.length : Int))) = true then
    (ix a1 s2).bind fun v3 =>
    ((if (!(decide (v3 < (1 : Int)))) = true then ix a1 s2 else some default)).bind fun v4 =>
    ((if ((!((decide (v3 < (1 : Int))) || (decide ((1000000000 : Int) < v4)))) && (decide ((0 : Int) < s2))) = true then ix a1 (IntKind.i64.wrap (s2 - (1 : Int))) else some default)).bind fun v5 =>
    ((if ((!((decide (v3 < (1 : Int))) || (decide ((1000000000 : Int) < v4)))) && (decide ((0 : Int) < s2))) = true then ix a1 s2 else some default)).bind fun v6 =>
    if (((decide (v3 < (1 : Int))) || (decide ((1000000000 : Int) < v4))) || ((decide ((0 : Int) < s2)) && (decide (v6 ≤ v5)))) = true then
      some (.inr (.inl false))
    else
    some (.inl (IntKind.i64.wrap (s2 + (1 : Int))))
  else
  some (.inr (.inr ()))

/-- bookplate/bookplateref35.ascending -/
def m_ref35_ascending (n : Nat) (a1 : (List Int)) : Option Bool :=
  (iter n (fun s => m_ref35_ascending_L1 n a1 s) (0 : Int)).bind fun t2 => match t2 with
  | (.inl u3) =>
    some u3
  | (.inr u4) =>
    some (decide ((0 : Int) < (a1.length : Int)))

def m_ref35_has_L1 (n : Nat) (a1 : (List Int)) (a2 : Int) (s3 : Int) : Option (Int ⊕ (Bool ⊕ Unit)) :=
  if (decide (s3 < (a1.length : Int))) = true then
    (ix a1 s3).bind fun v4 =>
    if (decide (v4 = a2)) = true then
      some (.inr (.inl true))
    else
    some (.inl (IntKind.i64.wrap (s3 + (1 : Int))))
  else
  some (.inr (.inr ()))

/-- bookplate/bookplateref35.has -/
def m_ref35_has (n : Nat) (a1 : (List Int)) (a2 : Int) : Option Bool :=
  (iter n (fun s => m_ref35_has_L1 n a1 a2 s) (0 : Int)).bind fun t3 => match t3 with
  | (.inl u4) =>
    some u4
  | (.inr u5) =>
    some false

def m_ref35_Valid_L2 (n : Nat) (a1 : (List SWork)) (s3 : Int) (s11 : (List Int)) (s12 : Int) : Option (((List Int) × Int) ⊕ (Bool ⊕ (List Int))) :=
  (ix a1 s3).bind fun v13 =>
  if (decide (s12 < (v13.fRecords.length : Int))) = true then
    (ix a1 s3).bind fun v14 =>
    (ix v14.fRecords s12).bind fun v15 =>
    (m_ref35_has n s11 v15).bind fun v16 =>
    if v16 = true then
      some (.inr (.inl false))
    else
    (ix a1 s3).bind fun v17 =>
    (ix v17.fRecords s12).bind fun v18 =>
    (app 8 s11 ([v18] : List Int)).bind fun v19 =>
    some (.inl (v19, (IntKind.i64.wrap (s12 + (1 : Int)))))
  else
  some (.inr (.inr s11))

def m_ref35_Valid_L4 (n : Nat) (a1 : (List SWork)) (s3 : Int) (v18 : (List Int)) (s24 : (List Int)) (s25 : Int) : Option (((List Int) × Int) ⊕ (Bool ⊕ (List Int))) :=
  if (decide (s25 < (v18.length : Int))) = true then
    (ix v18 s25).bind fun v26 =>
    (m_ref35_has n s24 v26).bind fun v27 =>
    ((if (!v27) = true then ix a1 s3 else some default)).bind fun v28 =>
    ((if (!v27) = true then ix v18 s25 else some default)).bind fun v29 =>
    ((if (!v27) = true then m_ref35_has n v28.fRecords v29 else some default)).bind fun v30 =>
    if (v27 || (!v30)) = true then
      some (.inr (.inl false))
    else
    (ix v18 s25).bind fun v31 =>
    (app 8 s24 ([v31] : List Int)).bind fun v32 =>
    some (.inl (v32, (IntKind.i64.wrap (s25 + (1 : Int)))))
  else
  some (.inr (.inr s24))

def m_ref35_Valid_L3 (n : Nat) (a1 : (List SWork)) (s3 : Int) (s14 : (List Int)) (s15 : Int) : Option (((List Int) × Int) ⊕ (Bool ⊕ (List Int))) :=
  (ix a1 s3).bind fun v16 =>
  if (decide (s15 < (v16.fEditions.length : Int))) = true then
    (ix a1 s3).bind fun v17 =>
    (ix v17.fEditions s15).bind fun v18 =>
    (m_ref35_ascending n v18).bind fun v19 =>
    ((if ((!(!v19)) && (decide ((0 : Int) < s15))) = true then ix a1 s3 else some default)).bind fun v20 =>
    ((if ((!(!v19)) && (decide ((0 : Int) < s15))) = true then ix v20.fEditions (IntKind.i64.wrap (s15 - (1 : Int))) else some default)).bind fun v21 =>
    ((if ((!(!v19)) && (decide ((0 : Int) < s15))) = true then ix v21 (0 : Int) else some default)).bind fun v22 =>
    ((if ((!(!v19)) && (decide ((0 : Int) < s15))) = true then ix v18 (0 : Int) else some default)).bind fun v23 =>
    if ((!v19) || ((decide ((0 : Int) < s15)) && (decide (v23 ≤ v22)))) = true then
      some (.inr (.inl false))
    else
    (iter n (fun s => m_ref35_Valid_L4 n a1 s3 v18 s.1 s.2) (s14, (0 : Int))).bind fun t24 => match t24 with
    | (.inl u25) =>
      some (.inr (.inl u25))
    | (.inr u26) =>
      some (.inl (u26, (IntKind.i64.wrap (s15 + (1 : Int)))))
  else
  some (.inr (.inr s14))

def m_ref35_Valid_L1 (n : Nat) (a1 : (List SWork)) (s2 : (List Int)) (s3 : Int) : Option (((List Int) × Int) ⊕ (Bool ⊕ (List Int))) :=
  if (decide (s3 < (a1.length : Int))) = true then
    (ix a1 s3).bind fun v4 =>
    (m_ref35_ascending n v4.fRecords).bind fun v5 =>
    ((if (!(!v5)) = true then ix a1 s3 else some default)).bind fun v6 =>
    ((if (!(!v5)) = true then ix a1 s3 else some default)).bind fun v7 =>
    ((if (!(!v5)) = true then ix v7.fRecords (0 : Int) else some default)).bind fun v8 =>
    ((if ((!((!v5) || (!decide (v6.fID = v8)))) && (decide ((0 : Int) < s3))) = true then ix a1 (IntKind.i64.wrap (s3 - (1 : Int))) else some default)).bind fun v9 =>
    ((if ((!((!v5) || (!decide (v6.fID = v8)))) && (decide ((0 : Int) < s3))) = true then ix a1 s3 else some default)).bind fun v10 =>
    if (((!v5) || (!decide (v6.fID = v8))) || ((decide ((0 : Int) < s3)) && (decide (v10.fID ≤ v9.fID)))) = true then
      some (.inr (.inl false))
    else
    (iter n (fun s => m_ref35_Valid_L2 n a1 s3 s.1 s.2) (s2, (0 : Int))).bind fun t11 => match t11 with
    | (.inl u12) =>
      some (.inr (.inl u12))
    | (.inr u13) =>
      (iter n (fun s => m_ref35_Valid_L3 n a1 s3 s.1 s.2) ([], (0 : Int))).bind fun t14 => match t14 with
      | (.inl u15) =>
        some (.inr (.inl u15))
      | (.inr u16) =>
        (ix a1 s3).bind fun v17 =>
        if (!decide ((u16.length : Int) = (v17.fRecords.length : Int))) = true then
          some (.inr (.inl false))
        else
        some (.inl (u13, (IntKind.i64.wrap (s3 + (1 : Int)))))
  else
  some (.inr (.inr s2))

/-- bookplate/bookplateref35.Valid -/
def m_ref35_Valid (n : Nat) (a1 : (List SWork)) : Option Bool :=
  (iter n (fun s => m_ref35_Valid_L1 n a1 s.1 s.2) ([], (0 : Int))).bind fun t2 => match t2 with
  | (.inl u3) =>
    some u3
  | (.inr u4) =>
    some true

def m_ref35_Copy_L1 (n : Nat) (a1 : SWork) (s3 : Int) (s4 : (List (List Int))) : Option ((Int × (List (List Int))) ⊕ (List (List Int))) :=
  if (decide (s3 < (a1.fEditions.length : Int))) = true then
    (ix a1.fEditions s3).bind fun v5 =>
    (app 8 (([] : List Int) : List Int) v5).bind fun v6 =>
    (app 24 s4 ([v6] : List (List Int))).bind fun v7 =>
    some (.inl ((IntKind.i64.wrap (s3 + (1 : Int))), v7))
  else
  some (.inr s4)

/-- bookplate/bookplateref35.Copy -/
def m_ref35_Copy (n : Nat) (a1 : SWork) : Option SWork :=
  (app 8 (([] : List Int) : List Int) a1.fRecords).bind fun v2 =>
  (iter n (fun s => m_ref35_Copy_L1 n a1 s.1 s.2) ((0 : Int), ([] : List (List Int)))).bind fun t3 =>
  some (⟨a1.fID, v2, t3⟩ : SWork)

def m_ref35_Find_L1 (n : Nat) (a1 : (List SWork)) (a2 : Int) (s3 : Int) : Option (Int ⊕ ((SWork × Bool) ⊕ Unit)) :=
  ((if (decide (s3 < (a1.length : Int))) = true then m_ref35_Valid n a1 else some default)).bind fun v4 =>
  if ((decide (s3 < (a1.length : Int))) && v4) = true then
    (ix a1 s3).bind fun v5 =>
    (m_ref35_has n v5.fRecords a2).bind fun v6 =>
    if v6 = true then
      (ix a1 s3).bind fun v7 =>
      (m_ref35_Copy n v7).bind fun v8 =>
      some (.inr (.inl (v8, true)))
    else
    some (.inl (IntKind.i64.wrap (s3 + (1 : Int))))
  else
  some (.inr (.inr ()))

/-- bookplate/bookplateref35.Find -/
def m_ref35_Find (n : Nat) (a1 : (List SWork)) (a2 : Int) : Option (SWork × Bool) :=
  (iter n (fun s => m_ref35_Find_L1 n a1 a2 s) (0 : Int)).bind fun t3 => match t3 with
  | (.inl u4) =>
    some u4
  | (.inr u5) =>
    some ((⟨(0 : Int), [], []⟩ : SWork), false)

def m_ref35_Edition_L1 (n : Nat) (a2 : Int) (v3 : (SWork × Bool)) (s4 : Int) : Option (Int ⊕ (((List Int) × Bool) ⊕ Unit)) :=
  if (decide (s4 < (v3.1.fEditions.length : Int))) = true then
    (ix v3.1.fEditions s4).bind fun v5 =>
    (m_ref35_has n v5 a2).bind fun v6 =>
    if v6 = true then
      (ix v3.1.fEditions s4).bind fun v7 =>
      some (.inr (.inl (v7, true)))
    else
    some (.inl (IntKind.i64.wrap (s4 + (1 : Int))))
  else
  some (.inr (.inr ()))

/-- bookplate/bookplateref35.Edition -/
def m_ref35_Edition (n : Nat) (a1 : (List SWork)) (a2 : Int) : Option ((List Int) × Bool) :=
  (m_ref35_Find n a1 a2).bind fun v3 =>
  (iter n (fun s => m_ref35_Edition_L1 n a2 v3 s) (0 : Int)).bind fun t4 => match t4 with
  | (.inl u5) =>
    some u5
  | (.inr u6) =>
    some ([], v3.2)

def m_ref30_SameInts_L1 (n : Nat) (a1 : (List Int)) (a2 : (List Int)) (s3 : Int) : Option (Int ⊕ (Bool ⊕ Unit)) :=
  if (decide (s3 < (a1.length : Int))) = true then
    (ix a1 s3).bind fun v4 =>
    (ix a2 s3).bind fun v5 =>
    if (!decide (v4 = v5)) = true then
      some (.inr (.inl false))
    else
    some (.inl (IntKind.i64.wrap (s3 + (1 : Int))))
  else
  some (.inr (.inr ()))

/-- bookplate/bookplateref30.SameInts -/
def m_ref30_SameInts (n : Nat) (a1 : (List Int)) (a2 : (List Int)) : Option Bool :=
  if (!decide ((a1.length : Int) = (a2.length : Int))) = true then
    some false
  else
  (iter n (fun s => m_ref30_SameInts_L1 n a1 a2 s) (0 : Int)).bind fun t3 => match t3 with
  | (.inl u4) =>
    some u4
  | (.inr u5) =>
    some true

def m_ref35_SameWork_L1 (n : Nat) (a1 : SWork) (a2 : SWork) (s4 : Int) : Option (Int ⊕ (Bool ⊕ Unit)) :=
  if (decide (s4 < (a1.fEditions.length : Int))) = true then
    (ix a1.fEditions s4).bind fun v5 =>
    (ix a2.fEditions s4).bind fun v6 =>
    (m_ref30_SameInts n v5 v6).bind fun v7 =>
    if (!v7) = true then
      some (.inr (.inl false))
    else
    some (.inl (IntKind.i64.wrap (s4 + (1 : Int))))
  else
  some (.inr (.inr ()))

/-- bookplate/bookplateref35.SameWork -/
def m_ref35_SameWork (n : Nat) (a1 : SWork) (a2 : SWork) : Option Bool :=
  ((if (!(!decide (a1.fID = a2.fID))) = true then m_ref30_SameInts n a1.fRecords a2.fRecords else some default)).bind fun v3 =>
  if (((!decide (a1.fID = a2.fID)) || (!v3)) || (!decide ((a1.fEditions.length : Int) = (a2.fEditions.length : Int)))) = true then
    some false
  else
  (iter n (fun s => m_ref35_SameWork_L1 n a1 a2 s) (0 : Int)).bind fun t4 => match t4 with
  | (.inl u5) =>
    some u5
  | (.inr u6) =>
    some true

def m_ref35_put_L1 (n : Nat) (a1 : (List Int)) (a2 : Int) (s3 : Int) : Option (Int ⊕ Int) :=
  ((if (decide (s3 < (a1.length : Int))) = true then ix a1 s3 else some default)).bind fun v4 =>
  if ((decide (s3 < (a1.length : Int))) && (decide (v4 < a2))) = true then
    some (.inl (IntKind.i64.wrap (s3 + (1 : Int))))
  else
  some (.inr s3)

/-- bookplate/bookplateref35.put -/
def m_ref35_put (n : Nat) (a1 : (List Int)) (a2 : Int) : Option (List Int) :=
  (iter n (fun s => m_ref35_put_L1 n a1 a2 s) (0 : Int)).bind fun t3 =>
  ((if (decide (t3 < (a1.length : Int))) = true then ix a1 t3 else some default)).bind fun v4 =>
  if ((decide (t3 < (a1.length : Int))) && (decide (v4 = a2))) = true then
    some a1
  else
  (slc a1 0 t3).bind fun v5 =>
  (slc a1 t3 (a1.length : Int)).bind fun v6 =>
  (app 8 (([a2] : List Int) : List Int) v6).bind fun v7 =>
  (app 8 (v5 : List Int) v7).bind fun v8 =>
  some v8

def m_ref35_alone_L2 (n : Nat) (a1 : (List SWork)) (a2 : (List SWork)) (s5 : Int) (s6 : Bool) (s7 : Int) : Option ((Bool × Int) ⊕ Bool) :=
  if (decide (s7 < (a2.length : Int))) = true then
    ((if (!s6) = true then ix a1 s5 else some default)).bind fun v8 =>
    ((if (!s6) = true then ix a2 s7 else some default)).bind fun v9 =>
    ((if (!s6) = true then m_ref35_SameWork n v8 v9 else some default)).bind fun v10 =>
    some (.inl ((s6 || v10), (IntKind.i64.wrap (s7 + (1 : Int)))))
  else
  some (.inr s6)

def m_ref35_alone_L1 (n : Nat) (a1 : (List SWork)) (a2 : (List SWork)) (s4 : (List Int)) (s5 : Int) : Option (((List Int) × Int) ⊕ (List Int)) :=
  if (decide (s5 < (a1.length : Int))) = true then
    (
      (iter n (fun s => m_ref35_alone_L2 n a1 a2 s5 s.1 s.2) (false, (0 : Int))).bind fun t6 =>
      if (!t6) = true then
        (ix a1 s5).bind fun v7 =>
        (m_ref35_put n s4 v7.fID).bind fun v8 =>
        some v8
      else
      some s4 : Option (List Int)).bind fun t9 =>
    some (.inl (t9, (IntKind.i64.wrap (s5 + (1 : Int)))))
  else
  some (.inr s4)

/-- bookplate/bookplateref35.alone -/
def m_ref35_alone (n : Nat) (a1 : (List SWork)) (a2 : (List SWork)) (a3 : (List Int)) : Option (List Int) :=
  (iter n (fun s => m_ref35_alone_L1 n a1 a2 s.1 s.2) (a3, (0 : Int))).bind fun t4 =>
  some t4

/-- bookplate/bookplateref35.Touched -/
def m_ref35_Touched (n : Nat) (a1 : (List SWork)) (a2 : (List SWork)) : Option (List Int) :=
  (m_ref35_Valid n a1).bind fun v3 =>
  ((if (!(!v3)) = true then m_ref35_Valid n a2 else some default)).bind fun v4 =>
  if ((!v3) || (!v4)) = true then
    some []
  else
  (m_ref35_alone n a1 a2 []).bind fun v5 =>
  (m_ref35_alone n a2 a1 v5).bind fun v6 =>
  some v6

def m_ref35_Few_L2 (n : Nat) (a1 : (List SWork)) (s2 : Int) (s5 : Int) : Option (Int ⊕ (Bool ⊕ Unit)) :=
  (ix a1 s2).bind fun v6 =>
  if (decide (s5 < (v6.fEditions.length : Int))) = true then
    (ix a1 s2).bind fun v7 =>
    (ix v7.fEditions s5).bind fun v8 =>
    if (decide ((12 : Int) < (v8.length : Int))) = true then
      some (.inr (.inl false))
    else
    some (.inl (IntKind.i64.wrap (s5 + (1 : Int))))
  else
  some (.inr (.inr ()))

def m_ref35_Few_L1 (n : Nat) (a1 : (List SWork)) (s2 : Int) : Option (Int ⊕ (Bool ⊕ Unit)) :=
  if (decide (s2 < (a1.length : Int))) = true then
    (ix a1 s2).bind fun v3 =>
    ((if (!(decide ((12 : Int) < (v3.fRecords.length : Int)))) = true then ix a1 s2 else some default)).bind fun v4 =>
    if ((decide ((12 : Int) < (v3.fRecords.length : Int))) || (decide ((12 : Int) < (v4.fEditions.length : Int)))) = true then
      some (.inr (.inl false))
    else
    (iter n (fun s => m_ref35_Few_L2 n a1 s2 s) (0 : Int)).bind fun t5 => match t5 with
    | (.inl u6) =>
      some (.inr (.inl u6))
    | (.inr u7) =>
      some (.inl (IntKind.i64.wrap (s2 + (1 : Int))))
  else
  some (.inr (.inr ()))

/-- bookplate/bookplateref35.Few -/
def m_ref35_Few (n : Nat) (a1 : (List SWork)) : Option Bool :=
  (iter n (fun s => m_ref35_Few_L1 n a1 s) (0 : Int)).bind fun t2 => match t2 with
  | (.inl u3) =>
    some u3
  | (.inr u4) =>
    some (decide ((a1.length : Int) ≤ (10 : Int)))

def m_law35_Own_L1 (n : Nat) (a1 : (List SWork)) (s2 : (List SWork)) (s3 : Int) : Option (((List SWork) × Int) ⊕ (List SWork)) :=
  if (decide (s3 < (a1.length : Int))) = true then
    (ix a1 s3).bind fun v4 =>
    (app 56 s2 ([v4] : List SWork)).bind fun v5 =>
    some (.inl (v5, (IntKind.i64.wrap (s3 + (1 : Int)))))
  else
  some (.inr s2)

/-- bookplate/bookplatelaw35.Own -/
def m_law35_Own (n : Nat) (a1 : (List SWork)) : Option (List SWork) :=
  (iter n (fun s => m_law35_Own_L1 n a1 s.1 s.2) ([], (0 : Int))).bind fun t2 =>
  some t2

/-- bookplate/bookplatelaw35.WorkForms -/
def m_law35_WorkForms (n : Nat) (a1 : (List SWork)) (a2 : (List SWork)) (a3 : Int) : Option Bool :=
  ((if (!(!true)) = true then m_ref35_Few n a1 else some default)).bind fun v4 =>
  ((if (!((!true) || (!v4))) = true then m_ref35_Few n a2 else some default)).bind fun v5 =>
  if (((!true) || (!v4)) || (!v5)) = true then
    some true
  else
  (m_law35_Own n a1).bind fun v6 =>
  (m_work_Find n v6 a3).bind fun v7 =>
  (m_ref35_Find n a1 a3).bind fun v8 =>
  (m_law35_Own n a1).bind fun v9 =>
  (m_work_Edition n v9 a3).bind fun v10 =>
  (m_ref35_Edition n a1 a3).bind fun v11 =>
  (m_ref35_SameWork n v7.1 v8.1).bind fun v12 =>
  ((if (!((!v12) || (!(v7.2 == v8.2)))) = true then m_ref30_SameInts n v10.1 v11.1 else some default)).bind fun v13 =>
  ((if (!((((!v12) || (!(v7.2 == v8.2))) || (!v13)) || (!(v10.2 == v11.2)))) = true then m_law35_Own n a1 else some default)).bind fun v14 =>
  ((if (!((((!v12) || (!(v7.2 == v8.2))) || (!v13)) || (!(v10.2 == v11.2)))) = true then m_work_Valid n v14 else some default)).bind fun v15 =>
  ((if (!((((!v12) || (!(v7.2 == v8.2))) || (!v13)) || (!(v10.2 == v11.2)))) = true then m_ref35_Valid n a1 else some default)).bind fun v16 =>
  if (((((!v12) || (!(v7.2 == v8.2))) || (!v13)) || (!(v10.2 == v11.2))) || (!(v15 == v16))) = true then
    some false
  else
  (m_law35_Own n a1).bind fun v17 =>
  (m_law35_Own n a2).bind fun v18 =>
  (m_work_Touched n v17 v18).bind fun v19 =>
  (m_ref35_Touched n a1 a2).bind fun v20 =>
  (m_ref30_SameInts n v19 v20).bind fun v21 =>
  ((if v21 = true then m_law35_Own n a2 else some default)).bind fun v22 =>
  ((if v21 = true then m_law35_Own n a1 else some default)).bind fun v23 =>
  ((if v21 = true then m_work_Touched n v22 v23 else some default)).bind fun v24 =>
  ((if v21 = true then m_ref30_SameInts n v19 v24 else some default)).bind fun v25 =>
  ((if (v21 && v25) = true then m_law35_Own n a1 else some default)).bind fun v26 =>
  ((if (v21 && v25) = true then m_law35_Own n a1 else some default)).bind fun v27 =>
  ((if (v21 && v25) = true then m_work_Touched n v26 v27 else some default)).bind fun v28 =>
  some ((v21 && v25) && (decide ((v28.length : Int) = (0 : Int))))

end
end Go.Proofs.YtlbiooppadlolaaGreatDoor.Ab
