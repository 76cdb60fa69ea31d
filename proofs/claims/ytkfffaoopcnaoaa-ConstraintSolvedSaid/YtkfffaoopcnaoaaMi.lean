/- The functions in plain Lean. Conditions: none. -/
import Derived.Test.YtkfffaoopcnaoaaAb50
set_option maxRecDepth 100000
namespace Go.Proofs.Ytkfffaoopcnaoaa.Ab
open Go
attribute [local irreducible] AL AD AW nlO nlV nlD

noncomputable section
structure SConstraint where
  fKind : Int
  fA : Int
  fB : Int
  deriving Inhabited, DecidableEq
def SConstraint.e (x : SConstraint) : D := .agg [(.int .i64 x.fKind), (.int .i64 x.fA), (.int .i64 x.fB)]
theorem enSConstraint : En SConstraint.e 3 := ⟨fun _ => rfl, fun x y hy => by
  have hy' : y ∈ [((.int .i64 x.fKind) : D), ((.int .i64 x.fA) : D), ((.int .i64 x.fB) : D)] := hy
  simp only [List.mem_cons, List.not_mem_nil, or_false] at hy'
  rcases hy' with rfl | rfl | rfl <;> rfl⟩
structure SPair where
  fA : Int
  fB : Int
  deriving Inhabited, DecidableEq
def SPair.e (x : SPair) : D := .agg [(.int .i64 x.fA), (.int .i64 x.fB)]
structure SConflict where
  fPair : SPair
  fPath : (List Int)
  deriving Inhabited, DecidableEq
def SConflict.e (x : SConflict) : D := .agg [(.int .i64 x.fPair.fA), (.int .i64 x.fPair.fB), (.sl (x.fPath.map D.i))]
theorem enSConflict : En SConflict.e 3 := ⟨fun _ => rfl, fun x y hy => by
  have hy' : y ∈ [((.int .i64 x.fPair.fA) : D), ((.int .i64 x.fPair.fB) : D), ((.sl (x.fPath.map D.i)) : D)] := hy
  simp only [List.mem_cons, List.not_mem_nil, or_false] at hy'
  rcases hy' with rfl | rfl | rfl <;> rfl⟩
structure A2 where
  e0 : Int
  e1 : Int
  deriving Inhabited, DecidableEq
def A2.e (x : A2) : D := .agg [(.int .i64 x.e0), (.int .i64 x.e1)]
def A2.l (x : A2) : List Int := [x.e0, x.e1]
def A2.put (x : A2) (k : Int) (v : Int) : Option A2 :=
  if k = 0 then some { x with e0 := v } else if k = 1 then some { x with e1 := v } else none
def cmpI (a b : Int) : Int := if a < b then -1 else if b < a then 1 else 0
def orI (a b : Int) : Int := if a = 0 then b else a
def cfC (x y : SConstraint) : Int := orI (cmpI x.fKind y.fKind) (orI (cmpI x.fA y.fA) (cmpI x.fB y.fB))

def m_slices_IndexFunc_api_Constraint_api_Constraint_L1 (n : Nat) (a1 : (List SConstraint)) (p2 : SConstraint → Option Bool) (s3 : Int) : Option (Int ⊕ (Int ⊕ Unit)) :=
  if (decide (s3 < (a1.length : Int))) = true then
    (ix a1 s3).bind fun v4 =>
    (p2 v4).bind fun v5 =>
    if v5 = true then
      some (.inr (.inl s3))
    else
    some (.inl (IntKind.i64.wrap (s3 + (1 : Int))))
  else
  some (.inr (.inr ()))

/-- slices.IndexFunc[[]bookplate/api.Constraint,bookplate/api.Constraint] -/
def m_slices_IndexFunc_api_Constraint_api_Constraint (n : Nat) (a1 : (List SConstraint)) (p2 : SConstraint → Option Bool) : Option Int :=
  (iter n (fun s => m_slices_IndexFunc_api_Constraint_api_Constraint_L1 n a1 p2 s) (0 : Int)).bind fun t3 => match t3 with
  | (.inl u4) =>
    some u4
  | (.inr u5) =>
    some (-1 : Int)

/-- slices.ContainsFunc[[]bookplate/api.Constraint,bookplate/api.Constraint] -/
def m_slices_ContainsFunc_api_Constraint_api_Constraint (n : Nat) (a1 : (List SConstraint)) (p2 : SConstraint → Option Bool) : Option Bool :=
  (m_slices_IndexFunc_api_Constraint_api_Constraint n a1 p2).bind fun v3 =>
  some (decide ((0 : Int) ≤ v3))

/-- bookplate/constraint.id -/
def m_constraint_id (n : Nat) (a1 : Int) : Option Bool :=
  some ((decide ((1 : Int) ≤ a1)) && (decide (a1 ≤ (1000000000 : Int))))

/-- bookplate/constraint.Valid$1 -/
def m_constraint_Valid_1 (n : Nat) (a1 : SConstraint) : Option Bool :=
  ((if (!((!decide (a1.fKind = (1 : Int))) && (!decide (a1.fKind = (2 : Int))))) = true then m_constraint_id n a1.fA else some default)).bind fun v2 =>
  ((if (!(((!decide (a1.fKind = (1 : Int))) && (!decide (a1.fKind = (2 : Int)))) || (!v2))) = true then m_constraint_id n a1.fB else some default)).bind fun v3 =>
  some (((((!decide (a1.fKind = (1 : Int))) && (!decide (a1.fKind = (2 : Int)))) || (!v2)) || (!v3)) || (decide (a1.fA = a1.fB)))

/-- bookplate/constraint.Valid -/
def m_constraint_Valid (n : Nat) (a1 : (List SConstraint)) : Option Bool :=
  ((if (decide ((a1.length : Int) ≤ (400 : Int))) = true then m_slices_ContainsFunc_api_Constraint_api_Constraint n a1 (fun y1 => m_constraint_Valid_1 n y1) else some default)).bind fun v2 =>
  some ((decide ((a1.length : Int) ≤ (400 : Int))) && (!v2))

/-- slices.Clone[[]bookplate/api.Constraint,bookplate/api.Constraint] -/
def m_slices_Clone_api_Constraint_api_Constraint (n : Nat) (a1 : (List SConstraint)) : Option (List SConstraint) :=
  (app 24 ([] : List SConstraint) a1).bind fun v2 =>
  some v2

/-- cmp.isNaN[int] -/
def m_cmp_isNaN_int (n : Nat) (a1 : Int) : Option Bool :=
  some (!decide (a1 = a1))

/-- cmp.Compare[int] -/
def m_cmp_Compare_int (n : Nat) (a1 : Int) (a2 : Int) : Option Int :=
  (m_cmp_isNaN_int n a1).bind fun v3 =>
  (m_cmp_isNaN_int n a2).bind fun v4 =>
  if v3 = true then
    if v4 = true then
      some (0 : Int)
    else
    some (-1 : Int)
  else
  if v4 = true then
    some (1 : Int)
  else
  if (decide (a1 < a2)) = true then
    some (-1 : Int)
  else
  if (decide (a2 < a1)) = true then
    some (1 : Int)
  else
  some (0 : Int)

def m_cmp_Or_int_L1 (n : Nat) (a1 : (List Int)) (s2 : Int) : Option (Int ⊕ (Int ⊕ Unit)) :=
  if (decide (s2 < (a1.length : Int))) = true then
    (ix a1 s2).bind fun v3 =>
    if (!decide (v3 = (0 : Int))) = true then
      some (.inr (.inl v3))
    else
    some (.inl (IntKind.i64.wrap (s2 + (1 : Int))))
  else
  some (.inr (.inr ()))

/-- cmp.Or[int] -/
def m_cmp_Or_int (n : Nat) (a1 : (List Int)) : Option Int :=
  (iter n (fun s => m_cmp_Or_int_L1 n a1 s) (0 : Int)).bind fun t2 => match t2 with
  | (.inl u3) =>
    some u3
  | (.inr u4) =>
    some (0 : Int)

/-- bookplate/constraint.normal$1 -/
def m_constraint_normal_1 (n : Nat) (a1 : SConstraint) (a2 : SConstraint) : Option Int :=
  (m_cmp_Compare_int n a1.fKind a2.fKind).bind fun v3 =>
  (m_cmp_Compare_int n a1.fA a2.fA).bind fun v4 =>
  (m_cmp_Compare_int n a1.fB a2.fB).bind fun v5 =>
  (m_cmp_Or_int n ([v3, v4, v5] : List Int)).bind fun v6 =>
  some v6

/-- slices.SortFunc -/
def m_slices_SortFunc_api_Constraint_api_Constraint (n : Nat) (c1 : List SConstraint) : Option (List SConstraint) := if 64 ≤ n ∧ c1.length < 4611686018427387904 then some (isort (ltOf cfC) c1) else none

def m_slices_Compact_api_Constraint_api_Constraint_L2 (n : Nat) (s2 : Int) (v7 : (List SConstraint)) (s8 : Int) (s9 : Int) (s10 : (List SConstraint)) : Option ((Int × Int × (List SConstraint)) ⊕ (Int × (List SConstraint))) :=
  if (decide (s9 < (v7.length : Int))) = true then
    (
      (ix v7 s9).bind fun v11 =>
      (ix s10 (s2 + s9)).bind fun v12 =>
      (ix v7 (IntKind.i64.wrap (s9 - (1 : Int)))).bind fun v13 =>
      (ix s10 (s2 + (IntKind.i64.wrap (s9 - (1 : Int))))).bind fun v14 =>
      if (!decide (v12 = v14)) = true then
        (ix v7 s9).bind fun v15 =>
        (ix s10 (s2 + s9)).bind fun v16 =>
        (ix s10 s8).bind fun v17 =>
        (setI s10 s8 v16).bind fun v18 =>
        some ((IntKind.i64.wrap (s8 + (1 : Int))), v18)
      else
      some (s8, s10) : Option (Int × (List SConstraint))).bind fun t19 =>
    some (.inl (t19.1, (IntKind.i64.wrap (s9 + (1 : Int))), t19.2))
  else
  some (.inr (s8, s10))

def m_slices_Compact_api_Constraint_api_Constraint_L1 (n : Nat) (c1 : (List SConstraint)) (s2 : Int) : Option (Int ⊕ ((List SConstraint) ⊕ Unit)) :=
  if (decide (s2 < (c1.length : Int))) = true then
    (ix c1 s2).bind fun v3 =>
    (ix c1 s2).bind fun v4 =>
    (ix c1 (IntKind.i64.wrap (s2 - (1 : Int)))).bind fun v5 =>
    (ix c1 (IntKind.i64.wrap (s2 - (1 : Int)))).bind fun v6 =>
    if (decide (v4 = v6)) = true then
      (slc c1 s2 (c1.length : Int)).bind fun v7 =>
      (iter n (fun s => m_slices_Compact_api_Constraint_api_Constraint_L2 n s2 v7 s.1 s.2.1 s.2.2) (s2, (1 : Int), c1)).bind fun t8 =>
      (slc t8.2 t8.1 (t8.2.length : Int)).bind fun v9 =>
      (slc (clrL t8.2 t8.1.toNat v9.length ((⟨(0 : Int), (0 : Int), (0 : Int)⟩ : SConstraint) : SConstraint)) (0 : Int) t8.1).bind fun v10 =>
      some (.inr (.inl v10))
    else
    some (.inl (IntKind.i64.wrap (s2 + (1 : Int))))
  else
  some (.inr (.inr ()))

/-- slices.Compact[[]bookplate/api.Constraint,bookplate/api.Constraint] -/
def m_slices_Compact_api_Constraint_api_Constraint (n : Nat) (c1 : (List SConstraint)) : Option (List SConstraint) :=
  if (decide ((c1.length : Int) < (2 : Int))) = true then
    some c1
  else
  (iter n (fun s => m_slices_Compact_api_Constraint_api_Constraint_L1 n c1 s) (1 : Int)).bind fun t2 => match t2 with
  | (.inl u3) =>
    some u3
  | (.inr u4) =>
    some c1

def m_constraint_normal_L1 (n : Nat) (v2 : (List SConstraint)) (s3 : Int) (s4 : (List SConstraint)) : Option ((Int × (List SConstraint)) ⊕ (List SConstraint)) :=
  if (decide (s3 < (v2.length : Int))) = true then
    (ix s4 s3).bind fun v5 =>
    (ix s4 s3).bind fun v6 =>
    (ix s4 s3).bind fun v7 =>
    (ix s4 s3).bind fun v8 =>
    (setI s4 s3 (⟨v8.fKind, (min v6.fA v6.fB), v8.fB⟩ : SConstraint)).bind fun v9 =>
    (ix v9 s3).bind fun v10 =>
    (ix v9 s3).bind fun v11 =>
    (setI v9 s3 (⟨v11.fKind, v11.fA, (max v6.fA v6.fB)⟩ : SConstraint)).bind fun v12 =>
    some (.inl ((IntKind.i64.wrap (s3 + (1 : Int))), v12))
  else
  some (.inr s4)

/-- bookplate/constraint.normal -/
def m_constraint_normal (n : Nat) (a1 : (List SConstraint)) : Option (List SConstraint) :=
  (m_slices_Clone_api_Constraint_api_Constraint n a1).bind fun v2 =>
  (iter n (fun s => m_constraint_normal_L1 n v2 s.1 s.2) ((0 : Int), v2)).bind fun t3 =>
  (m_slices_SortFunc_api_Constraint_api_Constraint n t3).bind fun v4 =>
  (m_slices_Compact_api_Constraint_api_Constraint n v4).bind fun v5 =>
  some v5

def m_constraint_classes_of_L1 (n : Nat) (c1 : (List (Int × Int))) (s3 : Int) : Option (Int ⊕ Int) :=
  if ((!(mget c1 s3).isSome) || (decide (((mget c1 s3).getD ((0 : Int) : Int)) = s3))) = true then
    some (.inr s3)
  else
  some (.inl ((mget c1 s3).getD ((0 : Int) : Int)))

/-- (bookplate/constraint.classes).of -/
def m_constraint_classes_of (n : Nat) (c1 : (List (Int × Int))) (a2 : Int) : Option Int :=
  (iter n (fun s => m_constraint_classes_of_L1 n c1 s) a2).bind fun t3 =>
  some t3

def m_constraint_classesOf_L1 (n : Nat) (a1 : (List SConstraint)) (s2 : Int) (s3 : (List (Int × Int))) : Option ((Int × (List (Int × Int))) ⊕ (List (Int × Int))) :=
  if (decide (s2 < (a1.length : Int))) = true then
    (
      (ix a1 s2).bind fun v4 =>
      if (decide (v4.fKind = (1 : Int))) = true then
        (m_constraint_classes_of n s3 v4.fA).bind fun v5 =>
        (m_constraint_classes_of n s3 v4.fB).bind fun v6 =>
        (some (mput s3 (max v5 v6) (min v5 v6))).bind fun v7 =>
        some v7
      else
      some s3 : Option (List (Int × Int))).bind fun t8 =>
    some (.inl ((IntKind.i64.wrap (s2 + (1 : Int))), t8))
  else
  some (.inr s3)

/-- bookplate/constraint.classesOf -/
def m_constraint_classesOf (n : Nat) (a1 : (List SConstraint)) : Option (List (Int × Int)) :=
  (iter n (fun s => m_constraint_classesOf_L1 n a1 s.1 s.2) ((0 : Int), [])).bind fun t2 =>
  some t2

/-- slices.Sort -/
def m_slices_Sort_int_int (_n : Nat) (c1 : List Int) : Option (List Int) := if c1.length < 4611686018427387904 then some (isort intLt c1) else none

def m_slices_Compact_int_int_L2 (n : Nat) (s2 : Int) (v7 : (List Int)) (s8 : Int) (s9 : Int) (s10 : (List Int)) : Option ((Int × Int × (List Int)) ⊕ (Int × (List Int))) :=
  if (decide (s9 < (v7.length : Int))) = true then
    (
      (ix v7 s9).bind fun v11 =>
      (ix s10 (s2 + s9)).bind fun v12 =>
      (ix v7 (IntKind.i64.wrap (s9 - (1 : Int)))).bind fun v13 =>
      (ix s10 (s2 + (IntKind.i64.wrap (s9 - (1 : Int))))).bind fun v14 =>
      if (!decide (v12 = v14)) = true then
        (ix v7 s9).bind fun v15 =>
        (ix s10 (s2 + s9)).bind fun v16 =>
        (ix s10 s8).bind fun v17 =>
        (setI s10 s8 v16).bind fun v18 =>
        some ((IntKind.i64.wrap (s8 + (1 : Int))), v18)
      else
      some (s8, s10) : Option (Int × (List Int))).bind fun t19 =>
    some (.inl (t19.1, (IntKind.i64.wrap (s9 + (1 : Int))), t19.2))
  else
  some (.inr (s8, s10))

def m_slices_Compact_int_int_L1 (n : Nat) (c1 : (List Int)) (s2 : Int) : Option (Int ⊕ ((List Int) ⊕ Unit)) :=
  if (decide (s2 < (c1.length : Int))) = true then
    (ix c1 s2).bind fun v3 =>
    (ix c1 s2).bind fun v4 =>
    (ix c1 (IntKind.i64.wrap (s2 - (1 : Int)))).bind fun v5 =>
    (ix c1 (IntKind.i64.wrap (s2 - (1 : Int)))).bind fun v6 =>
    if (decide (v4 = v6)) = true then
      (slc c1 s2 (c1.length : Int)).bind fun v7 =>
      (iter n (fun s => m_slices_Compact_int_int_L2 n s2 v7 s.1 s.2.1 s.2.2) (s2, (1 : Int), c1)).bind fun t8 =>
      (slc t8.2 t8.1 (t8.2.length : Int)).bind fun v9 =>
      (slc (clrL t8.2 t8.1.toNat v9.length ((0 : Int) : Int)) (0 : Int) t8.1).bind fun v10 =>
      some (.inr (.inl v10))
    else
    some (.inl (IntKind.i64.wrap (s2 + (1 : Int))))
  else
  some (.inr (.inr ()))

/-- slices.Compact[[]int,int] -/
def m_slices_Compact_int_int (n : Nat) (c1 : (List Int)) : Option (List Int) :=
  if (decide ((c1.length : Int) < (2 : Int))) = true then
    some c1
  else
  (iter n (fun s => m_slices_Compact_int_int_L1 n c1 s) (1 : Int)).bind fun t2 => match t2 with
  | (.inl u3) =>
    some u3
  | (.inr u4) =>
    some c1

def m_constraint_records_L1 (n : Nat) (a1 : (List SConstraint)) (s2 : Int) (s3 : (List Int)) : Option ((Int × (List Int)) ⊕ (List Int)) :=
  if (decide (s2 < (a1.length : Int))) = true then
    (
      (ix a1 s2).bind fun v4 =>
      if (decide (v4.fKind = (1 : Int))) = true then
        (app 8 s3 ([v4.fA, v4.fB] : List Int)).bind fun v5 =>
        some v5
      else
      some s3 : Option (List Int)).bind fun t6 =>
    some (.inl ((IntKind.i64.wrap (s2 + (1 : Int))), t6))
  else
  some (.inr s3)

/-- bookplate/constraint.records -/
def m_constraint_records (n : Nat) (a1 : (List SConstraint)) : Option (List Int) :=
  (iter n (fun s => m_constraint_records_L1 n a1 s.1 s.2) ((0 : Int), [])).bind fun t2 =>
  (m_slices_Sort_int_int n t2).bind fun v3 =>
  (m_slices_Compact_int_int n v3).bind fun v4 =>
  some v4

def m_constraint_Groups_L1 (n : Nat) (v3 : (List (Int × Int))) (v4 : (List Int)) (s5 : Int) (s6 : (List (Int × Int))) (s7 : (List (List Int))) : Option ((Int × (List (Int × Int)) × (List (List Int))) ⊕ ((List (Int × Int)) × (List (List Int)))) :=
  if (decide (s5 < (v4.length : Int))) = true then
    (ix v4 s5).bind fun v8 =>
    (ix v4 s5).bind fun v9 =>
    (m_constraint_classes_of n v3 v9).bind fun v10 =>
    (
      if (!(mget s6 v10).isSome) = true then
        (m_constraint_classes_of n v3 v9).bind fun v11 =>
        (some (mput s6 v11 (s7.length : Int))).bind fun v12 =>
        (app 24 s7 [[]]).bind fun v13 =>
        some ((s7.length : Int), v12, v13)
      else
      some (((mget s6 v10).getD ((0 : Int) : Int)), s6, s7) : Option (Int × (List (Int × Int)) × (List (List Int)))).bind fun t14 =>
    (ix t14.2.2 t14.1).bind fun v15 =>
    (app 8 v15 ([v9] : List Int)).bind fun v16 =>
    (ix t14.2.2 t14.1).bind fun v17 =>
    some (.inl ((IntKind.i64.wrap (s5 + (1 : Int))), t14.2.1, (t14.2.2.set t14.1.toNat v16)))
  else
  some (.inr (s6, s7))

/-- bookplate/constraint.Groups -/
def m_constraint_Groups (n : Nat) (a1 : (List SConstraint)) : Option ((List (List Int)) × Int) :=
  (m_constraint_Valid n a1).bind fun v2 =>
  if (!v2) = true then
    some ([], (1 : Int))
  else
  (m_constraint_classesOf n a1).bind fun v3 =>
  (m_constraint_records n a1).bind fun v4 =>
  (iter n (fun s => m_constraint_Groups_L1 n v3 v4 s.1 s.2.1 s.2.2) ((0 : Int), [], ([] : List (List Int)))).bind fun t5 =>
  some (t5.2, (0 : Int))

/-- bookplate/constraint.Group$1 -/
def m_constraint_Group_1 (n : Nat) (a1 : Int) (c2 : (List (Int × Int))) (c3 : Int) : Option Bool :=
  (m_constraint_classes_of n c2 a1).bind fun v4 =>
  (m_constraint_classes_of n c2 c3).bind fun v5 =>
  some (!decide (v4 = v5))

def m_slices_IndexFunc_int_int_L1 (n : Nat) (c1 : (List Int)) (c2 : (List (Int × Int))) (c3 : Int) (s4 : Int) : Option (Int ⊕ (Int ⊕ Unit)) :=
  if (decide (s4 < (c1.length : Int))) = true then
    (ix c1 s4).bind fun v5 =>
    (ix c1 s4).bind fun v6 =>
    (m_constraint_Group_1 n v6 c2 c3).bind fun v7 =>
    if v7 = true then
      some (.inr (.inl s4))
    else
    some (.inl (IntKind.i64.wrap (s4 + (1 : Int))))
  else
  some (.inr (.inr ()))

/-- slices.IndexFunc[[]int,int] -/
def m_slices_IndexFunc_int_int (n : Nat) (c1 : (List Int)) (c2 : (List (Int × Int))) (c3 : Int) : Option Int :=
  (iter n (fun s => m_slices_IndexFunc_int_int_L1 n c1 c2 c3 s) (0 : Int)).bind fun t4 => match t4 with
  | (.inl u5) =>
    some u5
  | (.inr u6) =>
    some (-1 : Int)

def m_slices_DeleteFunc_int_int_L1 (n : Nat) (c2 : (List (Int × Int))) (c3 : Int) (s5 : Int) (s6 : Int) (s7 : (List Int)) : Option ((Int × Int × (List Int)) ⊕ (Int × (List Int))) :=
  if (decide (s6 < (s7.length : Int))) = true then
    (
      (ix s7 s6).bind fun v8 =>
      (ix s7 s6).bind fun v9 =>
      (m_constraint_Group_1 n v9 c2 c3).bind fun v10 =>
      if (!v10) = true then
        (ix s7 s5).bind fun v11 =>
        (setI s7 s5 v9).bind fun v12 =>
        some ((IntKind.i64.wrap (s5 + (1 : Int))), v12)
      else
      some (s5, s7) : Option (Int × (List Int))).bind fun t13 =>
    some (.inl (t13.1, (IntKind.i64.wrap (s6 + (1 : Int))), t13.2))
  else
  some (.inr (s5, s7))

/-- slices.DeleteFunc[[]int,int] -/
def m_slices_DeleteFunc_int_int (n : Nat) (c1 : (List Int)) (c2 : (List (Int × Int))) (c3 : Int) : Option (List Int) :=
  (m_slices_IndexFunc_int_int n c1 c2 c3).bind fun v4 =>
  if (decide (v4 = (-1 : Int))) = true then
    some c1
  else
  (iter n (fun s => m_slices_DeleteFunc_int_int_L1 n c2 c3 s.1 s.2.1 s.2.2) (v4, (IntKind.i64.wrap (v4 + (1 : Int))), c1)).bind fun t5 =>
  (slc t5.2 t5.1 (t5.2.length : Int)).bind fun v6 =>
  (slc (clrL t5.2 t5.1.toNat v6.length ((0 : Int) : Int)) (0 : Int) t5.1).bind fun v7 =>
  some v7

/-- bookplate/constraint.Group -/
def m_constraint_Group (n : Nat) (a1 : (List SConstraint)) (a2 : Int) : Option ((List Int) × Int) :=
  (m_constraint_Valid n a1).bind fun v3 =>
  if (!v3) = true then
    some ([], (1 : Int))
  else
  (m_constraint_classesOf n a1).bind fun v4 =>
  (m_constraint_records n a1).bind fun v5 =>
  (m_slices_DeleteFunc_int_int n v5 v4 a2).bind fun v6 =>
  (
    if (decide ((v6.length : Int) = (0 : Int))) = true then
      some ([a2] : List Int)
    else
    some v6 : Option (List Int)).bind fun t7 =>
  some (t7, (0 : Int))

/-- bookplate/constraint.apart$1 -/
def m_constraint_apart_1 (n : Nat) (a1 : SConstraint) (c2 : (List (Int × Int))) (c3 : Int) (c4 : Int) : Option Bool :=
  (m_constraint_classes_of n c2 a1.fA).bind fun v5 =>
  (m_constraint_classes_of n c2 a1.fB).bind fun v6 =>
  some ((decide (a1.fKind = (2 : Int))) && (((decide (v5 = c3)) && (decide (v6 = c4))) || ((decide (v5 = c4)) && (decide (v6 = c3)))))

/-- bookplate/constraint.apart -/
def m_constraint_apart (n : Nat) (a1 : (List SConstraint)) (c2 : (List (Int × Int))) (a3 : Int) (a4 : Int) : Option Bool :=
  (m_constraint_classes_of n c2 a3).bind fun v5 =>
  (m_constraint_classes_of n c2 a4).bind fun v6 =>
  (m_slices_ContainsFunc_api_Constraint_api_Constraint n a1 (fun y1 => m_constraint_apart_1 n y1 c2 v5 v6)).bind fun v7 =>
  some v7

/-- bookplate/constraint.Apart -/
def m_constraint_Apart (n : Nat) (a1 : (List SConstraint)) (a2 : Int) (a3 : Int) : Option (Bool × Int) :=
  (m_constraint_Valid n a1).bind fun v4 =>
  if (!v4) = true then
    some (false, (1 : Int))
  else
  (m_constraint_classesOf n a1).bind fun v5 =>
  (m_constraint_apart n a1 v5 a2 a3).bind fun v6 =>
  some (v6, (0 : Int))

def m_constraint_neighbours_L1 (n : Nat) (a1 : (List SConstraint)) (s2 : Int) (s3 : (List (Int × (List Int)))) : Option ((Int × (List (Int × (List Int)))) ⊕ (List (Int × (List Int)))) :=
  if (decide (s2 < (a1.length : Int))) = true then
    (
      (ix a1 s2).bind fun v4 =>
      if (decide (v4.fKind = (1 : Int))) = true then
        (neK v4.fA v4.fB).bind fun v5 =>
        (app 8 ((mget s3 v4.fA).getD []) ([v4.fB] : List Int)).bind fun v6 =>
        (app 8 ((mget s3 v4.fB).getD []) ([v4.fA] : List Int)).bind fun v7 =>
        some (mput (mput (mtouch (mtouch s3 v4.fA) v4.fB) v4.fA v6) v4.fB v7)
      else
      some s3 : Option (List (Int × (List Int)))).bind fun t8 =>
    some (.inl ((IntKind.i64.wrap (s2 + (1 : Int))), t8))
  else
  some (.inr s3)

def m_constraint_neighbours_L2 (n : Nat) (row_2 : List Int) : Option (List Int) :=
  (m_slices_Sort_int_int n row_2).bind fun v3 =>
  some v3

/-- bookplate/constraint.neighbours -/
def m_constraint_neighbours (n : Nat) (a1 : (List SConstraint)) : Option (List (Int × (List Int))) :=
  (iter n (fun s => m_constraint_neighbours_L1 n a1 s.1 s.2) ((0 : Int), [])).bind fun t2 =>
  (rowsM (fun row => m_constraint_neighbours_L2 n row) t2).bind fun t3 =>
  some t3

def m_slices_IndexFunc_int_int_f2_L1 (n : Nat) (a1 : (List Int)) (p2 : Int → Option Bool) (s3 : Int) : Option (Int ⊕ (Int ⊕ Unit)) :=
  if (decide (s3 < (a1.length : Int))) = true then
    (ix a1 s3).bind fun v4 =>
    (p2 v4).bind fun v5 =>
    if v5 = true then
      some (.inr (.inl s3))
    else
    some (.inl (IntKind.i64.wrap (s3 + (1 : Int))))
  else
  some (.inr (.inr ()))

/-- slices.IndexFunc[[]int,int] -/
def m_slices_IndexFunc_int_int_f2 (n : Nat) (a1 : (List Int)) (p2 : Int → Option Bool) : Option Int :=
  (iter n (fun s => m_slices_IndexFunc_int_int_f2_L1 n a1 p2 s) (0 : Int)).bind fun t3 => match t3 with
  | (.inl u4) =>
    some u4
  | (.inr u5) =>
    some (-1 : Int)

/-- bookplate/constraint.path$1 -/
def m_constraint_path_1 (n : Nat) (a1 : Int) (c2 : (List (Int × Int))) (c3 : Int) : Option Bool :=
  some (decide (((mget c2 a1).getD ((0 : Int) : Int)) = (IntKind.i64.wrap (((mget c2 c3).getD ((0 : Int) : Int)) - (1 : Int)))))

def m_constraint_path_L2 (n : Nat) (v4 : (List (Int × (List Int)))) (v9 : Int) (s11 : Int) (s12 : (List (Int × Int))) (s13 : (List Int)) : Option ((Int × (List (Int × Int)) × (List Int)) ⊕ ((List (Int × Int)) × (List Int))) :=
  if (decide (s11 < (((mget v4 v9).getD ([] : (List Int))).length : Int))) = true then
    (
      (ix ((mget v4 v9).getD ([] : (List Int))) s11).bind fun v14 =>
      if (!(mget s12 v14).isSome) = true then
        (some (mput s12 v14 (IntKind.i64.wrap (((mget s12 v9).getD ((0 : Int) : Int)) + (1 : Int))))).bind fun v15 =>
        (app 8 s13 ([v14] : List Int)).bind fun v16 =>
        some (v15, v16)
      else
      some (s12, s13) : Option ((List (Int × Int)) × (List Int))).bind fun t17 =>
    some (.inl ((IntKind.i64.wrap (s11 + (1 : Int))), t17.1, t17.2))
  else
  some (.inr (s12, s13))

def m_constraint_path_L1 (n : Nat) (v4 : (List (Int × (List Int)))) (s6 : (List (Int × Int))) (s7 : (List Int)) : Option (((List (Int × Int)) × (List Int)) ⊕ ((List (Int × Int)) × (List Int))) :=
  if (decide ((0 : Int) < (s7.length : Int))) = true then
    (ix s7 (0 : Int)).bind fun v8 =>
    (ix s7 (0 : Int)).bind fun v9 =>
    (slc s7 (1 : Int) (s7.length : Int)).bind fun v10 =>
    (iter n (fun s => m_constraint_path_L2 n v4 v9 s.1 s.2.1 s.2.2) ((0 : Int), s6, v10)).bind fun t11 =>
    some (.inl (t11.1, t11.2))
  else
  some (.inr (s6, s7))

def m_constraint_path_L3 (n : Nat) (a3 : Int) (v4 : (List (Int × (List Int)))) (t6 : ((List (Int × Int)) × (List Int))) (s7 : (List Int)) (s8 : Int) : Option (((List Int) × Int) ⊕ ((List Int) × Int)) :=
  if (!decide (s8 = a3)) = true then
    (m_slices_IndexFunc_int_int_f2 n ((mget v4 s8).getD ([] : (List Int))) (fun y1 => m_constraint_path_1 n y1 t6.1 s8)).bind fun v9 =>
    (ix ((mget v4 s8).getD ([] : (List Int))) v9).bind fun v10 =>
    (app 8 s7 ([v10] : List Int)).bind fun v11 =>
    some (.inl (v11, v10))
  else
  some (.inr (s7, s8))

/-- bookplate/constraint.path -/
def m_constraint_path (n : Nat) (a1 : (List SConstraint)) (a2 : Int) (a3 : Int) : Option (List Int) :=
  (m_constraint_neighbours n a1).bind fun v4 =>
  (some (mput ([] : (List (Int × Int))) a3 (0 : Int))).bind fun v5 =>
  (iter n (fun s => m_constraint_path_L1 n v4 s.1 s.2) (v5, ([a3] : List Int))).bind fun t6 =>
  (iter n (fun s => m_constraint_path_L3 n a3 v4 t6 s.1 s.2) (([a2] : List Int), a2)).bind fun t7 =>
  some t7.1

def m_constraint_Conflicts_L1 (n : Nat) (a1 : (List SConstraint)) (v3 : (List (Int × Int))) (v4 : (List SConstraint)) (s5 : (List SConflict)) (s6 : Int) : Option (((List SConflict) × Int) ⊕ (List SConflict)) :=
  if (decide (s6 < (v4.length : Int))) = true then
    (
      (ix v4 s6).bind fun v7 =>
      (ix v4 s6).bind fun v8 =>
      ((if (decide (v8.fKind = (2 : Int))) = true then m_constraint_classes_of n v3 v8.fA else some default)).bind fun v9 =>
      ((if (decide (v8.fKind = (2 : Int))) = true then m_constraint_classes_of n v3 v8.fB else some default)).bind fun v10 =>
      if ((decide (v8.fKind = (2 : Int))) && (decide (v9 = v10))) = true then
        (m_constraint_path n a1 v8.fA v8.fB).bind fun v11 =>
        (app 40 s5 ([(⟨(⟨v8.fA, v8.fB⟩ : SPair), v11⟩ : SConflict)] : List SConflict)).bind fun v12 =>
        some v12
      else
      some s5 : Option (List SConflict)).bind fun t13 =>
    some (.inl (t13, (IntKind.i64.wrap (s6 + (1 : Int)))))
  else
  some (.inr s5)

/-- bookplate/constraint.Conflicts -/
def m_constraint_Conflicts (n : Nat) (a1 : (List SConstraint)) : Option ((List SConflict) × Int) :=
  (m_constraint_Valid n a1).bind fun v2 =>
  if (!v2) = true then
    some ([], (1 : Int))
  else
  (m_constraint_classesOf n a1).bind fun v3 =>
  (m_constraint_normal n a1).bind fun v4 =>
  (iter n (fun s => m_constraint_Conflicts_L1 n a1 v3 v4 s.1 s.2) ([], (0 : Int))).bind fun t5 =>
  some (t5, (0 : Int))

def m_constraint_Rules_L1 (n : Nat) (a2 : (List Int)) (s4 : Int) : Option (Int ⊕ (((List SConstraint) × Int) ⊕ Unit)) :=
  if (decide (s4 < (a2.length : Int))) = true then
    (ix a2 s4).bind fun v5 =>
    (ix a2 (IntKind.i64.wrap (s4 - (1 : Int)))).bind fun v6 =>
    if (decide (v5 ≤ v6)) = true then
      some (.inr (.inl ([], (19 : Int))))
    else
    some (.inl (IntKind.i64.wrap (s4 + (1 : Int))))
  else
  some (.inr (.inr ()))

def m_constraint_Rules_L2 (n : Nat) (a2 : (List Int)) (v8 : (List (Int × Int))) (s9 : (List SConstraint)) (s10 : (List Int)) (s11 : Int) (s12 : (List (Int × Int))) : Option (((List SConstraint) × (List Int) × Int × (List (Int × Int))) ⊕ ((List SConstraint) × (List Int) × (List (Int × Int)))) :=
  if (decide (s11 < (a2.length : Int))) = true then
    (
      (ix a2 s11).bind fun v13 =>
      (m_constraint_classes_of n v8 v13).bind fun v14 =>
      if (mget s12 v14).isSome = true then
        (app 24 s9 ([(⟨(1 : Int), ((mget s12 v14).getD ((0 : Int) : Int)), s11⟩ : SConstraint)] : List SConstraint)).bind fun v15 =>
        some (v15, s10, s12)
      else
      (m_constraint_classes_of n v8 v13).bind fun v16 =>
      (some (mput s12 v16 s11)).bind fun v17 =>
      (app 8 s10 ([s11] : List Int)).bind fun v18 =>
      some (s9, v18, v17) : Option ((List SConstraint) × (List Int) × (List (Int × Int)))).bind fun t19 =>
    some (.inl (t19.1, t19.2.1, (IntKind.i64.wrap (s11 + (1 : Int))), t19.2.2))
  else
  some (.inr (s9, s10, s12))

def m_constraint_Rules_L4 (n : Nat) (a1 : (List SConstraint)) (a2 : (List Int)) (v8 : (List (Int × Int))) (v12 : Int) (v13 : (List Int)) (s14 : (List SConstraint)) (s15 : Int) : Option (((List SConstraint) × Int) ⊕ (List SConstraint)) :=
  if (decide (s15 < (v13.length : Int))) = true then
    (
      (ix v13 s15).bind fun v16 =>
      (ix a2 v12).bind fun v17 =>
      (ix a2 v16).bind fun v18 =>
      (m_constraint_apart n a1 v8 v17 v18).bind fun v19 =>
      if v19 = true then
        (app 24 s14 ([(⟨(2 : Int), v12, v16⟩ : SConstraint)] : List SConstraint)).bind fun v20 =>
        some v20
      else
      some s14 : Option (List SConstraint)).bind fun t21 =>
    some (.inl (t21, (IntKind.i64.wrap (s15 + (1 : Int)))))
  else
  some (.inr s14)

def m_constraint_Rules_L3 (n : Nat) (a1 : (List SConstraint)) (a2 : (List Int)) (v8 : (List (Int × Int))) (t9 : ((List SConstraint) × (List Int) × (List (Int × Int)))) (s10 : (List SConstraint)) (s11 : Int) : Option (((List SConstraint) × Int) ⊕ (List SConstraint)) :=
  if (decide (s11 < (t9.2.1.length : Int))) = true then
    (ix t9.2.1 s11).bind fun v12 =>
    (slc t9.2.1 (IntKind.i64.wrap (s11 + (1 : Int))) (t9.2.1.length : Int)).bind fun v13 =>
    (iter n (fun s => m_constraint_Rules_L4 n a1 a2 v8 v12 v13 s.1 s.2) (s10, (0 : Int))).bind fun t14 =>
    some (.inl (t14, (IntKind.i64.wrap (s11 + (1 : Int)))))
  else
  some (.inr s10)

/-- bookplate/constraint.Rules -/
def m_constraint_Rules (n : Nat) (a1 : (List SConstraint)) (a2 : (List Int)) : Option ((List SConstraint) × Int) :=
  (m_constraint_Valid n a1).bind fun v3 =>
  if (!v3) = true then
    some ([], (1 : Int))
  else
  (iter n (fun s => m_constraint_Rules_L1 n a2 s) (1 : Int)).bind fun t4 => match t4 with
  | (.inl u5) =>
    some u5
  | (.inr u6) =>
    (m_constraint_Conflicts n a1).bind fun v7 =>
    if (decide ((0 : Int) < (v7.1.length : Int))) = true then
      some ([], (13 : Int))
    else
    (m_constraint_classesOf n a1).bind fun v8 =>
    (iter n (fun s => m_constraint_Rules_L2 n a2 v8 s.1 s.2.1 s.2.2.1 s.2.2.2) ([], [], (0 : Int), [])).bind fun t9 =>
    (iter n (fun s => m_constraint_Rules_L3 n a1 a2 v8 t9 s.1 s.2) (t9.1, (0 : Int))).bind fun t10 =>
    (m_constraint_normal n t10).bind fun v11 =>
    some (v11, (0 : Int))

def m_ref32_Valid_L1 (n : Nat) (a1 : (List SConstraint)) (s2 : Int) : Option (Int ⊕ (Bool ⊕ Unit)) :=
  if (decide (s2 < (a1.length : Int))) = true then
    (ix a1 s2).bind fun v3 =>
    if (((((((!decide (v3.fKind = (1 : Int))) && (!decide (v3.fKind = (2 : Int)))) || (decide (v3.fA < (1 : Int)))) || (decide ((1000000000 : Int) < v3.fA))) || (decide (v3.fB < (1 : Int)))) || (decide ((1000000000 : Int) < v3.fB))) || (decide (v3.fA = v3.fB))) = true then
      some (.inr (.inl false))
    else
    some (.inl (IntKind.i64.wrap (s2 + (1 : Int))))
  else
  some (.inr (.inr ()))

/-- bookplate/bookplateref32.Valid -/
def m_ref32_Valid (n : Nat) (a1 : (List SConstraint)) : Option Bool :=
  (iter n (fun s => m_ref32_Valid_L1 n a1 s) (0 : Int)).bind fun t2 => match t2 with
  | (.inl u3) =>
    some u3
  | (.inr u4) =>
    some (decide ((a1.length : Int) ≤ (400 : Int)))

def m_ref32_Has_L1 (n : Nat) (a1 : (List Int)) (a2 : Int) (s3 : Int) : Option (Int ⊕ (Bool ⊕ Unit)) :=
  if (decide (s3 < (a1.length : Int))) = true then
    (ix a1 s3).bind fun v4 =>
    if (decide (v4 = a2)) = true then
      some (.inr (.inl true))
    else
    some (.inl (IntKind.i64.wrap (s3 + (1 : Int))))
  else
  some (.inr (.inr ()))

/-- bookplate/bookplateref32.Has -/
def m_ref32_Has (n : Nat) (a1 : (List Int)) (a2 : Int) : Option Bool :=
  (iter n (fun s => m_ref32_Has_L1 n a1 a2 s) (0 : Int)).bind fun t3 => match t3 with
  | (.inl u4) =>
    some u4
  | (.inr u5) =>
    some false

def m_ref32_SameInts_L1 (n : Nat) (a1 : (List Int)) (a2 : (List Int)) (s3 : Int) : Option (Int ⊕ (Bool ⊕ Unit)) :=
  if (decide (s3 < (a1.length : Int))) = true then
    (ix a1 s3).bind fun v4 =>
    (ix a2 s3).bind fun v5 =>
    if (!decide (v4 = v5)) = true then
      some (.inr (.inl false))
    else
    some (.inl (IntKind.i64.wrap (s3 + (1 : Int))))
  else
  some (.inr (.inr ()))

/-- bookplate/bookplateref32.SameInts -/
def m_ref32_SameInts (n : Nat) (a1 : (List Int)) (a2 : (List Int)) : Option Bool :=
  if (!decide ((a1.length : Int) = (a2.length : Int))) = true then
    some false
  else
  (iter n (fun s => m_ref32_SameInts_L1 n a1 a2 s) (0 : Int)).bind fun t3 => match t3 with
  | (.inl u4) =>
    some u4
  | (.inr u5) =>
    some true

def m_ref32_SameGroups_L1 (n : Nat) (a1 : (List (List Int))) (a2 : (List (List Int))) (s3 : Int) : Option (Int ⊕ (Bool ⊕ Unit)) :=
  if (decide (s3 < (a1.length : Int))) = true then
    (ix a1 s3).bind fun v4 =>
    (ix a2 s3).bind fun v5 =>
    (m_ref32_SameInts n v4 v5).bind fun v6 =>
    if (!v6) = true then
      some (.inr (.inl false))
    else
    some (.inl (IntKind.i64.wrap (s3 + (1 : Int))))
  else
  some (.inr (.inr ()))

/-- bookplate/bookplateref32.SameGroups -/
def m_ref32_SameGroups (n : Nat) (a1 : (List (List Int))) (a2 : (List (List Int))) : Option Bool :=
  if (!decide ((a1.length : Int) = (a2.length : Int))) = true then
    some false
  else
  (iter n (fun s => m_ref32_SameGroups_L1 n a1 a2 s) (0 : Int)).bind fun t3 => match t3 with
  | (.inl u4) =>
    some u4
  | (.inr u5) =>
    some true

/-- bookplate/bookplatelaw32.awake -/
def m_law32_awake (n : Nat) : Option Bool :=
  (m_constraint_Groups n ([(⟨(1 : Int), (1 : Int), (2 : Int)⟩ : SConstraint), (⟨(1 : Int), (2 : Int), (3 : Int)⟩ : SConstraint), (⟨(2 : Int), (1 : Int), (4 : Int)⟩ : SConstraint)] : List SConstraint)).bind fun v1 =>
  (m_constraint_Apart n ([(⟨(1 : Int), (1 : Int), (2 : Int)⟩ : SConstraint), (⟨(1 : Int), (2 : Int), (3 : Int)⟩ : SConstraint), (⟨(2 : Int), (1 : Int), (4 : Int)⟩ : SConstraint)] : List SConstraint) (3 : Int) (4 : Int)).bind fun v2 =>
  (app 24 (([(⟨(1 : Int), (1 : Int), (2 : Int)⟩ : SConstraint), (⟨(1 : Int), (2 : Int), (3 : Int)⟩ : SConstraint), (⟨(2 : Int), (1 : Int), (4 : Int)⟩ : SConstraint)] : List SConstraint) : List SConstraint) ([(⟨(2 : Int), (1 : Int), (3 : Int)⟩ : SConstraint)] : List SConstraint)).bind fun v3 =>
  (m_constraint_Conflicts n v3).bind fun v4 =>
  ((if ((((decide (v1.2 = (0 : Int))) && (decide (v2.2 = (0 : Int)))) && (decide (v4.2 = (0 : Int)))) && v2.1) = true then m_ref32_SameGroups n v1.1 ([([(1 : Int), (2 : Int), (3 : Int)] : List Int)] : List (List Int)) else some default)).bind fun v5 =>
  ((if ((((((decide (v1.2 = (0 : Int))) && (decide (v2.2 = (0 : Int)))) && (decide (v4.2 = (0 : Int)))) && v2.1) && v5) && (decide ((v4.1.length : Int) = (1 : Int)))) = true then ix v4.1 (0 : Int) else some default)).bind fun v6 =>
  ((if ((((((decide (v1.2 = (0 : Int))) && (decide (v2.2 = (0 : Int)))) && (decide (v4.2 = (0 : Int)))) && v2.1) && v5) && (decide ((v4.1.length : Int) = (1 : Int)))) = true then m_ref32_SameInts n v6.fPath ([(1 : Int), (2 : Int), (3 : Int)] : List Int) else some default)).bind fun v7 =>
  ((if (((((((decide (v1.2 = (0 : Int))) && (decide (v2.2 = (0 : Int)))) && (decide (v4.2 = (0 : Int)))) && v2.1) && v5) && (decide ((v4.1.length : Int) = (1 : Int)))) && v7) = true then m_constraint_Valid n ([(⟨(1 : Int), (1 : Int), (2 : Int)⟩ : SConstraint), (⟨(1 : Int), (2 : Int), (3 : Int)⟩ : SConstraint), (⟨(2 : Int), (1 : Int), (4 : Int)⟩ : SConstraint)] : List SConstraint) else some default)).bind fun v8 =>
  some ((((((((decide (v1.2 = (0 : Int))) && (decide (v2.2 = (0 : Int)))) && (decide (v4.2 = (0 : Int)))) && v2.1) && v5) && (decide ((v4.1.length : Int) = (1 : Int)))) && v7) && v8)

def m_law32_ConstraintSolved_L1 (n : Nat) (v6 : ((List SConstraint) × Int)) (s7 : (List SConstraint)) (s8 : Int) : Option (((List SConstraint) × Int) ⊕ (List SConstraint)) :=
  if (decide (s8 < (v6.1.length : Int))) = true then
    (ix v6.1 s8).bind fun v9 =>
    (app 24 s7 ([(⟨v9.fKind, (IntKind.i64.wrap (v9.fA + (1 : Int))), (IntKind.i64.wrap (v9.fB + (1 : Int)))⟩ : SConstraint)] : List SConstraint)).bind fun v10 =>
    some (.inl (v10, (IntKind.i64.wrap (s8 + (1 : Int)))))
  else
  some (.inr s7)

def m_law32_ConstraintSolved_L3 (n : Nat) (a1 : (List SConstraint)) (a2 : (List Int)) (t7 : (List SConstraint)) (s8 : Int) (v10 : ((List Int) × Int)) (v11 : ((List Int) × Int)) (s12 : Int) : Option (Int ⊕ (Bool ⊕ Unit)) :=
  if (decide (s12 < (a2.length : Int))) = true then
    (ix a2 s8).bind fun v13 =>
    (ix a2 s12).bind fun v14 =>
    (m_constraint_Apart n a1 v13 v14).bind fun v15 =>
    (m_constraint_Apart n t7 (IntKind.i64.wrap (s8 + (1 : Int))) (IntKind.i64.wrap (s12 + (1 : Int)))).bind fun v16 =>
    ((if (!(((!decide (v15.2 = (0 : Int))) || (!decide (v16.2 = (0 : Int)))) || (!(v15.1 == v16.1)))) = true then ix a2 s12 else some default)).bind fun v17 =>
    ((if (!(((!decide (v15.2 = (0 : Int))) || (!decide (v16.2 = (0 : Int)))) || (!(v15.1 == v16.1)))) = true then m_ref32_Has n v10.1 v17 else some default)).bind fun v18 =>
    ((if (!(((!decide (v15.2 = (0 : Int))) || (!decide (v16.2 = (0 : Int)))) || (!(v15.1 == v16.1)))) = true then m_ref32_Has n v11.1 (IntKind.i64.wrap (s12 + (1 : Int))) else some default)).bind fun v19 =>
    if ((((!decide (v15.2 = (0 : Int))) || (!decide (v16.2 = (0 : Int)))) || (!(v15.1 == v16.1))) || (!(v18 == v19))) = true then
      some (.inr (.inl false))
    else
    some (.inl (IntKind.i64.wrap (s12 + (1 : Int))))
  else
  some (.inr (.inr ()))

def m_law32_ConstraintSolved_L2 (n : Nat) (a1 : (List SConstraint)) (a2 : (List Int)) (t7 : (List SConstraint)) (s8 : Int) : Option (Int ⊕ (Bool ⊕ Unit)) :=
  if (decide (s8 < (a2.length : Int))) = true then
    (ix a2 s8).bind fun v9 =>
    (m_constraint_Group n a1 v9).bind fun v10 =>
    (m_constraint_Group n t7 (IntKind.i64.wrap (s8 + (1 : Int)))).bind fun v11 =>
    if ((!decide (v10.2 = (0 : Int))) || (!decide (v11.2 = (0 : Int)))) = true then
      some (.inr (.inl false))
    else
    (iter n (fun s => m_law32_ConstraintSolved_L3 n a1 a2 t7 s8 v10 v11 s) (0 : Int)).bind fun t12 => match t12 with
    | (.inl u13) =>
      some (.inr (.inl u13))
    | (.inr u14) =>
      some (.inl (IntKind.i64.wrap (s8 + (1 : Int))))
  else
  some (.inr (.inr ()))

/-- bookplate/bookplatelaw32.ConstraintSolved -/
def m_law32_ConstraintSolved (n : Nat) (a1 : (List SConstraint)) (a2 : (List Int)) : Option Bool :=
  (m_law32_awake n).bind fun v3 =>
  ((if (!(((!v3) || (decide ((14 : Int) < (a1.length : Int)))) || (decide ((10 : Int) < (a2.length : Int))))) = true then m_ref32_Valid n a1 else some default)).bind fun v4 =>
  if ((((!v3) || (decide ((14 : Int) < (a1.length : Int)))) || (decide ((10 : Int) < (a2.length : Int)))) || (!v4)) = true then
    (m_law32_awake n).bind fun v5 =>
    some v5
  else
  (m_constraint_Rules n a1 a2).bind fun v6 =>
  if (!decide (v6.2 = (0 : Int))) = true then
    some ((decide (v6.2 = (19 : Int))) || (decide (v6.2 = (13 : Int))))
  else
  (iter n (fun s => m_law32_ConstraintSolved_L1 n v6 s.1 s.2) ([], (0 : Int))).bind fun t7 =>
  (iter n (fun s => m_law32_ConstraintSolved_L2 n a1 a2 t7 s) (0 : Int)).bind fun t8 => match t8 with
  | (.inl u9) =>
    some u9
  | (.inr u10) =>
    some true

end
end Go.Proofs.Ytkfffaoopcnaoaa.Ab
