/- The functions in plain Lean. Conditions: none. -/
import Derived.Test.YtkdefjliknpliaaGreatDoorAx
import Derived.Test.YtkdefjliknpliaaGreatDoorIm
import Derived.Test.YtkdefjliknpliaaGreatDoorIj
import Derived.Test.YtkdefjliknpliaaGreatDoorAb35
set_option maxRecDepth 100000
namespace Go.Proofs.YtkdefjliknpliaaGreatDoor.Ab
open Go
attribute [local irreducible] AL AD AW nlO nlV nlD
noncomputable section
structure SBlock where
  fKey : (List UInt8)
  fIDs : (List Int)
  deriving Inhabited, DecidableEq
def SBlock.e (x : SBlock) : D := .agg [(.str x.fKey), (.sl (x.fIDs.map D.i))]
theorem enSBlock : En SBlock.e 2 := ⟨fun _ => rfl, fun x y hy => by
  have hy' : y ∈ [((.str x.fKey) : D), ((.sl (x.fIDs.map D.i)) : D)] := hy
  simp only [List.mem_cons, List.not_mem_nil, or_false] at hy'
  rcases hy' with rfl | rfl <;> rfl⟩
structure SFeatures where
  fID : Int
  fTitle : (List (List UInt8))
  fAuthor : (List UInt8)
  fYears : (List Int)
  fIsbns : (List (List UInt8))
  fLangs : (List (List UInt8))
  fPublisher : (List (List UInt8))
  fEdition : (List (List UInt8))
  deriving Inhabited, DecidableEq
def SFeatures.e (x : SFeatures) : D := .agg [(.int .i64 x.fID), (.sl (x.fTitle.map D.str)), (.str x.fAuthor), (.sl (x.fYears.map D.i)), (.sl (x.fIsbns.map D.str)), (.sl (x.fLangs.map D.str)), (.sl (x.fPublisher.map D.str)), (.sl (x.fEdition.map D.str))]
theorem enSFeatures : En SFeatures.e 8 := ⟨fun _ => rfl, fun x y hy => by
  have hy' : y ∈ [((.int .i64 x.fID) : D), ((.sl (x.fTitle.map D.str)) : D), ((.str x.fAuthor) : D), ((.sl (x.fYears.map D.i)) : D), ((.sl (x.fIsbns.map D.str)) : D), ((.sl (x.fLangs.map D.str)) : D), ((.sl (x.fPublisher.map D.str)) : D), ((.sl (x.fEdition.map D.str)) : D)] := hy
  simp only [List.mem_cons, List.not_mem_nil, or_false] at hy'
  rcases hy' with rfl | rfl | rfl | rfl | rfl | rfl | rfl | rfl <;> rfl⟩
structure SPair where
  fA : Int
  fB : Int
  deriving Inhabited, DecidableEq
def SPair.e (x : SPair) : D := .agg [(.int .i64 x.fA), (.int .i64 x.fB)]
theorem enSPair : En SPair.e 2 := ⟨fun _ => rfl, fun x y hy => by
  have hy' : y ∈ [((.int .i64 x.fA) : D), ((.int .i64 x.fB) : D)] := hy
  simp only [List.mem_cons, List.not_mem_nil, or_false] at hy'
  rcases hy' with rfl | rfl <;> rfl⟩
structure A2 where
  e0 : Int
  e1 : Int
  deriving Inhabited, DecidableEq
def A2.e (x : A2) : D := .agg [(.int .u8 x.e0), (.int .u8 x.e1)]
def A2.l (x : A2) : List Int := [x.e0, x.e1]
def A2.put (x : A2) (k : Int) (v : Int) : Option A2 :=
  if k = 0 then some { x with e0 := v } else if k = 1 then some { x with e1 := v } else none
def cmpI (a b : Int) : Int := if a < b then -1 else if b < a then 1 else 0
def orI (a b : Int) : Int := if a = 0 then b else a
def cfP (x y : SPair) : Int := orI (cmpI x.fA y.fA) (cmpI x.fB y.fB)
def m_block_ids_L1 (_n : Nat) (a1 : (List Int)) (s2 : Int) : Option (Int ⊕ (Bool ⊕ Unit)) :=
  if (decide (s2 < (a1.length : Int))) = true then
    (ix a1 s2).bind fun v3 =>
    ((if ((!((decide (v3 < (1 : Int))) || (decide ((1000000000 : Int) < v3)))) && (decide ((0 : Int) < s2))) = true then ix a1 (IntKind.i64.wrap (s2 - (1 : Int))) else some default)).bind fun v4 =>
    if (((decide (v3 < (1 : Int))) || (decide ((1000000000 : Int) < v3))) || ((decide ((0 : Int) < s2)) && (decide (v3 ≤ v4)))) = true then
      some (.inr (.inl false))
    else
    some (.inl (IntKind.i64.wrap (s2 + (1 : Int))))
  else
  some (.inr (.inr ()))
def m_block_ids (n : Nat) (a1 : (List Int)) : Option Bool :=
  (iter n (fun s => m_block_ids_L1 n a1 s) (0 : Int)).bind fun t2 => match t2 with
  | (.inl u3) =>
    some u3
  | (.inr _u4) =>
    some (decide ((0 : Int) < (a1.length : Int)))
def m_block_Valid_L1 (n : Nat) (a1 : (List SBlock)) (s2 : Int) : Option (Int ⊕ (Bool ⊕ Unit)) :=
  if (decide (s2 < (a1.length : Int))) = true then
    (ix a1 s2).bind fun v3 =>
    ((if ((!(decide (v3.fKey = ([] : List UInt8)))) && (decide ((0 : Int) < s2))) = true then ix a1 (IntKind.i64.wrap (s2 - (1 : Int))) else some default)).bind fun v4 =>
    ((if (!((decide (v3.fKey = ([] : List UInt8))) || ((decide ((0 : Int) < s2)) && ((ltS v3.fKey v4.fKey || decide (v3.fKey = v4.fKey)))))) = true then m_block_ids n v3.fIDs else some default)).bind fun v5 =>
    if (((decide (v3.fKey = ([] : List UInt8))) || ((decide ((0 : Int) < s2)) && ((ltS v3.fKey v4.fKey || decide (v3.fKey = v4.fKey))))) || (!v5)) = true then
      some (.inr (.inl false))
    else
    some (.inl (IntKind.i64.wrap (s2 + (1 : Int))))
  else
  some (.inr (.inr ()))
def m_block_Valid (n : Nat) (a1 : (List SBlock)) : Option Bool :=
  (iter n (fun s => m_block_Valid_L1 n a1 s) (0 : Int)).bind fun t2 => match t2 with
  | (.inl u3) =>
    some u3
  | (.inr _u4) =>
    some true
def m_slices_IndexFunc_byte_byte_L1 (_n : Nat) (a1 : (List Int)) (p2 : Int → Option Bool) (s3 : Int) : Option (Int ⊕ (Int ⊕ Unit)) :=
  if (decide (s3 < (a1.length : Int))) = true then
    (ix a1 s3).bind fun v4 =>
    (p2 v4).bind fun v5 =>
    if v5 = true then
      some (.inr (.inl s3))
    else
    some (.inl (IntKind.i64.wrap (s3 + (1 : Int))))
  else
  some (.inr (.inr ()))
def m_slices_IndexFunc_byte_byte (n : Nat) (a1 : (List Int)) (p2 : Int → Option Bool) : Option Int :=
  (iter n (fun s => m_slices_IndexFunc_byte_byte_L1 n a1 p2 s) (0 : Int)).bind fun t3 => match t3 with
  | (.inl u4) =>
    some u4
  | (.inr _u5) =>
    some (-1 : Int)
def m_slices_ContainsFunc_byte_byte (n : Nat) (a1 : (List Int)) (p2 : Int → Option Bool) : Option Bool :=
  (m_slices_IndexFunc_byte_byte n a1 p2).bind fun v3 =>
  some (decide ((0 : Int) ≤ v3))
def m_feature_only_1 (_n : Nat) (a1 : Int) (c2 : Int) (c3 : Int) : Option Bool :=
  some ((decide (a1 < c2)) || (decide (c3 < a1)))
def m_feature_only (n : Nat) (a1 : (List UInt8)) (a2 : Int) (a3 : Int) : Option Bool :=
  (m_slices_ContainsFunc_byte_byte n (byteL a1) (fun y1 => m_feature_only_1 n y1 a2 a3)).bind fun v4 =>
  some (!v4)
def m_slices_IndexFunc_string_string_L1 (_n : Nat) (a1 : (List (List UInt8))) (p2 : (List UInt8) → Option Bool) (s3 : Int) : Option (Int ⊕ (Int ⊕ Unit)) :=
  if (decide (s3 < (a1.length : Int))) = true then
    (ix a1 s3).bind fun v4 =>
    (p2 v4).bind fun v5 =>
    if v5 = true then
      some (.inr (.inl s3))
    else
    some (.inl (IntKind.i64.wrap (s3 + (1 : Int))))
  else
  some (.inr (.inr ()))
def m_slices_IndexFunc_string_string (n : Nat) (a1 : (List (List UInt8))) (p2 : (List UInt8) → Option Bool) : Option Int :=
  (iter n (fun s => m_slices_IndexFunc_string_string_L1 n a1 p2 s) (0 : Int)).bind fun t3 => match t3 with
  | (.inl u4) =>
    some u4
  | (.inr _u5) =>
    some (-1 : Int)
def m_slices_ContainsFunc_string_string (n : Nat) (a1 : (List (List UInt8))) (p2 : (List UInt8) → Option Bool) : Option Bool :=
  (m_slices_IndexFunc_string_string n a1 p2).bind fun v3 =>
  some (decide ((0 : Int) ≤ v3))
def m_feature_word (n : Nat) (a1 : (List UInt8)) : Option Bool :=
  ((if ((!decide (a1 = ([] : List UInt8))) && (decide ((a1.length : Int) ≤ (400 : Int)))) = true then m_feature_only n a1 (33 : Int) (255 : Int) else some default)).bind fun v2 =>
  some (((!decide (a1 = ([] : List UInt8))) && (decide ((a1.length : Int) ≤ (400 : Int)))) && v2)
def m_feature_Valid_1 (n : Nat) (a1 : (List UInt8)) : Option Bool :=
  (m_feature_word n a1).bind fun v2 =>
  some (!v2)
def m_feature_years_L1 (_n : Nat) (a1 : (List Int)) (s2 : Int) : Option (Int ⊕ (Bool ⊕ Unit)) :=
  if (decide (s2 < (a1.length : Int))) = true then
    (ix a1 s2).bind fun v3 =>
    ((if ((!((decide (v3 < (1000 : Int))) || (decide ((2999 : Int) < v3)))) && (decide ((0 : Int) < s2))) = true then ix a1 (IntKind.i64.wrap (s2 - (1 : Int))) else some default)).bind fun v4 =>
    if (((decide (v3 < (1000 : Int))) || (decide ((2999 : Int) < v3))) || ((decide ((0 : Int) < s2)) && (decide (v3 ≤ v4)))) = true then
      some (.inr (.inl false))
    else
    some (.inl (IntKind.i64.wrap (s2 + (1 : Int))))
  else
  some (.inr (.inr ()))
def m_feature_years (n : Nat) (a1 : (List Int)) : Option Bool :=
  (iter n (fun s => m_feature_years_L1 n a1 s) (0 : Int)).bind fun t2 => match t2 with
  | (.inl u3) =>
    some u3
  | (.inr _u4) =>
    some (decide ((a1.length : Int) ≤ (20 : Int)))
def m_feature_set_L1 (_n : Nat) (a1 : (List (List UInt8))) (p3 : (List UInt8) → Option Bool) (s4 : Int) : Option (Int ⊕ (Bool ⊕ Unit)) :=
  if (decide (s4 < (a1.length : Int))) = true then
    (ix a1 s4).bind fun v5 =>
    (p3 v5).bind fun v6 =>
    ((if ((!(!v6)) && (decide ((0 : Int) < s4))) = true then ix a1 (IntKind.i64.wrap (s4 - (1 : Int))) else some default)).bind fun v7 =>
    if ((!v6) || ((decide ((0 : Int) < s4)) && ((ltS v5 v7 || decide (v5 = v7))))) = true then
      some (.inr (.inl false))
    else
    some (.inl (IntKind.i64.wrap (s4 + (1 : Int))))
  else
  some (.inr (.inr ()))
def m_feature_set (n : Nat) (a1 : (List (List UInt8))) (a2 : Int) (p3 : (List UInt8) → Option Bool) : Option Bool :=
  (iter n (fun s => m_feature_set_L1 n a1 p3 s) (0 : Int)).bind fun t4 => match t4 with
  | (.inl u5) =>
    some u5
  | (.inr _u6) =>
    some (decide ((a1.length : Int) ≤ a2))
def m_feature_isbn (n : Nat) (a1 : (List UInt8)) : Option Bool :=
  ((if (decide ((a1.length : Int) = (13 : Int))) = true then m_feature_only n a1 (48 : Int) (57 : Int) else some default)).bind fun v2 =>
  some ((decide ((a1.length : Int) = (13 : Int))) && v2)
def m_feature_lang (n : Nat) (a1 : (List UInt8)) : Option Bool :=
  ((if (decide ((a1.length : Int) = (3 : Int))) = true then m_feature_only n a1 (97 : Int) (122 : Int) else some default)).bind fun v2 =>
  some ((decide ((a1.length : Int) = (3 : Int))) && v2)
def m_feature_Valid (n : Nat) (a1 : SFeatures) : Option Bool :=
  ((if (!((((decide (a1.fID < (1 : Int))) || (decide ((1000000000 : Int) < a1.fID))) || (decide ((200 : Int) < (a1.fTitle.length : Int)))) || (decide ((420 : Int) < (a1.fAuthor.length : Int))))) = true then m_feature_only n a1.fAuthor (32 : Int) (255 : Int) else some default)).bind fun v2 =>
  if (((((decide (a1.fID < (1 : Int))) || (decide ((1000000000 : Int) < a1.fID))) || (decide ((200 : Int) < (a1.fTitle.length : Int)))) || (decide ((420 : Int) < (a1.fAuthor.length : Int)))) || (!v2)) = true then
    some false
  else
  ((if (!decide (a1.fAuthor = ([] : List UInt8))) = true then ixS a1.fAuthor (0 : Int) else some default)).bind fun v3 =>
  ((if ((!decide (a1.fAuthor = ([] : List UInt8))) && (!(decide (v3 = (32 : Int))))) = true then ixS a1.fAuthor (IntKind.i64.wrap ((a1.fAuthor.length : Int) - (1 : Int))) else some default)).bind fun v4 =>
  if ((!decide (a1.fAuthor = ([] : List UInt8))) && ((decide (v3 = (32 : Int))) || (decide (v4 = (32 : Int))))) = true then
    some false
  else
  (m_slices_ContainsFunc_string_string n a1.fTitle (fun y1 => m_feature_Valid_1 n y1)).bind fun v5 =>
  if v5 = true then
    some false
  else
  (m_feature_years n a1.fYears).bind fun v6 =>
  ((if v6 = true then m_feature_set n a1.fIsbns (20 : Int) (fun y1 => m_feature_isbn n y1) else some default)).bind fun v7 =>
  ((if (v6 && v7) = true then m_feature_set n a1.fLangs (20 : Int) (fun y1 => m_feature_lang n y1) else some default)).bind fun v8 =>
  ((if ((v6 && v7) && v8) = true then m_feature_set n a1.fPublisher (200 : Int) (fun y1 => m_feature_word n y1) else some default)).bind fun v9 =>
  ((if (((v6 && v7) && v8) && v9) = true then m_feature_set n a1.fEdition (200 : Int) (fun y1 => m_feature_word n y1) else some default)).bind fun v10 =>
  some ((((v6 && v7) && v8) && v9) && v10)
def m_block_longest_L1 (_n : Nat) (a1 : (List (List UInt8))) (s2 : (List UInt8)) (s3 : Int) : Option (((List UInt8) × Int) ⊕ (List UInt8)) :=
  if (decide (s3 < (a1.length : Int))) = true then
    (
      (ix a1 s3).bind fun v4 =>
      if (decide ((s2.length : Int) < (v4.length : Int))) = true then
        some v4
      else
      some s2 : Option (List UInt8)).bind fun t5 =>
    some (.inl (t5, (IntKind.i64.wrap (s3 + (1 : Int)))))
  else
  some (.inr s2)
def m_block_longest (n : Nat) (a1 : (List (List UInt8))) : Option (List UInt8) :=
  (iter n (fun s => m_block_longest_L1 n a1 s.1 s.2) (([] : List UInt8), (0 : Int))).bind fun t2 =>
  some t2
def m_slices_Sort_string_string (_n : Nat) (c1 : List (List UInt8)) : Option (List (List UInt8)) := if c1.length < 4611686018427387904 then some (isort strLt c1) else none
def m_block_Keys_L1 (_n : Nat) (a1 : SFeatures) (s3 : Int) (s4 : (List ((List UInt8) × Bool))) : Option ((Int × (List ((List UInt8) × Bool))) ⊕ (List ((List UInt8) × Bool))) :=
  if (decide (s3 < (a1.fIsbns.length : Int))) = true then
    (ix a1.fIsbns s3).bind fun v5 =>
    (appS ([105, 32] : List UInt8) v5).bind fun v6 =>
    (some (mput s4 v6 true)).bind fun v7 =>
    some (.inl ((IntKind.i64.wrap (s3 + (1 : Int))), v7))
  else
  some (.inr s4)
def m_block_Keys_L2 (n : Nat) (a1 : SFeatures) (s14 : Int) (s15 : (List ((List UInt8) × Bool))) : Option ((Int × (List ((List UInt8) × Bool))) ⊕ (List ((List UInt8) × Bool))) :=
  if (decide (s14 < (a1.fYears.length : Int))) = true then
    (ix a1.fYears s14).bind fun v16 =>
    (itoaM v16).bind fun v17 =>
    (appS ([121, 32] : List UInt8) v17).bind fun v18 =>
    (appS v18 ([32] : List UInt8)).bind fun v19 =>
    (m_block_longest n a1.fTitle).bind fun v20 =>
    (appS v19 v20).bind fun v21 =>
    (some (mput s15 v21 true)).bind fun v22 =>
    some (.inl ((IntKind.i64.wrap (s14 + (1 : Int))), v22))
  else
  some (.inr s15)
def m_block_Keys_L3 (_n : Nat) (s16 : (List (List UInt8))) (e_3 : ((List UInt8) × Bool)) : Option ((List (List UInt8)) ⊕ (List (List UInt8))) :=
  (app 16 s16 ([e_3.1] : List (List UInt8))).bind fun v17 =>
  some (.inl v17)
def m_block_Keys (n : Nat) (a1 : SFeatures) : Option (List (List UInt8)) :=
  (m_feature_Valid n (⟨a1.fID, a1.fTitle, a1.fAuthor, a1.fYears, a1.fIsbns, a1.fLangs, a1.fPublisher, a1.fEdition⟩ : SFeatures)).bind fun v2 =>
  if (!v2) = true then
    some []
  else
  (iter n (fun s => m_block_Keys_L1 n a1 s.1 s.2) ((0 : Int), [])).bind fun t3 =>
  (
    if (decide ((0 : Int) < (a1.fTitle.length : Int))) = true then
      (slc a1.fTitle (0 : Int) (min (a1.fTitle.length : Int) (3 : Int))).bind fun v4 =>
      (joinM v4 ([32] : List UInt8)).bind fun v5 =>
      (appS ([116, 32] : List UInt8) v5).bind fun v6 =>
      (some (mput t3 v6 true)).bind fun v7 =>
      (
        if (!decide (a1.fAuthor = ([] : List UInt8))) = true then
          (appS ([97, 32] : List UInt8) a1.fAuthor).bind fun v8 =>
          (appS v8 ([32] : List UInt8)).bind fun v9 =>
          (ix a1.fTitle (0 : Int)).bind fun v10 =>
          (appS v9 v10).bind fun v11 =>
          (some (mput v7 v11 true)).bind fun v12 =>
          some v12
        else
        some v7 : Option (List ((List UInt8) × Bool))).bind fun t13 =>
      (iter n (fun s => m_block_Keys_L2 n a1 s.1 s.2) ((0 : Int), t13)).bind fun t14 =>
      some t14
    else
    some t3 : Option (List ((List UInt8) × Bool))).bind fun t15 =>
  rangeK (fun s e => m_block_Keys_L3 n s e) (fun s => (s : (List (List UInt8)))) ([] : (List (List UInt8))) t15 (fun t16 =>
    (m_slices_Sort_string_string n t16).bind fun v17 =>
    some v17)
def m_cmp_isNaN_string (_n : Nat) (a1 : (List UInt8)) : Option Bool :=
  some (!decide (a1 = a1))
def m_cmp_Compare_string (n : Nat) (a1 : (List UInt8)) (a2 : (List UInt8)) : Option Int :=
  (m_cmp_isNaN_string n a1).bind fun v3 =>
  (m_cmp_isNaN_string n a2).bind fun v4 =>
  if v3 = true then
    if v4 = true then
      some (0 : Int)
    else
    some (-1 : Int)
  else
  if v4 = true then
    some (1 : Int)
  else
  if (ltS a1 a2) = true then
    some (-1 : Int)
  else
  if (!(ltS a1 a2 || decide (a1 = a2))) = true then
    some (1 : Int)
  else
  some (0 : Int)
def m_block_find_1 (n : Nat) (a1 : SBlock) (a2 : (List UInt8)) : Option Int :=
  (m_cmp_Compare_string n a1.fKey a2).bind fun v3 =>
  some v3
def m_slices_BinarySearchFunc_block_Table_block_Block_string_L1 (n : Nat) (a1 : (List SBlock)) (a2 : (List UInt8)) (s3 : Int) (s4 : Int) : Option ((Int × Int) ⊕ Int) :=
  if (decide (s3 < s4)) = true then
    (shrM .u64 (IntKind.u64.wrap (IntKind.i64.wrap (s3 + s4))) (1 : Int)).bind fun v5 =>
    (ix a1 (IntKind.i64.wrap v5)).bind fun v6 =>
    (m_block_find_1 n v6 a2).bind fun v7 =>
    if (decide (v7 < (0 : Int))) = true then
      some (.inl ((IntKind.i64.wrap ((IntKind.i64.wrap v5) + (1 : Int))), s4))
    else
    some (.inl (s3, (IntKind.i64.wrap v5)))
  else
  some (.inr s3)
def m_slices_BinarySearchFunc_block_Table_block_Block_string (n : Nat) (a1 : (List SBlock)) (a2 : (List UInt8)) : Option (Int × Bool) :=
  (iter n (fun s => m_slices_BinarySearchFunc_block_Table_block_Block_string_L1 n a1 a2 s.1 s.2) ((0 : Int), (a1.length : Int))).bind fun t3 =>
  ((if (decide (t3 < (a1.length : Int))) = true then ix a1 t3 else some default)).bind fun v4 =>
  ((if (decide (t3 < (a1.length : Int))) = true then m_block_find_1 n v4 a2 else some default)).bind fun v5 =>
  some (t3, ((decide (t3 < (a1.length : Int))) && (decide (v5 = (0 : Int)))))
def m_block_find (n : Nat) (a1 : (List SBlock)) (a2 : (List UInt8)) : Option (Int × Bool) :=
  (m_slices_BinarySearchFunc_block_Table_block_Block_string n a1 a2).bind fun v3 =>
  some (v3.1, v3.2)
def m_slices_IndexFunc_block_Table_block_Block_L1 (_n : Nat) (a1 : (List SBlock)) (p2 : SBlock → Option Bool) (s3 : Int) : Option (Int ⊕ (Int ⊕ Unit)) :=
  if (decide (s3 < (a1.length : Int))) = true then
    (ix a1 s3).bind fun v4 =>
    (p2 v4).bind fun v5 =>
    if v5 = true then
      some (.inr (.inl s3))
    else
    some (.inl (IntKind.i64.wrap (s3 + (1 : Int))))
  else
  some (.inr (.inr ()))
def m_slices_IndexFunc_block_Table_block_Block (n : Nat) (a1 : (List SBlock)) (p2 : SBlock → Option Bool) : Option Int :=
  (iter n (fun s => m_slices_IndexFunc_block_Table_block_Block_L1 n a1 p2 s) (0 : Int)).bind fun t3 => match t3 with
  | (.inl u4) =>
    some u4
  | (.inr _u5) =>
    some (-1 : Int)
def m_slices_ContainsFunc_block_Table_block_Block (n : Nat) (a1 : (List SBlock)) (p2 : SBlock → Option Bool) : Option Bool :=
  (m_slices_IndexFunc_block_Table_block_Block n a1 p2).bind fun v3 =>
  some (decide ((0 : Int) ≤ v3))
def m_slices_Index_int_int_L1 (_n : Nat) (a1 : (List Int)) (a2 : Int) (s3 : Int) : Option (Int ⊕ (Int ⊕ Unit)) :=
  if (decide (s3 < (a1.length : Int))) = true then
    (ix a1 s3).bind fun v4 =>
    if (decide (a2 = v4)) = true then
      some (.inr (.inl s3))
    else
    some (.inl (IntKind.i64.wrap (s3 + (1 : Int))))
  else
  some (.inr (.inr ()))
def m_slices_Index_int_int (n : Nat) (a1 : (List Int)) (a2 : Int) : Option Int :=
  (iter n (fun s => m_slices_Index_int_int_L1 n a1 a2 s) (0 : Int)).bind fun t3 => match t3 with
  | (.inl u4) =>
    some u4
  | (.inr _u5) =>
    some (-1 : Int)
def m_slices_Contains_int_int (n : Nat) (a1 : (List Int)) (a2 : Int) : Option Bool :=
  (m_slices_Index_int_int n a1 a2).bind fun v3 =>
  some (decide ((0 : Int) ≤ v3))
def m_block_has_1 (n : Nat) (a1 : SBlock) (c2 : Int) : Option Bool :=
  (m_slices_Contains_int_int n a1.fIDs c2).bind fun v3 =>
  some v3
def m_block_has (n : Nat) (a1 : (List SBlock)) (a2 : Int) : Option Bool :=
  (m_slices_ContainsFunc_block_Table_block_Block n a1 (fun y1 => m_block_has_1 n y1 a2)).bind fun v3 =>
  some v3
def m_cmp_isNaN_int (_n : Nat) (a1 : Int) : Option Bool :=
  some (!decide (a1 = a1))
def m_cmp_Compare_int (n : Nat) (a1 : Int) (a2 : Int) : Option Int :=
  (m_cmp_isNaN_int n a1).bind fun v3 =>
  (m_cmp_isNaN_int n a2).bind fun v4 =>
  if v3 = true then
    if v4 = true then
      some (0 : Int)
    else
    some (-1 : Int)
  else
  if v4 = true then
    some (1 : Int)
  else
  if (decide (a1 < a2)) = true then
    some (-1 : Int)
  else
  if (decide (a2 < a1)) = true then
    some (1 : Int)
  else
  some (0 : Int)
def m_cmp_Or_int_L1 (_n : Nat) (a1 : (List Int)) (s2 : Int) : Option (Int ⊕ (Int ⊕ Unit)) :=
  if (decide (s2 < (a1.length : Int))) = true then
    (ix a1 s2).bind fun v3 =>
    if (!decide (v3 = (0 : Int))) = true then
      some (.inr (.inl v3))
    else
    some (.inl (IntKind.i64.wrap (s2 + (1 : Int))))
  else
  some (.inr (.inr ()))
def m_cmp_Or_int (n : Nat) (a1 : (List Int)) : Option Int :=
  (iter n (fun s => m_cmp_Or_int_L1 n a1 s) (0 : Int)).bind fun t2 => match t2 with
  | (.inl u3) =>
    some u3
  | (.inr _u4) =>
    some (0 : Int)
def m_block_Pairs_1 (n : Nat) (a1 : SPair) (a2 : SPair) : Option Int :=
  (m_cmp_Compare_int n a1.fA a2.fA).bind fun v3 =>
  (m_cmp_Compare_int n a1.fB a2.fB).bind fun v4 =>
  (m_cmp_Or_int n ([v3, v4] : List Int)).bind fun v5 =>
  some v5
def m_slices_SortFunc_api_Pair_api_Pair (n : Nat) (c1 : List SPair) : Option (List SPair) := if 64 ≤ n ∧ c1.length < 4611686018427387904 then some (isort (ltOf cfP) c1) else none
def m_slices_Compact_api_Pair_api_Pair_L2 (_n : Nat) (s2 : Int) (v7 : (List SPair)) (s8 : Int) (s9 : Int) (s10 : (List SPair)) : Option ((Int × Int × (List SPair)) ⊕ (Int × (List SPair))) :=
  if (decide (s9 < (v7.length : Int))) = true then
    (
      (ix v7 s9).bind fun _v11 =>
      (ix s10 (s2 + s9)).bind fun v12 =>
      (ix v7 (IntKind.i64.wrap (s9 - (1 : Int)))).bind fun _v13 =>
      (ix s10 (s2 + (IntKind.i64.wrap (s9 - (1 : Int))))).bind fun v14 =>
      if (!decide (v12 = v14)) = true then
        (ix v7 s9).bind fun _v15 =>
        (ix s10 (s2 + s9)).bind fun v16 =>
        (ix s10 s8).bind fun _v17 =>
        (setI s10 s8 v16).bind fun v18 =>
        some ((IntKind.i64.wrap (s8 + (1 : Int))), v18)
      else
      some (s8, s10) : Option (Int × (List SPair))).bind fun t19 =>
    some (.inl (t19.1, (IntKind.i64.wrap (s9 + (1 : Int))), t19.2))
  else
  some (.inr (s8, s10))
def m_slices_Compact_api_Pair_api_Pair_L1 (n : Nat) (c1 : (List SPair)) (s2 : Int) : Option (Int ⊕ ((List SPair) ⊕ Unit)) :=
  if (decide (s2 < (c1.length : Int))) = true then
    (ix c1 s2).bind fun _v3 =>
    (ix c1 s2).bind fun v4 =>
    (ix c1 (IntKind.i64.wrap (s2 - (1 : Int)))).bind fun _v5 =>
    (ix c1 (IntKind.i64.wrap (s2 - (1 : Int)))).bind fun v6 =>
    if (decide (v4 = v6)) = true then
      (slc c1 s2 (c1.length : Int)).bind fun v7 =>
      (iter n (fun s => m_slices_Compact_api_Pair_api_Pair_L2 n s2 v7 s.1 s.2.1 s.2.2) (s2, (1 : Int), c1)).bind fun t8 =>
      (slc t8.2 t8.1 (t8.2.length : Int)).bind fun v9 =>
      (slc (clrL t8.2 t8.1.toNat v9.length ((⟨(0 : Int), (0 : Int)⟩ : SPair) : SPair)) (0 : Int) t8.1).bind fun v10 =>
      some (.inr (.inl v10))
    else
    some (.inl (IntKind.i64.wrap (s2 + (1 : Int))))
  else
  some (.inr (.inr ()))
def m_slices_Compact_api_Pair_api_Pair (n : Nat) (c1 : (List SPair)) : Option (List SPair) :=
  if (decide ((c1.length : Int) < (2 : Int))) = true then
    some c1
  else
  (iter n (fun s => m_slices_Compact_api_Pair_api_Pair_L1 n c1 s) (1 : Int)).bind fun t2 => match t2 with
  | (.inl u3) =>
    some u3
  | (.inr _u4) =>
    some c1
def m_block_Pairs_L3 (_n : Nat) (v9 : Int) (v10 : (List Int)) (s11 : Int) (s12 : (List SPair)) : Option ((Int × (List SPair)) ⊕ (List SPair)) :=
  if (decide (s11 < (v10.length : Int))) = true then
    (ix v10 s11).bind fun v13 =>
    (app 16 s12 ([(⟨v9, v13⟩ : SPair)] : List SPair)).bind fun v14 =>
    some (.inl ((IntKind.i64.wrap (s11 + (1 : Int))), v14))
  else
  some (.inr s12)
def m_block_Pairs_L2 (n : Nat) (v6 : SBlock) (s7 : Int) (s8 : (List SPair)) : Option ((Int × (List SPair)) ⊕ (List SPair)) :=
  if (decide (s7 < (v6.fIDs.length : Int))) = true then
    (ix v6.fIDs s7).bind fun v9 =>
    (slc v6.fIDs (IntKind.i64.wrap (s7 + (1 : Int))) (v6.fIDs.length : Int)).bind fun v10 =>
    (iter n (fun s => m_block_Pairs_L3 n v9 v10 s.1 s.2) ((0 : Int), s8)).bind fun t11 =>
    some (.inl ((IntKind.i64.wrap (s7 + (1 : Int))), t11))
  else
  some (.inr s8)
def m_block_Pairs_L1 (n : Nat) (a1 : (List SBlock)) (a2 : Int) (s4 : Int) (s5 : (List SPair)) : Option ((Int × (List SPair)) ⊕ (List SPair)) :=
  if (decide (s4 < (a1.length : Int))) = true then
    (
      (ix a1 s4).bind fun v6 =>
      if (decide (a2 < (v6.fIDs.length : Int))) = true then
        some s5
      else
      (iter n (fun s => m_block_Pairs_L2 n v6 s.1 s.2) ((0 : Int), s5)).bind fun t7 =>
      some t7 : Option (List SPair)).bind fun t8 =>
    some (.inl ((IntKind.i64.wrap (s4 + (1 : Int))), t8))
  else
  some (.inr s5)
def m_block_Pairs (n : Nat) (a1 : (List SBlock)) (a2 : Int) : Option ((List SPair) × Int) :=
  (m_block_Valid n a1).bind fun v3 =>
  if (!v3) = true then
    some ([], (1 : Int))
  else
  if ((decide (a2 < (2 : Int))) || (decide ((1000 : Int) < a2))) = true then
    some ([], (2 : Int))
  else
  (iter n (fun s => m_block_Pairs_L1 n a1 a2 s.1 s.2) ((0 : Int), [])).bind fun t4 =>
  (m_slices_SortFunc_api_Pair_api_Pair n t4).bind fun v5 =>
  (m_slices_Compact_api_Pair_api_Pair n v5).bind fun v6 =>
  some (v6, (0 : Int))
def m_slices_Sort_int_int (_n : Nat) (c1 : List Int) : Option (List Int) := if c1.length < 4611686018427387904 then some (isort intLt c1) else none
def m_slices_Compact_int_int_L2 (_n : Nat) (s2 : Int) (v7 : (List Int)) (s8 : Int) (s9 : Int) (s10 : (List Int)) : Option ((Int × Int × (List Int)) ⊕ (Int × (List Int))) :=
  if (decide (s9 < (v7.length : Int))) = true then
    (
      (ix v7 s9).bind fun _v11 =>
      (ix s10 (s2 + s9)).bind fun v12 =>
      (ix v7 (IntKind.i64.wrap (s9 - (1 : Int)))).bind fun _v13 =>
      (ix s10 (s2 + (IntKind.i64.wrap (s9 - (1 : Int))))).bind fun v14 =>
      if (!decide (v12 = v14)) = true then
        (ix v7 s9).bind fun _v15 =>
        (ix s10 (s2 + s9)).bind fun v16 =>
        (ix s10 s8).bind fun _v17 =>
        (setI s10 s8 v16).bind fun v18 =>
        some ((IntKind.i64.wrap (s8 + (1 : Int))), v18)
      else
      some (s8, s10) : Option (Int × (List Int))).bind fun t19 =>
    some (.inl (t19.1, (IntKind.i64.wrap (s9 + (1 : Int))), t19.2))
  else
  some (.inr (s8, s10))
def m_slices_Compact_int_int_L1 (n : Nat) (c1 : (List Int)) (s2 : Int) : Option (Int ⊕ ((List Int) ⊕ Unit)) :=
  if (decide (s2 < (c1.length : Int))) = true then
    (ix c1 s2).bind fun _v3 =>
    (ix c1 s2).bind fun v4 =>
    (ix c1 (IntKind.i64.wrap (s2 - (1 : Int)))).bind fun _v5 =>
    (ix c1 (IntKind.i64.wrap (s2 - (1 : Int)))).bind fun v6 =>
    if (decide (v4 = v6)) = true then
      (slc c1 s2 (c1.length : Int)).bind fun v7 =>
      (iter n (fun s => m_slices_Compact_int_int_L2 n s2 v7 s.1 s.2.1 s.2.2) (s2, (1 : Int), c1)).bind fun t8 =>
      (slc t8.2 t8.1 (t8.2.length : Int)).bind fun v9 =>
      (slc (clrL t8.2 t8.1.toNat v9.length ((0 : Int) : Int)) (0 : Int) t8.1).bind fun v10 =>
      some (.inr (.inl v10))
    else
    some (.inl (IntKind.i64.wrap (s2 + (1 : Int))))
  else
  some (.inr (.inr ()))
def m_slices_Compact_int_int (n : Nat) (c1 : (List Int)) : Option (List Int) :=
  if (decide ((c1.length : Int) < (2 : Int))) = true then
    some c1
  else
  (iter n (fun s => m_slices_Compact_int_int_L1 n c1 s) (1 : Int)).bind fun t2 => match t2 with
  | (.inl u3) =>
    some u3
  | (.inr _u4) =>
    some c1
def m_block_Near_L1 (n : Nat) (a1 : (List SBlock)) (a3 : Int) (v7 : (List (List UInt8))) (s8 : Int) (s9 : (List Int)) : Option ((Int × (List Int)) ⊕ (List Int)) :=
  if (decide (s8 < (v7.length : Int))) = true then
    (
      (ix v7 s8).bind fun v10 =>
      (m_block_find n a1 v10).bind fun v11 =>
      ((if v11.2 = true then ix a1 v11.1 else some default)).bind fun v12 =>
      if (v11.2 && (decide ((v12.fIDs.length : Int) < a3))) = true then
        (ix a1 v11.1).bind fun v13 =>
        (app 8 s9 v13.fIDs).bind fun v14 =>
        some v14
      else
      some s9 : Option (List Int)).bind fun t15 =>
    some (.inl ((IntKind.i64.wrap (s8 + (1 : Int))), t15))
  else
  some (.inr s9)
def m_block_Near (n : Nat) (a1 : (List SBlock)) (a2 : SFeatures) (a3 : Int) : Option ((List Int) × Int) :=
  (m_block_Valid n a1).bind fun v4 =>
  ((if (!(!v4)) = true then m_feature_Valid n (⟨a2.fID, a2.fTitle, a2.fAuthor, a2.fYears, a2.fIsbns, a2.fLangs, a2.fPublisher, a2.fEdition⟩ : SFeatures) else some default)).bind fun v5 =>
  if ((!v4) || (!v5)) = true then
    some ([], (1 : Int))
  else
  (m_block_has n a1 a2.fID).bind fun v6 =>
  if v6 = true then
    some ([], (10 : Int))
  else
  if ((decide (a3 < (2 : Int))) || (decide ((1000 : Int) < a3))) = true then
    some ([], (2 : Int))
  else
  (m_block_Keys n (⟨a2.fID, a2.fTitle, a2.fAuthor, a2.fYears, a2.fIsbns, a2.fLangs, a2.fPublisher, a2.fEdition⟩ : SFeatures)).bind fun v7 =>
  (iter n (fun s => m_block_Near_L1 n a1 a3 v7 s.1 s.2) ((0 : Int), [])).bind fun t8 =>
  (m_slices_Sort_int_int n t8).bind fun v9 =>
  (m_slices_Compact_int_int n v9).bind fun v10 =>
  some (v10, (0 : Int))
def m_slices_IndexFunc_feature_Features_feature_Features_L1 (_n : Nat) (a1 : (List SFeatures)) (p2 : SFeatures → Option Bool) (s3 : Int) : Option (Int ⊕ (Int ⊕ Unit)) :=
  if (decide (s3 < (a1.length : Int))) = true then
    (ix a1 s3).bind fun v4 =>
    (p2 v4).bind fun v5 =>
    if v5 = true then
      some (.inr (.inl s3))
    else
    some (.inl (IntKind.i64.wrap (s3 + (1 : Int))))
  else
  some (.inr (.inr ()))
def m_slices_IndexFunc_feature_Features_feature_Features (n : Nat) (a1 : (List SFeatures)) (p2 : SFeatures → Option Bool) : Option Int :=
  (iter n (fun s => m_slices_IndexFunc_feature_Features_feature_Features_L1 n a1 p2 s) (0 : Int)).bind fun t3 => match t3 with
  | (.inl u4) =>
    some u4
  | (.inr _u5) =>
    some (-1 : Int)
def m_slices_ContainsFunc_feature_Features_feature_Features (n : Nat) (a1 : (List SFeatures)) (p2 : SFeatures → Option Bool) : Option Bool :=
  (m_slices_IndexFunc_feature_Features_feature_Features n a1 p2).bind fun v3 =>
  some (decide ((0 : Int) ≤ v3))
def m_block_Of_1 (n : Nat) (a1 : SFeatures) : Option Bool :=
  (m_feature_Valid n (⟨a1.fID, a1.fTitle, a1.fAuthor, a1.fYears, a1.fIsbns, a1.fLangs, a1.fPublisher, a1.fEdition⟩ : SFeatures)).bind fun v2 =>
  some (!v2)
def m_slices_Insert_block_Table_block_Block_T (_n : Nat) (c1 : List (List UInt8 × Hd)) (a2 : Int) (a3 : List (List UInt8 × Hd)) : Option (List (List UInt8 × Hd)) := insL 40 c1 a2 a3
def m_cmp_Less_int (n : Nat) (a1 : Int) (a2 : Int) : Option Bool :=
  (m_cmp_isNaN_int n a1).bind fun v3 =>
  ((if v3 = true then m_cmp_isNaN_int n a2 else some default)).bind fun v4 =>
  some ((v3 && (!v4)) || (decide (a1 < a2)))
def m_slices_isNaN_int (_n : Nat) (a1 : Int) : Option Bool :=
  some (!decide (a1 = a1))
def m_slices_BinarySearch_int_int_L1 (n : Nat) (a1 : (List Int)) (a2 : Int) (s3 : Int) (s4 : Int) : Option ((Int × Int) ⊕ Int) :=
  if (decide (s3 < s4)) = true then
    (shrM .u64 (IntKind.u64.wrap (IntKind.i64.wrap (s3 + s4))) (1 : Int)).bind fun v5 =>
    (ix a1 (IntKind.i64.wrap v5)).bind fun v6 =>
    (m_cmp_Less_int n v6 a2).bind fun v7 =>
    if v7 = true then
      some (.inl ((IntKind.i64.wrap ((IntKind.i64.wrap v5) + (1 : Int))), s4))
    else
    some (.inl (s3, (IntKind.i64.wrap v5)))
  else
  some (.inr s3)
def m_slices_BinarySearch_int_int (n : Nat) (a1 : (List Int)) (a2 : Int) : Option (Int × Bool) :=
  (iter n (fun s => m_slices_BinarySearch_int_int_L1 n a1 a2 s.1 s.2) ((0 : Int), (a1.length : Int))).bind fun t3 =>
  ((if (decide (t3 < (a1.length : Int))) = true then ix a1 t3 else some default)).bind fun v4 =>
  ((if ((decide (t3 < (a1.length : Int))) && (!(decide (v4 = a2)))) = true then ix a1 t3 else some default)).bind fun v5 =>
  ((if ((decide (t3 < (a1.length : Int))) && (!(decide (v4 = a2)))) = true then m_slices_isNaN_int n v5 else some default)).bind fun v6 =>
  ((if (((decide (t3 < (a1.length : Int))) && (!(decide (v4 = a2)))) && v6) = true then m_slices_isNaN_int n a2 else some default)).bind fun v7 =>
  some (t3, ((decide (t3 < (a1.length : Int))) && ((decide (v4 = a2)) || (v6 && v7))))
def m_slices_Insert_int_int (_n : Nat) (c1 : List Int) (a2 : Int) (a3 : List Int) : Option (List Int) := insL 8 c1 a2 a3
def m_block_put_L1 (n : Nat) (a2 : SFeatures) (v3 : (List (List UInt8))) (s4 : Int) (s5 : (List SBlock)) : Option ((Int × (List SBlock)) ⊕ (List SBlock)) :=
  if (decide (s4 < (v3.length : Int))) = true then
    (ix v3 s4).bind fun v6 =>
    (m_block_find n s5 v6).bind fun v7 =>
    (
      if (!v7.2) = true then
        (insL 40 s5 v7.1 [(⟨v6, []⟩ : SBlock)]).bind fun v8 =>
        some v8
      else
      some s5 : Option (List SBlock)).bind fun t9 =>
    (ix t9 v7.1).bind fun v10 =>
    (m_slices_BinarySearch_int_int n v10.fIDs a2.fID).bind fun v11 =>
    (ix t9 v7.1).bind fun v12 =>
    (m_slices_Insert_int_int n v12.fIDs v11.1 ([a2.fID] : List Int)).bind fun v13 =>
    some (.inl ((IntKind.i64.wrap (s4 + (1 : Int))), (t9.set v7.1.toNat (⟨v12.fKey, v13⟩ : SBlock))))
  else
  some (.inr s5)
def m_block_put (n : Nat) (c1 : (List SBlock)) (a2 : SFeatures) : Option (List SBlock) :=
  (m_block_Keys n (⟨a2.fID, a2.fTitle, a2.fAuthor, a2.fYears, a2.fIsbns, a2.fLangs, a2.fPublisher, a2.fEdition⟩ : SFeatures)).bind fun v3 =>
  (iter n (fun s => m_block_put_L1 n a2 v3 s.1 s.2) ((0 : Int), c1)).bind fun t4 =>
  some t4
def m_block_Of_L1 (_n : Nat) (a1 : (List SFeatures)) (s3 : Int) (s4 : (List (Int × Bool))) : Option ((Int × (List (Int × Bool))) ⊕ (((List SBlock) × Int) ⊕ (List (Int × Bool)))) :=
  if (decide (s3 < (a1.length : Int))) = true then
    (ix a1 s3).bind fun v5 =>
    if ((mget s4 v5.fID).getD (false : Bool)) = true then
      some (.inr (.inl ([], (10 : Int))))
    else
    (some (mput s4 v5.fID true)).bind fun v6 =>
    some (.inl ((IntKind.i64.wrap (s3 + (1 : Int))), v6))
  else
  some (.inr (.inr s4))
def m_block_Of_L2 (n : Nat) (a1 : (List SFeatures)) (s6 : Int) (s7 : (List SBlock)) : Option ((Int × (List SBlock)) ⊕ (List SBlock)) :=
  if (decide (s6 < (a1.length : Int))) = true then
    (ix a1 s6).bind fun v8 =>
    (m_block_put n s7 (⟨v8.fID, v8.fTitle, v8.fAuthor, v8.fYears, v8.fIsbns, v8.fLangs, v8.fPublisher, v8.fEdition⟩ : SFeatures)).bind fun v9 =>
    some (.inl ((IntKind.i64.wrap (s6 + (1 : Int))), v9))
  else
  some (.inr s7)
def m_block_Of (n : Nat) (a1 : (List SFeatures)) : Option ((List SBlock) × Int) :=
  (m_slices_ContainsFunc_feature_Features_feature_Features n a1 (fun y1 => m_block_Of_1 n y1)).bind fun v2 =>
  if v2 = true then
    some ([], (1 : Int))
  else
  (iter n (fun s => m_block_Of_L1 n a1 s.1 s.2) ((0 : Int), [])).bind fun t3 => match t3 with
  | (.inl u4) =>
    some u4
  | (.inr _u5) =>
    if (decide ((2000 : Int) < (a1.length : Int))) = true then
      some ([], (3 : Int))
    else
    (iter n (fun s => m_block_Of_L2 n a1 s.1 s.2) ((0 : Int), ([] : List SBlock))).bind fun t6 =>
    some (t6, (0 : Int))
def m_ref30_Valid_L2 (_n : Nat) (v7 : SBlock) (s8 : Int) : Option (Int ⊕ (Bool ⊕ Unit)) :=
  if (decide (s8 < (v7.fIDs.length : Int))) = true then
    (ix v7.fIDs s8).bind fun v9 =>
    ((if (!(decide (v9 < (1 : Int)))) = true then ix v7.fIDs s8 else some default)).bind fun v10 =>
    ((if ((!((decide (v9 < (1 : Int))) || (decide ((1000000000 : Int) < v10)))) && (decide ((0 : Int) < s8))) = true then ix v7.fIDs (IntKind.i64.wrap (s8 - (1 : Int))) else some default)).bind fun v11 =>
    ((if ((!((decide (v9 < (1 : Int))) || (decide ((1000000000 : Int) < v10)))) && (decide ((0 : Int) < s8))) = true then ix v7.fIDs s8 else some default)).bind fun v12 =>
    if (((decide (v9 < (1 : Int))) || (decide ((1000000000 : Int) < v10))) || ((decide ((0 : Int) < s8)) && (decide (v12 ≤ v11)))) = true then
      some (.inr (.inl false))
    else
    some (.inl (IntKind.i64.wrap (s8 + (1 : Int))))
  else
  some (.inr (.inr ()))
def m_ref30_Valid_L1 (n : Nat) (a1 : (List SBlock)) (s2 : Int) : Option (Int ⊕ (Bool ⊕ Unit)) :=
  if (decide (s2 < (a1.length : Int))) = true then
    (ix a1 s2).bind fun v3 =>
    ((if (!(decide (v3.fKey = ([] : List UInt8)))) = true then ix a1 s2 else some default)).bind fun v4 =>
    ((if ((!((decide (v3.fKey = ([] : List UInt8))) || (decide ((v4.fIDs.length : Int) = (0 : Int))))) && (decide ((0 : Int) < s2))) = true then ix a1 (IntKind.i64.wrap (s2 - (1 : Int))) else some default)).bind fun v5 =>
    ((if ((!((decide (v3.fKey = ([] : List UInt8))) || (decide ((v4.fIDs.length : Int) = (0 : Int))))) && (decide ((0 : Int) < s2))) = true then ix a1 s2 else some default)).bind fun v6 =>
    if (((decide (v3.fKey = ([] : List UInt8))) || (decide ((v4.fIDs.length : Int) = (0 : Int)))) || ((decide ((0 : Int) < s2)) && (!ltS v5.fKey v6.fKey))) = true then
      some (.inr (.inl false))
    else
    (ix a1 s2).bind fun v7 =>
    (iter n (fun s => m_ref30_Valid_L2 n v7 s) (0 : Int)).bind fun t8 => match t8 with
    | (.inl u9) =>
      some (.inr (.inl u9))
    | (.inr _u10) =>
      some (.inl (IntKind.i64.wrap (s2 + (1 : Int))))
  else
  some (.inr (.inr ()))
def m_ref30_Valid (n : Nat) (a1 : (List SBlock)) : Option Bool :=
  (iter n (fun s => m_ref30_Valid_L1 n a1 s) (0 : Int)).bind fun t2 => match t2 with
  | (.inl u3) =>
    some u3
  | (.inr _u4) =>
    some true
def m_ref29_made_L1 (_n : Nat) (a1 : (List UInt8)) (a3 : Int) (a4 : Int) (s5 : Int) : Option (Int ⊕ (Bool ⊕ Unit)) :=
  if (decide (s5 < (a1.length : Int))) = true then
    (ixS a1 s5).bind fun v6 =>
    ((if (!(decide (v6 < a3))) = true then ixS a1 s5 else some default)).bind fun v7 =>
    if ((decide (v6 < a3)) || (decide (a4 < v7))) = true then
      some (.inr (.inl false))
    else
    some (.inl (IntKind.i64.wrap (s5 + (1 : Int))))
  else
  some (.inr (.inr ()))
def m_ref29_made (n : Nat) (a1 : (List UInt8)) (a2 : Int) (a3 : Int) (a4 : Int) : Option Bool :=
  (iter n (fun s => m_ref29_made_L1 n a1 a3 a4 s) (0 : Int)).bind fun t5 => match t5 with
  | (.inl u6) =>
    some u6
  | (.inr _u7) =>
    some (decide ((a1.length : Int) = a2))
def m_ref29_word_L1 (_n : Nat) (a1 : (List UInt8)) (s2 : Int) : Option (Int ⊕ (Bool ⊕ Unit)) :=
  if (decide (s2 < (a1.length : Int))) = true then
    (ixS a1 s2).bind fun v3 =>
    if (decide (v3 ≤ (32 : Int))) = true then
      some (.inr (.inl false))
    else
    some (.inl (IntKind.i64.wrap (s2 + (1 : Int))))
  else
  some (.inr (.inr ()))
def m_ref29_word (n : Nat) (a1 : (List UInt8)) : Option Bool :=
  (iter n (fun s => m_ref29_word_L1 n a1 s) (0 : Int)).bind fun t2 => match t2 with
  | (.inl u3) =>
    some u3
  | (.inr _u4) =>
    some ((decide ((1 : Int) ≤ (a1.length : Int))) && (decide ((a1.length : Int) ≤ (400 : Int))))
def m_ref29_Words_L1 (n : Nat) (a1 : (List (List UInt8))) (s2 : Int) : Option (Int ⊕ (Bool ⊕ Unit)) :=
  if (decide (s2 < (a1.length : Int))) = true then
    (ix a1 s2).bind fun v3 =>
    (m_ref29_word n v3).bind fun v4 =>
    if (!v4) = true then
      some (.inr (.inl false))
    else
    some (.inl (IntKind.i64.wrap (s2 + (1 : Int))))
  else
  some (.inr (.inr ()))
def m_ref29_Words (n : Nat) (a1 : (List (List UInt8))) : Option Bool :=
  (iter n (fun s => m_ref29_Words_L1 n a1 s) (0 : Int)).bind fun t2 => match t2 with
  | (.inl u3) =>
    some u3
  | (.inr _u4) =>
    some (decide ((a1.length : Int) ≤ (200 : Int)))
def m_ref29_key_L1 (_n : Nat) (a1 : (List UInt8)) (s2 : Int) : Option (Int ⊕ (Bool ⊕ Unit)) :=
  if (decide (s2 < (a1.length : Int))) = true then
    (ixS a1 s2).bind fun v3 =>
    if (decide (v3 < (32 : Int))) = true then
      some (.inr (.inl false))
    else
    some (.inl (IntKind.i64.wrap (s2 + (1 : Int))))
  else
  some (.inr (.inr ()))
def m_ref29_key (n : Nat) (a1 : (List UInt8)) : Option Bool :=
  (iter n (fun s => m_ref29_key_L1 n a1 s) (0 : Int)).bind fun t2 => match t2 with
  | (.inl u3) =>
    some u3
  | (.inr _u4) =>
    ((if ((decide ((a1.length : Int) ≤ (420 : Int))) && (!(decide (a1 = ([] : List UInt8))))) = true then ixS a1 (0 : Int) else some default)).bind fun v5 =>
    ((if (((decide ((a1.length : Int) ≤ (420 : Int))) && (!(decide (a1 = ([] : List UInt8))))) && (!decide (v5 = (32 : Int)))) = true then ixS a1 (IntKind.i64.wrap ((a1.length : Int) - (1 : Int))) else some default)).bind fun v6 =>
    some ((decide ((a1.length : Int) ≤ (420 : Int))) && ((decide (a1 = ([] : List UInt8))) || ((!decide (v5 = (32 : Int))) && (!decide (v6 = (32 : Int))))))
def m_ref29_Ascending_L1 (_n : Nat) (a1 : (List (List UInt8))) (s2 : Int) : Option (Int ⊕ (Bool ⊕ Unit)) :=
  if (decide (s2 < (a1.length : Int))) = true then
    (ix a1 (IntKind.i64.wrap (s2 - (1 : Int)))).bind fun v3 =>
    (ix a1 s2).bind fun v4 =>
    if (!ltS v3 v4) = true then
      some (.inr (.inl false))
    else
    some (.inl (IntKind.i64.wrap (s2 + (1 : Int))))
  else
  some (.inr (.inr ()))
def m_ref29_Ascending (n : Nat) (a1 : (List (List UInt8))) : Option Bool :=
  (iter n (fun s => m_ref29_Ascending_L1 n a1 s) (1 : Int)).bind fun t2 => match t2 with
  | (.inl u3) =>
    some u3
  | (.inr _u4) =>
    some true
def m_ref29_Valid_L1 (_n : Nat) (a1 : SFeatures) (s2 : Int) : Option (Int ⊕ (Bool ⊕ Unit)) :=
  if (decide (s2 < (a1.fYears.length : Int))) = true then
    (ix a1.fYears s2).bind fun v3 =>
    ((if (!(decide (v3 < (1000 : Int)))) = true then ix a1.fYears s2 else some default)).bind fun v4 =>
    ((if ((!((decide (v3 < (1000 : Int))) || (decide ((2999 : Int) < v4)))) && (decide ((0 : Int) < s2))) = true then ix a1.fYears (IntKind.i64.wrap (s2 - (1 : Int))) else some default)).bind fun v5 =>
    ((if ((!((decide (v3 < (1000 : Int))) || (decide ((2999 : Int) < v4)))) && (decide ((0 : Int) < s2))) = true then ix a1.fYears s2 else some default)).bind fun v6 =>
    if (((decide (v3 < (1000 : Int))) || (decide ((2999 : Int) < v4))) || ((decide ((0 : Int) < s2)) && (decide (v6 ≤ v5)))) = true then
      some (.inr (.inl false))
    else
    some (.inl (IntKind.i64.wrap (s2 + (1 : Int))))
  else
  some (.inr (.inr ()))
def m_ref29_Valid_L2 (n : Nat) (a1 : SFeatures) (s5 : Int) : Option (Int ⊕ (Bool ⊕ Unit)) :=
  if (decide (s5 < (a1.fIsbns.length : Int))) = true then
    (ix a1.fIsbns s5).bind fun v6 =>
    (m_ref29_made n v6 (13 : Int) (48 : Int) (57 : Int)).bind fun v7 =>
    if (!v7) = true then
      some (.inr (.inl false))
    else
    some (.inl (IntKind.i64.wrap (s5 + (1 : Int))))
  else
  some (.inr (.inr ()))
def m_ref29_Valid_L3 (n : Nat) (a1 : SFeatures) (s8 : Int) : Option (Int ⊕ (Bool ⊕ Unit)) :=
  if (decide (s8 < (a1.fLangs.length : Int))) = true then
    (ix a1.fLangs s8).bind fun v9 =>
    (m_ref29_made n v9 (3 : Int) (97 : Int) (122 : Int)).bind fun v10 =>
    if (!v10) = true then
      some (.inr (.inl false))
    else
    some (.inl (IntKind.i64.wrap (s8 + (1 : Int))))
  else
  some (.inr (.inr ()))
def m_ref29_Valid (n : Nat) (a1 : SFeatures) : Option Bool :=
  (iter n (fun s => m_ref29_Valid_L1 n a1 s) (0 : Int)).bind fun t2 => match t2 with
  | (.inl u3) =>
    some u3
  | (.inr _u4) =>
    (iter n (fun s => m_ref29_Valid_L2 n a1 s) (0 : Int)).bind fun t5 => match t5 with
    | (.inl u6) =>
      some u6
    | (.inr _u7) =>
      (iter n (fun s => m_ref29_Valid_L3 n a1 s) (0 : Int)).bind fun t8 => match t8 with
      | (.inl u9) =>
        some u9
      | (.inr _u10) =>
        if (((((decide ((20 : Int) < (a1.fYears.length : Int))) || (decide ((20 : Int) < (a1.fIsbns.length : Int)))) || (decide ((20 : Int) < (a1.fLangs.length : Int)))) || (decide (a1.fID < (1 : Int)))) || (decide ((1000000000 : Int) < a1.fID))) = true then
          some false
        else
        (m_ref29_Words n a1.fTitle).bind fun v11 =>
        ((if v11 = true then m_ref29_Words n a1.fPublisher else some default)).bind fun v12 =>
        ((if (v11 && v12) = true then m_ref29_Words n a1.fEdition else some default)).bind fun v13 =>
        ((if ((v11 && v12) && v13) = true then m_ref29_key n a1.fAuthor else some default)).bind fun v14 =>
        ((if (((v11 && v12) && v13) && v14) = true then m_ref29_Ascending n a1.fIsbns else some default)).bind fun v15 =>
        ((if ((((v11 && v12) && v13) && v14) && v15) = true then m_ref29_Ascending n a1.fLangs else some default)).bind fun v16 =>
        ((if (((((v11 && v12) && v13) && v14) && v15) && v16) = true then m_ref29_Ascending n a1.fPublisher else some default)).bind fun v17 =>
        ((if ((((((v11 && v12) && v13) && v14) && v15) && v16) && v17) = true then m_ref29_Ascending n a1.fEdition else some default)).bind fun v18 =>
        some (((((((v11 && v12) && v13) && v14) && v15) && v16) && v17) && v18)
def m_ref30_insert_L1 (_n : Nat) (a1 : (List (List UInt8))) (a2 : (List UInt8)) (s3 : Int) : Option (Int ⊕ Int) :=
  ((if (decide (s3 < (a1.length : Int))) = true then ix a1 s3 else some default)).bind fun v4 =>
  if ((decide (s3 < (a1.length : Int))) && (ltS v4 a2)) = true then
    some (.inl (IntKind.i64.wrap (s3 + (1 : Int))))
  else
  some (.inr s3)
def m_ref30_insert (n : Nat) (a1 : (List (List UInt8))) (a2 : (List UInt8)) : Option (List (List UInt8)) :=
  (iter n (fun s => m_ref30_insert_L1 n a1 a2 s) (0 : Int)).bind fun t3 =>
  ((if (decide (t3 < (a1.length : Int))) = true then ix a1 t3 else some default)).bind fun v4 =>
  if ((decide (t3 < (a1.length : Int))) && (decide (v4 = a2))) = true then
    some a1
  else
  (slc a1 0 t3).bind fun v5 =>
  (slc a1 t3 (a1.length : Int)).bind fun v6 =>
  (app 16 (([a2] : List (List UInt8)) : List (List UInt8)) v6).bind fun v7 =>
  (app 16 (v5 : List (List UInt8)) v7).bind fun v8 =>
  some v8
def m_ref30_year (_n : Nat) (a1 : Int) : Option (List UInt8) :=
  (quo .i64 a1 (1000 : Int)).bind fun v2 =>
  (quo .i64 a1 (100 : Int)).bind fun v3 =>
  (rem v3 (10 : Int)).bind fun v4 =>
  (quo .i64 a1 (10 : Int)).bind fun v5 =>
  (rem v5 (10 : Int)).bind fun v6 =>
  (rem a1 (10 : Int)).bind fun v7 =>
  some (textL ([(IntKind.u8.wrap (IntKind.i64.wrap ((48 : Int) + v2))), (IntKind.u8.wrap (IntKind.i64.wrap ((48 : Int) + v4))), (IntKind.u8.wrap (IntKind.i64.wrap ((48 : Int) + v6))), (IntKind.u8.wrap (IntKind.i64.wrap ((48 : Int) + v7)))] : List Int))
def m_ref30_Keys_L1 (n : Nat) (a1 : SFeatures) (s3 : (List (List UInt8))) (s4 : Int) : Option (((List (List UInt8)) × Int) ⊕ (List (List UInt8))) :=
  if (decide (s4 < (a1.fIsbns.length : Int))) = true then
    (ix a1.fIsbns s4).bind fun v5 =>
    (appS ([105, 32] : List UInt8) v5).bind fun v6 =>
    (m_ref30_insert n s3 v6).bind fun v7 =>
    some (.inl (v7, (IntKind.i64.wrap (s4 + (1 : Int)))))
  else
  some (.inr s3)
def m_ref30_Keys_L2 (_n : Nat) (a1 : SFeatures) (s5 : (List UInt8)) (s6 : (List UInt8)) (s7 : Int) : Option (((List UInt8) × (List UInt8) × Int) ⊕ ((List UInt8) × (List UInt8))) :=
  if (decide (s7 < (a1.fTitle.length : Int))) = true then
    (
      (
        if (decide (s7 < (3 : Int))) = true then
          (ix a1.fTitle s7).bind fun v8 =>
          (appS ([32] : List UInt8) v8).bind fun v9 =>
          (appS s5 v9).bind fun v10 =>
          some v10
        else
        some s5 : Option (List UInt8)).bind fun t11 =>
      (ix a1.fTitle s7).bind fun v12 =>
      if (decide ((s6.length : Int) < (v12.length : Int))) = true then
        (ix a1.fTitle s7).bind fun v13 =>
        some (t11, v13)
      else
      some (t11, s6) : Option ((List UInt8) × (List UInt8))).bind fun t14 =>
    some (.inl (t14.1, t14.2, (IntKind.i64.wrap (s7 + (1 : Int)))))
  else
  some (.inr (s5, s6))
def m_ref30_Keys_L3 (n : Nat) (a1 : SFeatures) (t5 : ((List UInt8) × (List UInt8))) (s13 : (List (List UInt8))) (s14 : Int) : Option (((List (List UInt8)) × Int) ⊕ (List (List UInt8))) :=
  if (decide (s14 < (a1.fYears.length : Int))) = true then
    (ix a1.fYears s14).bind fun v15 =>
    (m_ref30_year n v15).bind fun v16 =>
    (appS ([121, 32] : List UInt8) v16).bind fun v17 =>
    (appS v17 ([32] : List UInt8)).bind fun v18 =>
    (appS v18 t5.2).bind fun v19 =>
    (m_ref30_insert n s13 v19).bind fun v20 =>
    some (.inl (v20, (IntKind.i64.wrap (s14 + (1 : Int)))))
  else
  some (.inr s13)
def m_ref30_Keys (n : Nat) (a1 : SFeatures) : Option (List (List UInt8)) :=
  (m_ref29_Valid n (⟨a1.fID, a1.fTitle, a1.fAuthor, a1.fYears, a1.fIsbns, a1.fLangs, a1.fPublisher, a1.fEdition⟩ : SFeatures)).bind fun v2 =>
  if (!v2) = true then
    some []
  else
  (iter n (fun s => m_ref30_Keys_L1 n a1 s.1 s.2) ([], (0 : Int))).bind fun t3 =>
  if (decide ((a1.fTitle.length : Int) = (0 : Int))) = true then
    some t3
  else
  (ix a1.fTitle (0 : Int)).bind fun v4 =>
  (iter n (fun s => m_ref30_Keys_L2 n a1 s.1 s.2.1 s.2.2) (([116] : List UInt8), v4, (0 : Int))).bind fun t5 =>
  (m_ref30_insert n t3 t5.1).bind fun v6 =>
  (
    if (!decide (a1.fAuthor = ([] : List UInt8))) = true then
      (appS ([97, 32] : List UInt8) a1.fAuthor).bind fun v7 =>
      (appS v7 ([32] : List UInt8)).bind fun v8 =>
      (ix a1.fTitle (0 : Int)).bind fun v9 =>
      (appS v8 v9).bind fun v10 =>
      (m_ref30_insert n v6 v10).bind fun v11 =>
      some v11
    else
    some v6 : Option (List (List UInt8))).bind fun t12 =>
  (iter n (fun s => m_ref30_Keys_L3 n a1 t5 s.1 s.2) (t12, (0 : Int))).bind fun t13 =>
  some t13
def m_ref30_has_L1 (_n : Nat) (a1 : (List Int)) (a2 : Int) (s3 : Int) : Option (Int ⊕ (Bool ⊕ Unit)) :=
  if (decide (s3 < (a1.length : Int))) = true then
    (ix a1 s3).bind fun v4 =>
    if (decide (v4 = a2)) = true then
      some (.inr (.inl true))
    else
    some (.inl (IntKind.i64.wrap (s3 + (1 : Int))))
  else
  some (.inr (.inr ()))
def m_ref30_has (n : Nat) (a1 : (List Int)) (a2 : Int) : Option Bool :=
  (iter n (fun s => m_ref30_has_L1 n a1 a2 s) (0 : Int)).bind fun t3 => match t3 with
  | (.inl u4) =>
    some u4
  | (.inr _u5) =>
    some false
def m_ref30_In_L1 (n : Nat) (a1 : (List SBlock)) (a2 : Int) (s3 : Int) : Option (Int ⊕ (Bool ⊕ Unit)) :=
  if (decide (s3 < (a1.length : Int))) = true then
    (ix a1 s3).bind fun v4 =>
    (m_ref30_has n v4.fIDs a2).bind fun v5 =>
    if v5 = true then
      some (.inr (.inl true))
    else
    some (.inl (IntKind.i64.wrap (s3 + (1 : Int))))
  else
  some (.inr (.inr ()))
def m_ref30_In (n : Nat) (a1 : (List SBlock)) (a2 : Int) : Option Bool :=
  (iter n (fun s => m_ref30_In_L1 n a1 a2 s) (0 : Int)).bind fun t3 => match t3 with
  | (.inl u4) =>
    some u4
  | (.inr _u5) =>
    some false
def m_ref30_add_L1 (_n : Nat) (a1 : (List Int)) (a2 : Int) (s3 : Int) : Option (Int ⊕ Int) :=
  ((if (decide (s3 < (a1.length : Int))) = true then ix a1 s3 else some default)).bind fun v4 =>
  if ((decide (s3 < (a1.length : Int))) && (decide (v4 < a2))) = true then
    some (.inl (IntKind.i64.wrap (s3 + (1 : Int))))
  else
  some (.inr s3)
def m_ref30_add (n : Nat) (a1 : (List Int)) (a2 : Int) : Option (List Int) :=
  (iter n (fun s => m_ref30_add_L1 n a1 a2 s) (0 : Int)).bind fun t3 =>
  (slc a1 (0 : Int) t3).bind fun v4 =>
  (app 8 (([] : List Int) : List Int) v4).bind fun v5 =>
  (app 8 v5 ([a2] : List Int)).bind fun v6 =>
  (slc a1 t3 (a1.length : Int)).bind fun v7 =>
  (app 8 v6 v7).bind fun v8 =>
  some v8
def m_ref30_Put_L2 (_n : Nat) (a1 : (List SBlock)) (a2 : SFeatures) (v6 : (List (List UInt8))) (s9 : Int) (s10 : (List SBlock)) (s11 : Int) : Option (((List SBlock) × Int) ⊕ ((List SBlock) × Int)) :=
  ((if (decide (s11 < (v6.length : Int))) = true then ix v6 s11 else some default)).bind fun v12 =>
  ((if (decide (s11 < (v6.length : Int))) = true then ix a1 s9 else some default)).bind fun v13 =>
  if ((decide (s11 < (v6.length : Int))) && (ltS v12 v13.fKey)) = true then
    (ix v6 s11).bind fun v14 =>
    (app 40 s10 ([(⟨v14, ([a2.fID] : List Int)⟩ : SBlock)] : List SBlock)).bind fun v15 =>
    some (.inl (v15, (IntKind.i64.wrap (s11 + (1 : Int)))))
  else
  some (.inr (s10, s11))
def m_ref30_Put_L1 (n : Nat) (a1 : (List SBlock)) (a2 : SFeatures) (v6 : (List (List UInt8))) (s7 : (List SBlock)) (s8 : Int) (s9 : Int) : Option (((List SBlock) × Int × Int) ⊕ ((List SBlock) × Int)) :=
  if (decide (s9 < (a1.length : Int))) = true then
    (iter n (fun s => m_ref30_Put_L2 n a1 a2 v6 s9 s.1 s.2) (s7, s8)).bind fun t10 =>
    (ix a1 s9).bind fun v11 =>
    (ix a1 s9).bind fun v12 =>
    (app 8 ([] : List Int) v12.fIDs).bind fun v13 =>
    (
      ((if (decide (t10.2 < (v6.length : Int))) = true then ix v6 t10.2 else some default)).bind fun v14 =>
      if ((decide (t10.2 < (v6.length : Int))) && (decide (v14 = v11.fKey))) = true then
        (m_ref30_add n v13 a2.fID).bind fun v15 =>
        some ((IntKind.i64.wrap (t10.2 + (1 : Int))), v15)
      else
      some (t10.2, v13) : Option (Int × (List Int))).bind fun t16 =>
    (app 40 t10.1 ([(⟨v11.fKey, t16.2⟩ : SBlock)] : List SBlock)).bind fun v17 =>
    some (.inl (v17, t16.1, (IntKind.i64.wrap (s9 + (1 : Int)))))
  else
  some (.inr (s7, s8))
def m_ref30_Put_L3 (_n : Nat) (a2 : SFeatures) (v6 : (List (List UInt8))) (s8 : (List SBlock)) (s9 : Int) : Option (((List SBlock) × Int) ⊕ (List SBlock)) :=
  if (decide (s9 < (v6.length : Int))) = true then
    (ix v6 s9).bind fun v10 =>
    (app 40 s8 ([(⟨v10, ([a2.fID] : List Int)⟩ : SBlock)] : List SBlock)).bind fun v11 =>
    some (.inl (v11, (IntKind.i64.wrap (s9 + (1 : Int)))))
  else
  some (.inr s8)
def m_ref30_Put (n : Nat) (a1 : (List SBlock)) (a2 : SFeatures) : Option ((List SBlock) × Int) :=
  (m_ref30_Valid n a1).bind fun v3 =>
  ((if (!(!v3)) = true then m_ref29_Valid n (⟨a2.fID, a2.fTitle, a2.fAuthor, a2.fYears, a2.fIsbns, a2.fLangs, a2.fPublisher, a2.fEdition⟩ : SFeatures) else some default)).bind fun v4 =>
  if ((!v3) || (!v4)) = true then
    some ([], (1 : Int))
  else
  (m_ref30_In n a1 a2.fID).bind fun v5 =>
  if v5 = true then
    some ([], (10 : Int))
  else
  (m_ref30_Keys n (⟨a2.fID, a2.fTitle, a2.fAuthor, a2.fYears, a2.fIsbns, a2.fLangs, a2.fPublisher, a2.fEdition⟩ : SFeatures)).bind fun v6 =>
  (iter n (fun s => m_ref30_Put_L1 n a1 a2 v6 s.1 s.2.1 s.2.2) ([], (0 : Int), (0 : Int))).bind fun t7 =>
  (iter n (fun s => m_ref30_Put_L3 n a2 v6 s.1 s.2) (t7.1, t7.2)).bind fun t8 =>
  some (t8, (0 : Int))
def m_ref30_Of_L1 (n : Nat) (a1 : (List SFeatures)) (s2 : Int) : Option (Int ⊕ (((List SBlock) × Int) ⊕ Unit)) :=
  if (decide (s2 < (a1.length : Int))) = true then
    (ix a1 s2).bind fun v3 =>
    (m_ref29_Valid n v3).bind fun v4 =>
    if (!v4) = true then
      some (.inr (.inl ([], (1 : Int))))
    else
    some (.inl (IntKind.i64.wrap (s2 + (1 : Int))))
  else
  some (.inr (.inr ()))
def m_ref30_Of_L2 (n : Nat) (a1 : (List SFeatures)) (s5 : (List Int)) (s6 : Int) : Option (((List Int) × Int) ⊕ (((List SBlock) × Int) ⊕ (List Int))) :=
  if (decide (s6 < (a1.length : Int))) = true then
    (ix a1 s6).bind fun v7 =>
    (m_ref30_has n s5 v7.fID).bind fun v8 =>
    if v8 = true then
      some (.inr (.inl ([], (10 : Int))))
    else
    (ix a1 s6).bind fun v9 =>
    (app 8 s5 ([v9.fID] : List Int)).bind fun v10 =>
    some (.inl (v10, (IntKind.i64.wrap (s6 + (1 : Int)))))
  else
  some (.inr (.inr s5))
def m_ref30_Of_L3 (n : Nat) (a1 : (List SFeatures)) (s8 : (List SBlock)) (s9 : Int) : Option (((List SBlock) × Int) ⊕ (List SBlock)) :=
  if (decide (s9 < (a1.length : Int))) = true then
    (ix a1 s9).bind fun v10 =>
    (m_ref30_Put n s8 v10).bind fun v11 =>
    some (.inl (v11.1, (IntKind.i64.wrap (s9 + (1 : Int)))))
  else
  some (.inr s8)
def m_ref30_Of (n : Nat) (a1 : (List SFeatures)) : Option ((List SBlock) × Int) :=
  (iter n (fun s => m_ref30_Of_L1 n a1 s) (0 : Int)).bind fun t2 => match t2 with
  | (.inl u3) =>
    some u3
  | (.inr _u4) =>
    (iter n (fun s => m_ref30_Of_L2 n a1 s.1 s.2) ([], (0 : Int))).bind fun t5 => match t5 with
    | (.inl u6) =>
      some u6
    | (.inr _u7) =>
      if (decide ((2000 : Int) < (a1.length : Int))) = true then
        some ([], (3 : Int))
      else
      (iter n (fun s => m_ref30_Of_L3 n a1 s.1 s.2) ([], (0 : Int))).bind fun t8 =>
      some (t8, (0 : Int))
def m_ref30_SameInts_L1 (_n : Nat) (a1 : (List Int)) (a2 : (List Int)) (s3 : Int) : Option (Int ⊕ (Bool ⊕ Unit)) :=
  if (decide (s3 < (a1.length : Int))) = true then
    (ix a1 s3).bind fun v4 =>
    (ix a2 s3).bind fun v5 =>
    if (!decide (v4 = v5)) = true then
      some (.inr (.inl false))
    else
    some (.inl (IntKind.i64.wrap (s3 + (1 : Int))))
  else
  some (.inr (.inr ()))
def m_ref30_SameInts (n : Nat) (a1 : (List Int)) (a2 : (List Int)) : Option Bool :=
  if (!decide ((a1.length : Int) = (a2.length : Int))) = true then
    some false
  else
  (iter n (fun s => m_ref30_SameInts_L1 n a1 a2 s) (0 : Int)).bind fun t3 => match t3 with
  | (.inl u4) =>
    some u4
  | (.inr _u5) =>
    some true
def m_ref29_SameTexts_L1 (_n : Nat) (a1 : (List (List UInt8))) (a2 : (List (List UInt8))) (s3 : Int) : Option (Int ⊕ (Bool ⊕ Unit)) :=
  if (decide (s3 < (a1.length : Int))) = true then
    (ix a1 s3).bind fun v4 =>
    (ix a2 s3).bind fun v5 =>
    if (!decide (v4 = v5)) = true then
      some (.inr (.inl false))
    else
    some (.inl (IntKind.i64.wrap (s3 + (1 : Int))))
  else
  some (.inr (.inr ()))
def m_ref29_SameTexts (n : Nat) (a1 : (List (List UInt8))) (a2 : (List (List UInt8))) : Option Bool :=
  if (!decide ((a1.length : Int) = (a2.length : Int))) = true then
    some false
  else
  (iter n (fun s => m_ref29_SameTexts_L1 n a1 a2 s) (0 : Int)).bind fun t3 => match t3 with
  | (.inl u4) =>
    some u4
  | (.inr _u5) =>
    some true
def m_law30_awake (n : Nat) : Option Bool :=
  (m_block_Of n ([(⟨(3 : Int), ([([116, 104, 101] : List UInt8), ([111, 114, 105, 103, 105, 110] : List UInt8), ([111, 102] : List UInt8), ([115, 112, 101, 99, 105, 101, 115] : List UInt8)] : List (List UInt8)), ([100, 97, 114, 119, 105, 110] : List UInt8), ([(1859 : Int)] : List Int), [], [], [], []⟩ : SFeatures)] : List SFeatures)).bind fun v1 =>
  ((if ((decide (v1.2 = (0 : Int))) && (decide ((v1.1.length : Int) = (3 : Int)))) = true then ix v1.1 (2 : Int) else some default)).bind fun v2 =>
  ((if (((decide (v1.2 = (0 : Int))) && (decide ((v1.1.length : Int) = (3 : Int)))) && (decide (v2.fKey = ([121, 32, 49, 56, 53, 57, 32, 115, 112, 101, 99, 105, 101, 115] : List UInt8)))) = true then m_block_Keys n (⟨(3 : Int), ([([116, 104, 101] : List UInt8), ([111, 114, 105, 103, 105, 110] : List UInt8), ([111, 102] : List UInt8), ([115, 112, 101, 99, 105, 101, 115] : List UInt8)] : List (List UInt8)), ([100, 97, 114, 119, 105, 110] : List UInt8), ([(1859 : Int)] : List Int), [], [], [], []⟩ : SFeatures) else some default)).bind fun v3 =>
  ((if (((decide (v1.2 = (0 : Int))) && (decide ((v1.1.length : Int) = (3 : Int)))) && (decide (v2.fKey = ([121, 32, 49, 56, 53, 57, 32, 115, 112, 101, 99, 105, 101, 115] : List UInt8)))) = true then m_ref29_SameTexts n v3 ([([97, 32, 100, 97, 114, 119, 105, 110, 32, 116, 104, 101] : List UInt8), ([116, 32, 116, 104, 101, 32, 111, 114, 105, 103, 105, 110, 32, 111, 102] : List UInt8), ([121, 32, 49, 56, 53, 57, 32, 115, 112, 101, 99, 105, 101, 115] : List UInt8)] : List (List UInt8)) else some default)).bind fun v4 =>
  ((if ((((decide (v1.2 = (0 : Int))) && (decide ((v1.1.length : Int) = (3 : Int)))) && (decide (v2.fKey = ([121, 32, 49, 56, 53, 57, 32, 115, 112, 101, 99, 105, 101, 115] : List UInt8)))) && v4) = true then m_block_Valid n v1.1 else some default)).bind fun v5 =>
  some (((((decide (v1.2 = (0 : Int))) && (decide ((v1.1.length : Int) = (3 : Int)))) && (decide (v2.fKey = ([121, 32, 49, 56, 53, 57, 32, 115, 112, 101, 99, 105, 101, 115] : List UInt8)))) && v4) && v5)
def m_ref29_Few_L1 (_n : Nat) (v6 : (List (List UInt8))) (s7 : Int) (s8 : Int) : Option ((Int × Int) ⊕ (Bool ⊕ Int)) :=
  if ((decide (s8 < (v6.length : Int))) && (decide (s8 < (300 : Int)))) = true then
    (ix v6 s8).bind fun v9 =>
    if (decide ((110 : Int) < (v9.length : Int))) = true then
      some (.inr (.inl false))
    else
    (ix v6 s8).bind fun v10 =>
    some (.inl ((IntKind.i64.wrap (s7 + (v10.length : Int))), (IntKind.i64.wrap (s8 + (1 : Int)))))
  else
  some (.inr (.inr s7))
def m_ref29_Few (n : Nat) (a1 : SFeatures) : Option Bool :=
  (app 16 (([a1.fAuthor] : List (List UInt8)) : List (List UInt8)) a1.fTitle).bind fun v2 =>
  (app 16 v2 a1.fIsbns).bind fun v3 =>
  (app 16 v3 a1.fLangs).bind fun v4 =>
  (app 16 v4 a1.fPublisher).bind fun v5 =>
  (app 16 v5 a1.fEdition).bind fun v6 =>
  (iter n (fun s => m_ref29_Few_L1 n v6 s.1 s.2) ((0 : Int), (0 : Int))).bind fun t7 => match t7 with
  | (.inl u8) =>
    some u8
  | (.inr u9) =>
    some ((((decide ((v6.length : Int) ≤ (80 : Int))) || ((decide ((200 : Int) ≤ (v6.length : Int))) && (decide ((v6.length : Int) ≤ (220 : Int))))) && (decide (u9 ≤ (2000 : Int)))) && (decide ((a1.fYears.length : Int) ≤ (25 : Int))))
def m_law30_few_L1 (n : Nat) (a1 : (List SFeatures)) (s2 : Int) : Option (Int ⊕ (Bool ⊕ Unit)) :=
  if (decide (s2 < (a1.length : Int))) = true then
    (ix a1 s2).bind fun v3 =>
    (m_ref29_Few n (⟨v3.fID, v3.fTitle, v3.fAuthor, v3.fYears, v3.fIsbns, v3.fLangs, v3.fPublisher, v3.fEdition⟩ : SFeatures)).bind fun v4 =>
    if (!v4) = true then
      some (.inr (.inl false))
    else
    some (.inl (IntKind.i64.wrap (s2 + (1 : Int))))
  else
  some (.inr (.inr ()))
def m_law30_few (n : Nat) (a1 : (List SFeatures)) : Option Bool :=
  (iter n (fun s => m_law30_few_L1 n a1 s) (0 : Int)).bind fun t2 => match t2 with
  | (.inl u3) =>
    some u3
  | (.inr _u4) =>
    some (decide ((a1.length : Int) ≤ (8 : Int)))
def m_law29_Own (_n : Nat) (a1 : SFeatures) : Option SFeatures :=
  some (⟨a1.fID, a1.fTitle, a1.fAuthor, a1.fYears, a1.fIsbns, a1.fLangs, a1.fPublisher, a1.fEdition⟩ : SFeatures)
def m_law29_Owns_L1 (n : Nat) (a1 : (List SFeatures)) (s2 : (List SFeatures)) (s3 : Int) : Option (((List SFeatures) × Int) ⊕ (List SFeatures)) :=
  if (decide (s3 < (a1.length : Int))) = true then
    (ix a1 s3).bind fun v4 =>
    (m_law29_Own n (⟨v4.fID, v4.fTitle, v4.fAuthor, v4.fYears, v4.fIsbns, v4.fLangs, v4.fPublisher, v4.fEdition⟩ : SFeatures)).bind fun v5 =>
    (app 168 s2 ([v5] : List SFeatures)).bind fun v6 =>
    some (.inl (v6, (IntKind.i64.wrap (s3 + (1 : Int)))))
  else
  some (.inr s2)
def m_law29_Owns (n : Nat) (a1 : (List SFeatures)) : Option (List SFeatures) :=
  (iter n (fun s => m_law29_Owns_L1 n a1 s.1 s.2) ([], (0 : Int))).bind fun t2 =>
  some t2
def m_law30_table (n : Nat) (a1 : (List SFeatures)) : Option ((List SBlock) × Bool) :=
  (m_law30_few n a1).bind fun v2 =>
  if (!v2) = true then
    some ([], false)
  else
  (m_ref30_Of n a1).bind fun v3 =>
  if (!decide (v3.2 = (0 : Int))) = true then
    some ([], false)
  else
  (m_law29_Owns n a1).bind fun v4 =>
  (m_block_Of n v4).bind fun v5 =>
  some (v5.1, (decide (v5.2 = (0 : Int))))
def m_law30_good (n : Nat) (a1 : (List SFeatures)) : Option Bool :=
  (m_law30_few n a1).bind fun v2 =>
  if (!v2) = true then
    some false
  else
  (m_ref30_Of n a1).bind fun v3 =>
  some (decide (v3.2 = (0 : Int)))
def m_law30_BlockGrows_1_L1 (_n : Nat) (a1 : (List SPair)) (a2 : SPair) (s3 : Int) : Option (Int ⊕ (Bool ⊕ Unit)) :=
  if (decide (s3 < (a1.length : Int))) = true then
    (ix a1 s3).bind fun v4 =>
    if (decide ((⟨v4.fA, v4.fB⟩ : SPair) = (⟨a2.fA, a2.fB⟩ : SPair))) = true then
      some (.inr (.inl true))
    else
    some (.inl (IntKind.i64.wrap (s3 + (1 : Int))))
  else
  some (.inr (.inr ()))
def m_law30_BlockGrows_1 (n : Nat) (a1 : (List SPair)) (a2 : SPair) : Option Bool :=
  (iter n (fun s => m_law30_BlockGrows_1_L1 n a1 a2 s) (0 : Int)).bind fun t3 => match t3 with
  | (.inl u4) =>
    some u4
  | (.inr _u5) =>
    some false
def m_law30_BlockGrows_L1 (n : Nat) (v9 : ((List SPair) × Int)) (v10 : ((List SPair) × Int)) (s11 : Int) : Option (Int ⊕ (Bool ⊕ Unit)) :=
  if (decide (s11 < (v9.1.length : Int))) = true then
    (ix v9.1 s11).bind fun v12 =>
    (m_law30_BlockGrows_1 n v10.1 (⟨v12.fA, v12.fB⟩ : SPair)).bind fun v13 =>
    if (!v13) = true then
      some (.inr (.inl false))
    else
    some (.inl (IntKind.i64.wrap (s11 + (1 : Int))))
  else
  some (.inr (.inr ()))
def m_law30_BlockGrows_L2 (n : Nat) (v9 : ((List SPair) × Int)) (v14 : SFeatures) (v17 : ((List SPair) × Int)) (v19 : ((List Int) × Int)) (s20 : Int) (s21 : Int) : Option ((Int × Int) ⊕ (Bool ⊕ Int)) :=
  if (decide (s21 < (v9.1.length : Int))) = true then
    (
      (ix v9.1 s21).bind fun v22 =>
      if ((decide (v22.fA = v14.fID)) || (decide (v22.fB = v14.fID))) = true then
        ((if (!(decide ((v19.1.length : Int) ≤ s20))) = true then slc v19.1 s20 (IntKind.i64.wrap (s20 + (1 : Int))) else some default)).bind fun v23 =>
        ((if (!(decide ((v19.1.length : Int) ≤ s20))) = true then m_ref30_SameInts n v23 ([(IntKind.i64.wrap ((IntKind.i64.wrap (v22.fA + v22.fB)) - v14.fID))] : List Int) else some default)).bind fun v24 =>
        if ((decide ((v19.1.length : Int) ≤ s20)) || (!v24)) = true then
          some (.inl false)
        else
        some (.inr (IntKind.i64.wrap (s20 + (1 : Int))))
      else
      (m_law30_BlockGrows_1 n v17.1 (⟨v22.fA, v22.fB⟩ : SPair)).bind fun v25 =>
      if (!v25) = true then
        some (.inl false)
      else
      some (.inr s20) : Option (Bool ⊕ Int)).bind fun t26 => match t26 with
    | (.inl u27) =>
      some (.inr (.inl u27))
    | (.inr u28) =>
      some (.inl (u28, (IntKind.i64.wrap (s21 + (1 : Int)))))
  else
  some (.inr (.inr s20))
def m_law30_BlockGrows (n : Nat) (a1 : (List SFeatures)) (a2 : A2) : Option Bool :=
  (m_law30_awake n).bind fun v3 =>
  ((if (!(!v3)) = true then m_law30_good n a1 else some default)).bind fun v4 =>
  if (((!v3) || (!v4)) || (decide ((a1.length : Int) = (0 : Int)))) = true then
    (m_law30_awake n).bind fun v5 =>
    some v5
  else
  (m_law30_table n a1).bind fun v6 =>
  (rem (IntKind.i64.wrap a2.e0) (6 : Int)).bind fun v7 =>
  (rem (IntKind.i64.wrap a2.e1) (5 : Int)).bind fun v8 =>
  (m_block_Pairs n v6.1 (IntKind.i64.wrap ((2 : Int) + v7))).bind fun v9 =>
  (m_block_Pairs n v6.1 (IntKind.i64.wrap ((IntKind.i64.wrap ((2 : Int) + v7)) + v8))).bind fun v10 =>
  if (((!v6.2) || (!decide (v9.2 = (0 : Int)))) || (!decide (v10.2 = (0 : Int)))) = true then
    some false
  else
  (iter n (fun s => m_law30_BlockGrows_L1 n v9 v10 s) (0 : Int)).bind fun t11 => match t11 with
  | (.inl u12) =>
    some u12
  | (.inr _u13) =>
    (ix a1 (IntKind.i64.wrap ((a1.length : Int) - (1 : Int)))).bind fun v14 =>
    (slc a1 (0 : Int) (IntKind.i64.wrap ((a1.length : Int) - (1 : Int)))).bind fun v15 =>
    (m_law30_table n v15).bind fun v16 =>
    (m_block_Pairs n v16.1 (IntKind.i64.wrap ((2 : Int) + v7))).bind fun v17 =>
    (m_law29_Own n (⟨v14.fID, v14.fTitle, v14.fAuthor, v14.fYears, v14.fIsbns, v14.fLangs, v14.fPublisher, v14.fEdition⟩ : SFeatures)).bind fun v18 =>
    (m_block_Near n v16.1 v18 (IntKind.i64.wrap ((2 : Int) + v7))).bind fun v19 =>
    if (((!v16.2) || (!decide (v17.2 = (0 : Int)))) || (!decide (v19.2 = (0 : Int)))) = true then
      some false
    else
    (iter n (fun s => m_law30_BlockGrows_L2 n v9 v14 v17 v19 s.1 s.2) ((0 : Int), (0 : Int))).bind fun t20 => match t20 with
    | (.inl u21) =>
      some u21
    | (.inr u22) =>
      some (decide (u22 = (v19.1.length : Int)))
end
end Go.Proofs.YtkdefjliknpliaaGreatDoor.Ab
