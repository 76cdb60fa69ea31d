/- The functions in plain Lean. Conditions: none. -/
import Derived.Test.YtjinohfopjlgkaaAb40
import Derived.Test.YtjinohfopjlgkaaIm
set_option maxRecDepth 100000
namespace Go.Proofs.Ytjinohfopjlgkaa.Ab
open Go
attribute [local irreducible] AL AD AW nlO nlV nlD

noncomputable section
structure SItem where
  fN : Int
  fDoc : Int
  deriving Inhabited, DecidableEq
def SItem.e (x : SItem) : D := .agg [(.int .i64 x.fN), (.int .i64 x.fDoc)]
theorem enSItem : En SItem.e 2 := ⟨fun _ => rfl, fun x y hy => by
  have hy' : y ∈ [((.int .i64 x.fN) : D), ((.int .i64 x.fDoc) : D)] := hy
  simp only [List.mem_cons, List.not_mem_nil, or_false] at hy'
  rcases hy' with rfl | rfl <;> rfl⟩
structure SIndex where
  fBlocks : (List (List SItem))
  deriving Inhabited, DecidableEq
def SIndex.e (x : SIndex) : D := .agg [(.sl (x.fBlocks.map (esl SItem.e)))]
structure SOp where
  fRemove : Bool
  fItem : SItem
  deriving Inhabited, DecidableEq
def SOp.e (x : SOp) : D := .agg [(.bool x.fRemove), (.int .i64 x.fItem.fN), (.int .i64 x.fItem.fDoc)]
theorem enSOp : En SOp.e 3 := ⟨fun _ => rfl, fun x y hy => by
  have hy' : y ∈ [((.bool x.fRemove) : D), ((.int .i64 x.fItem.fN) : D), ((.int .i64 x.fItem.fDoc) : D)] := hy
  simp only [List.mem_cons, List.not_mem_nil, or_false] at hy'
  rcases hy' with rfl | rfl | rfl <;> rfl⟩
structure A3 where
  e0 : Int
  e1 : Int
  e2 : Int
  deriving Inhabited, DecidableEq
def A3.e (x : A3) : D := .agg [(.int .i64 x.e0), (.int .i64 x.e1), (.int .i64 x.e2)]
def A3.l (x : A3) : List Int := [x.e0, x.e1, x.e2]
def A3.put (x : A3) (k : Int) (v : Int) : Option A3 :=
  if k = 0 then some { x with e0 := v } else if k = 1 then some { x with e1 := v } else if k = 2 then some { x with e2 := v } else none
def cmpI (a b : Int) : Int := if a < b then -1 else if b < a then 1 else 0
def cfC (x y : SItem) : Int := if cmpI x.fN y.fN = 0 then cmpI x.fDoc y.fDoc else cmpI x.fN y.fN

/-- cmp.isNaN[int] -/
def m_cmp_isNaN_int (n : Nat) (a1 : Int) : Option Bool :=
  some (!decide (a1 = a1))

/-- cmp.Compare[int] -/
def m_cmp_Compare_int (n : Nat) (a1 : Int) (a2 : Int) : Option Int :=
  (m_cmp_isNaN_int n a1).bind fun v3 =>
  (m_cmp_isNaN_int n a2).bind fun v4 =>
  if v3 = true then
    if v4 = true then
      some (0 : Int)
    else
    some (-1 : Int)
  else
  if v4 = true then
    some (1 : Int)
  else
  if (decide (a1 < a2)) = true then
    some (-1 : Int)
  else
  if (decide (a2 < a1)) = true then
    some (1 : Int)
  else
  some (0 : Int)

def m_cmp_Or_int_L1 (n : Nat) (a1 : (List Int)) (s2 : Int) : Option (Int ⊕ (Int ⊕ Unit)) :=
  if (decide (s2 < (a1.length : Int))) = true then
    (ix a1 s2).bind fun v3 =>
    if (!decide (v3 = (0 : Int))) = true then
      some (.inr (.inl v3))
    else
    some (.inl (IntKind.i64.wrap (s2 + (1 : Int))))
  else
  some (.inr (.inr ()))

/-- cmp.Or[int] -/
def m_cmp_Or_int (n : Nat) (a1 : (List Int)) : Option Int :=
  (iter n (fun s => m_cmp_Or_int_L1 n a1 s) (0 : Int)).bind fun t2 => match t2 with
  | (.inl u3) =>
    some u3
  | (.inr u4) =>
    some (0 : Int)

/-- bookplate/rangeindex.order -/
def m_rangeindex_order (n : Nat) (a1 : SItem) (a2 : SItem) : Option Int :=
  (m_cmp_Compare_int n a1.fN a2.fN).bind fun v3 =>
  (m_cmp_Compare_int n a1.fDoc a2.fDoc).bind fun v4 =>
  (m_cmp_Or_int n ([v3, v4] : List Int)).bind fun v5 =>
  some v5

/-- bookplate/rangeindex.item -/
def m_rangeindex_item (n : Nat) (a1 : SItem) : Option Bool :=
  some ((((decide ((0 : Int) ≤ a1.fN)) && (decide (a1.fN ≤ (1000000000000 : Int)))) && (decide ((1 : Int) ≤ a1.fDoc))) && (decide (a1.fDoc ≤ (1000000000 : Int))))

def m_slices_Concat_rangeindex_Item_rangeindex_Item_L1 (n : Nat) (a1 : (List (List SItem))) (s2 : Int) (s3 : Int) : Option ((Int × Int) ⊕ Int) :=
  if (decide (s3 < (a1.length : Int))) = true then
    (ix a1 s3).bind fun v4 =>
    if (decide ((IntKind.i64.wrap (s2 + (v4.length : Int))) < (0 : Int))) = true then
      none
    else
    some (.inl ((IntKind.i64.wrap (s2 + (v4.length : Int))), (IntKind.i64.wrap (s3 + (1 : Int)))))
  else
  some (.inr s2)

def m_slices_Concat_rangeindex_Item_rangeindex_Item_L2 (n : Nat) (a1 : (List (List SItem))) (s4 : Int) (s5 : (List SItem)) : Option ((Int × (List SItem)) ⊕ (List SItem)) :=
  if (decide (s4 < (a1.length : Int))) = true then
    (ix a1 s4).bind fun v6 =>
    (app 16 s5 v6).bind fun v7 =>
    some (.inl ((IntKind.i64.wrap (s4 + (1 : Int))), v7))
  else
  some (.inr s5)

/-- slices.Concat[[]bookplate/rangeindex.Item,bookplate/rangeindex.Item] -/
def m_slices_Concat_rangeindex_Item_rangeindex_Item (n : Nat) (a1 : (List (List SItem))) : Option (List SItem) :=
  (iter n (fun s => m_slices_Concat_rangeindex_Item_rangeindex_Item_L1 n a1 s.1 s.2) ((0 : Int), (0 : Int))).bind fun t2 =>
  (growM 16 SItem t2).bind fun v3 =>
  (iter n (fun s => m_slices_Concat_rangeindex_Item_rangeindex_Item_L2 n a1 s.1 s.2) ((0 : Int), v3)).bind fun t4 =>
  some t4

/-- bookplate/rangeindex.Items -/
def m_rangeindex_Items (n : Nat) (a1 : SIndex) : Option (List SItem) :=
  (m_slices_Concat_rangeindex_Item_rangeindex_Item n a1.fBlocks).bind fun v2 =>
  some v2

def m_rangeindex_Valid_L1 (n : Nat) (a1 : SIndex) (s2 : Int) : Option (Int ⊕ (Bool ⊕ Unit)) :=
  if (decide (s2 < (a1.fBlocks.length : Int))) = true then
    (ix a1.fBlocks s2).bind fun v3 =>
    ((if ((!((decide ((v3.length : Int) < (1 : Int))) || (decide ((32 : Int) < (v3.length : Int))))) && (decide ((0 : Int) < s2))) = true then ix a1.fBlocks (IntKind.i64.wrap (s2 - (1 : Int))) else some default)).bind fun v4 =>
    if (((decide ((v3.length : Int) < (1 : Int))) || (decide ((32 : Int) < (v3.length : Int)))) || ((decide ((0 : Int) < s2)) && (decide ((IntKind.i64.wrap ((v4.length : Int) + (v3.length : Int))) < (17 : Int))))) = true then
      some (.inr (.inl false))
    else
    some (.inl (IntKind.i64.wrap (s2 + (1 : Int))))
  else
  some (.inr (.inr ()))

def m_rangeindex_Valid_L2 (n : Nat) (v5 : (List SItem)) (s6 : Int) : Option (Int ⊕ (Bool ⊕ Unit)) :=
  if (decide (s6 < (v5.length : Int))) = true then
    (ix v5 s6).bind fun v7 =>
    (m_rangeindex_item n (⟨v7.fN, v7.fDoc⟩ : SItem)).bind fun v8 =>
    ((if ((!(!v8)) && (decide ((0 : Int) < s6))) = true then ix v5 (IntKind.i64.wrap (s6 - (1 : Int))) else some default)).bind fun v9 =>
    ((if ((!(!v8)) && (decide ((0 : Int) < s6))) = true then m_rangeindex_order n v9 (⟨v7.fN, v7.fDoc⟩ : SItem) else some default)).bind fun v10 =>
    if ((!v8) || ((decide ((0 : Int) < s6)) && (decide ((0 : Int) ≤ v10)))) = true then
      some (.inr (.inl false))
    else
    some (.inl (IntKind.i64.wrap (s6 + (1 : Int))))
  else
  some (.inr (.inr ()))

/-- bookplate/rangeindex.Valid -/
def m_rangeindex_Valid (n : Nat) (a1 : SIndex) : Option Bool :=
  (iter n (fun s => m_rangeindex_Valid_L1 n a1 s) (0 : Int)).bind fun t2 => match t2 with
  | (.inl u3) =>
    some u3
  | (.inr u4) =>
    (m_slices_Concat_rangeindex_Item_rangeindex_Item n a1.fBlocks).bind fun v5 =>
    (iter n (fun s => m_rangeindex_Valid_L2 n v5 s) (0 : Int)).bind fun t6 => match t6 with
    | (.inl u7) =>
      some u7
    | (.inr u8) =>
      some true

def m_rangeindex_between_L2 (n : Nat) (a2 : Int) (a3 : Int) (v6 : (List SItem)) (s7 : (List SItem)) (s8 : Int) : Option (((List SItem) × Int) ⊕ (List SItem)) :=
  if (decide (s8 < (v6.length : Int))) = true then
    (
      (ix v6 s8).bind fun v9 =>
      if ((decide (a2 ≤ v9.fN)) && (decide (v9.fN ≤ a3))) = true then
        (app 16 s7 ([(⟨v9.fN, v9.fDoc⟩ : SItem)] : List SItem)).bind fun v10 =>
        some v10
      else
      some s7 : Option (List SItem)).bind fun t11 =>
    some (.inl (t11, (IntKind.i64.wrap (s8 + (1 : Int)))))
  else
  some (.inr s7)

def m_rangeindex_between_L1 (n : Nat) (a1 : SIndex) (a2 : Int) (a3 : Int) (s4 : (List SItem)) (s5 : Int) : Option (((List SItem) × Int) ⊕ (List SItem)) :=
  if (decide (s5 < (a1.fBlocks.length : Int))) = true then
    (ix a1.fBlocks s5).bind fun v6 =>
    (iter n (fun s => m_rangeindex_between_L2 n a2 a3 v6 s.1 s.2) (s4, (0 : Int))).bind fun t7 =>
    some (.inl (t7, (IntKind.i64.wrap (s5 + (1 : Int)))))
  else
  some (.inr s4)

/-- bookplate/rangeindex.between -/
def m_rangeindex_between (n : Nat) (a1 : SIndex) (a2 : Int) (a3 : Int) : Option (List SItem) :=
  (iter n (fun s => m_rangeindex_between_L1 n a1 a2 a3 s.1 s.2) ([], (0 : Int))).bind fun t4 =>
  some t4

/-- bookplate/rangeindex.Count -/
def m_rangeindex_Count (n : Nat) (a1 : SIndex) (a2 : Int) (a3 : Int) : Option Int :=
  (m_rangeindex_between n (⟨a1.fBlocks⟩ : SIndex) a2 a3).bind fun v4 =>
  some (v4.length : Int)

def m_rangeindex_Rank_L2 (n : Nat) (a2 : Int) (v5 : (List SItem)) (s6 : Int) (s7 : Int) : Option ((Int × Int) ⊕ Int) :=
  if (decide (s7 < (v5.length : Int))) = true then
    (
      (ix v5 s7).bind fun v8 =>
      if (decide (v8.fN < a2)) = true then
        some (IntKind.i64.wrap (s6 + (1 : Int)))
      else
      some s6 : Option Int).bind fun t9 =>
    some (.inl (t9, (IntKind.i64.wrap (s7 + (1 : Int)))))
  else
  some (.inr s6)

def m_rangeindex_Rank_L1 (n : Nat) (a1 : SIndex) (a2 : Int) (s3 : Int) (s4 : Int) : Option ((Int × Int) ⊕ Int) :=
  if (decide (s4 < (a1.fBlocks.length : Int))) = true then
    (ix a1.fBlocks s4).bind fun v5 =>
    (iter n (fun s => m_rangeindex_Rank_L2 n a2 v5 s.1 s.2) (s3, (0 : Int))).bind fun t6 =>
    some (.inl (t6, (IntKind.i64.wrap (s4 + (1 : Int)))))
  else
  some (.inr s3)

/-- bookplate/rangeindex.Rank -/
def m_rangeindex_Rank (n : Nat) (a1 : SIndex) (a2 : Int) : Option Int :=
  (iter n (fun s => m_rangeindex_Rank_L1 n a1 a2 s.1 s.2) ((0 : Int), (0 : Int))).bind fun t3 =>
  some t3

def m_rangeindex_Nth_L1 (n : Nat) (a1 : SIndex) (s3 : Int) (s4 : Int) : Option ((Int × Int) ⊕ ((SItem × Bool) ⊕ Unit)) :=
  if (decide (s4 < (a1.fBlocks.length : Int))) = true then
    (ix a1.fBlocks s4).bind fun v5 =>
    if ((decide ((0 : Int) ≤ s3)) && (decide (s3 < (v5.length : Int)))) = true then
      (ix v5 s3).bind fun v6 =>
      some (.inr (.inl ((⟨v6.fN, v6.fDoc⟩ : SItem), true)))
    else
    some (.inl ((IntKind.i64.wrap (s3 - (v5.length : Int))), (IntKind.i64.wrap (s4 + (1 : Int)))))
  else
  some (.inr (.inr ()))

/-- bookplate/rangeindex.Nth -/
def m_rangeindex_Nth (n : Nat) (a1 : SIndex) (a2 : Int) : Option (SItem × Bool) :=
  (iter n (fun s => m_rangeindex_Nth_L1 n a1 s.1 s.2) (a2, (0 : Int))).bind fun t3 => match t3 with
  | (.inl u4) =>
    some u4
  | (.inr u5) =>
    some ((⟨(0 : Int), (0 : Int)⟩ : SItem), false)

/-- slices.Sort -/
def m_slices_Sort_int_int (_n : Nat) (c1 : List Int) : Option (List Int) := if c1.length < 4611686018427387904 then some (isort intLt c1) else none

def m_slices_Compact_int_int_L2 (n : Nat) (s2 : Int) (v7 : (List Int)) (s8 : Int) (s9 : Int) (s10 : (List Int)) : Option ((Int × Int × (List Int)) ⊕ (Int × (List Int))) :=
  if (decide (s9 < (v7.length : Int))) = true then
    (
      (ix v7 s9).bind fun v11 =>
      (ix s10 (s2 + s9)).bind fun v12 =>
      (ix v7 (IntKind.i64.wrap (s9 - (1 : Int)))).bind fun v13 =>
      (ix s10 (s2 + (IntKind.i64.wrap (s9 - (1 : Int))))).bind fun v14 =>
      if (!decide (v12 = v14)) = true then
        (ix v7 s9).bind fun v15 =>
        (ix s10 (s2 + s9)).bind fun v16 =>
        (ix s10 s8).bind fun v17 =>
        (setI s10 s8 v16).bind fun v18 =>
        some ((IntKind.i64.wrap (s8 + (1 : Int))), v18)
      else
      some (s8, s10) : Option (Int × (List Int))).bind fun t19 =>
    some (.inl (t19.1, (IntKind.i64.wrap (s9 + (1 : Int))), t19.2))
  else
  some (.inr (s8, s10))

def m_slices_Compact_int_int_L1 (n : Nat) (c1 : (List Int)) (s2 : Int) : Option (Int ⊕ ((List Int) ⊕ Unit)) :=
  if (decide (s2 < (c1.length : Int))) = true then
    (ix c1 s2).bind fun v3 =>
    (ix c1 s2).bind fun v4 =>
    (ix c1 (IntKind.i64.wrap (s2 - (1 : Int)))).bind fun v5 =>
    (ix c1 (IntKind.i64.wrap (s2 - (1 : Int)))).bind fun v6 =>
    if (decide (v4 = v6)) = true then
      (slc c1 s2 (c1.length : Int)).bind fun v7 =>
      (iter n (fun s => m_slices_Compact_int_int_L2 n s2 v7 s.1 s.2.1 s.2.2) (s2, (1 : Int), c1)).bind fun t8 =>
      (slc t8.2 t8.1 (t8.2.length : Int)).bind fun v9 =>
      (slc (clrL t8.2 t8.1.toNat v9.length ((0 : Int) : Int)) (0 : Int) t8.1).bind fun v10 =>
      some (.inr (.inl v10))
    else
    some (.inl (IntKind.i64.wrap (s2 + (1 : Int))))
  else
  some (.inr (.inr ()))

/-- slices.Compact[[]int,int] -/
def m_slices_Compact_int_int (n : Nat) (c1 : (List Int)) : Option (List Int) :=
  if (decide ((c1.length : Int) < (2 : Int))) = true then
    some c1
  else
  (iter n (fun s => m_slices_Compact_int_int_L1 n c1 s) (1 : Int)).bind fun t2 => match t2 with
  | (.inl u3) =>
    some u3
  | (.inr u4) =>
    some c1

def m_rangeindex_Docs_L1 (n : Nat) (v4 : (List SItem)) (s5 : Int) (s6 : (List Int)) : Option ((Int × (List Int)) ⊕ (List Int)) :=
  if (decide (s5 < (v4.length : Int))) = true then
    (ix v4 s5).bind fun v7 =>
    (app 8 s6 ([v7.fDoc] : List Int)).bind fun v8 =>
    some (.inl ((IntKind.i64.wrap (s5 + (1 : Int))), v8))
  else
  some (.inr s6)

/-- bookplate/rangeindex.Docs -/
def m_rangeindex_Docs (n : Nat) (a1 : SIndex) (a2 : Int) (a3 : Int) : Option (List Int) :=
  (m_rangeindex_between n (⟨a1.fBlocks⟩ : SIndex) a2 a3).bind fun v4 =>
  (iter n (fun s => m_rangeindex_Docs_L1 n v4 s.1 s.2) ((0 : Int), [])).bind fun t5 =>
  (m_slices_Sort_int_int n t5).bind fun v6 =>
  (m_slices_Compact_int_int n v6).bind fun v7 =>
  some v7

def m_rangeindex_Histogram_L1 (n : Nat) (a1 : SIndex) (a3 : Int) (v5 : Int) (s6 : (List Int)) (s7 : Int) : Option (((List Int) × Int) ⊕ (List Int)) :=
  if (decide (s7 ≤ a3)) = true then
    (m_rangeindex_Count n (⟨a1.fBlocks⟩ : SIndex) s7 (min a3 (IntKind.i64.wrap ((IntKind.i64.wrap (s7 + v5)) - (1 : Int))))).bind fun v8 =>
    (app 8 s6 ([v8] : List Int)).bind fun v9 =>
    some (.inl (v9, (IntKind.i64.wrap (s7 + v5))))
  else
  some (.inr s6)

/-- bookplate/rangeindex.Histogram -/
def m_rangeindex_Histogram (n : Nat) (a1 : SIndex) (a2 : Int) (a3 : Int) (a4 : Int) : Option (List Int) :=
  if (((((decide (a2 < (0 : Int))) || (decide (a3 < a2))) || (decide ((1000000000000 : Int) < a3))) || (decide (a4 < (1 : Int)))) || (decide ((100 : Int) < a4))) = true then
    some []
  else
  (quo .i64 (IntKind.i64.wrap ((IntKind.i64.wrap (a3 - a2)) + a4)) a4).bind fun v5 =>
  (iter n (fun s => m_rangeindex_Histogram_L1 n a1 a3 v5 s.1 s.2) ([], a2)).bind fun t6 =>
  some t6

def m_sort_Search_L1 (n : Nat) (p2 : Int → Option Bool) (s3 : Int) (s4 : Int) : Option ((Int × Int) ⊕ Int) :=
  if (decide (s3 < s4)) = true then
    (shrM .u64 (IntKind.u64.wrap (IntKind.i64.wrap (s3 + s4))) (1 : Int)).bind fun v5 =>
    (p2 (IntKind.i64.wrap v5)).bind fun v6 =>
    if (!v6) = true then
      some (.inl ((IntKind.i64.wrap ((IntKind.i64.wrap v5) + (1 : Int))), s4))
    else
    some (.inl (s3, (IntKind.i64.wrap v5)))
  else
  some (.inr s3)

/-- sort.Search -/
def m_sort_Search (n : Nat) (a1 : Int) (p2 : Int → Option Bool) : Option Int :=
  (iter n (fun s => m_sort_Search_L1 n p2 s.1 s.2) ((0 : Int), a1)).bind fun t3 =>
  some t3

/-- bookplate/rangeindex.block$1 -/
def m_rangeindex_block_1 (n : Nat) (a1 : Int) (c2 : SIndex) (c3 : SItem) : Option Bool :=
  (ix c2.fBlocks a1).bind fun v4 =>
  (ix v4 (0 : Int)).bind fun v5 =>
  (m_rangeindex_order n v5 (⟨c3.fN, c3.fDoc⟩ : SItem)).bind fun v6 =>
  some (decide ((0 : Int) < v6))

/-- bookplate/rangeindex.block -/
def m_rangeindex_block (n : Nat) (a1 : SIndex) (a2 : SItem) : Option Int :=
  (m_sort_Search n (a1.fBlocks.length : Int) (fun y1 => m_rangeindex_block_1 n y1 (⟨a1.fBlocks⟩ : SIndex) (⟨a2.fN, a2.fDoc⟩ : SItem))).bind fun v3 =>
  some (max (0 : Int) (IntKind.i64.wrap (v3 - (1 : Int))))

def m_slices_Concat_rangeindex_Item_rangeindex_Itemx_L1 (n : Nat) (a1 : (List (List (List SItem)))) (s2 : Int) (s3 : Int) : Option ((Int × Int) ⊕ Int) :=
  if (decide (s3 < (a1.length : Int))) = true then
    (ix a1 s3).bind fun v4 =>
    if (decide ((IntKind.i64.wrap (s2 + (v4.length : Int))) < (0 : Int))) = true then
      none
    else
    some (.inl ((IntKind.i64.wrap (s2 + (v4.length : Int))), (IntKind.i64.wrap (s3 + (1 : Int)))))
  else
  some (.inr s2)

def m_slices_Concat_rangeindex_Item_rangeindex_Itemx_L2 (n : Nat) (a1 : (List (List (List SItem)))) (s4 : Int) (s5 : (List (List SItem))) : Option ((Int × (List (List SItem))) ⊕ (List (List SItem))) :=
  if (decide (s4 < (a1.length : Int))) = true then
    (ix a1 s4).bind fun v6 =>
    (app 24 s5 v6).bind fun v7 =>
    some (.inl ((IntKind.i64.wrap (s4 + (1 : Int))), v7))
  else
  some (.inr s5)

/-- slices.Concat[[][]bookplate/rangeindex.Item,[]bookplate/rangeindex.Item] -/
def m_slices_Concat_rangeindex_Item_rangeindex_Itemx (n : Nat) (a1 : (List (List (List SItem)))) : Option (List (List SItem)) :=
  (iter n (fun s => m_slices_Concat_rangeindex_Item_rangeindex_Itemx_L1 n a1 s.1 s.2) ((0 : Int), (0 : Int))).bind fun t2 =>
  (growM 24 (List SItem) t2).bind fun v3 =>
  (iter n (fun s => m_slices_Concat_rangeindex_Item_rangeindex_Itemx_L2 n a1 s.1 s.2) ((0 : Int), v3)).bind fun t4 =>
  some t4

/-- bookplate/rangeindex.replaced -/
def m_rangeindex_replaced (n : Nat) (a1 : SIndex) (a2 : Int) (a3 : Int) (a4 : (List (List SItem))) : Option SIndex :=
  (slc a1.fBlocks (0 : Int) a2).bind fun v5 =>
  (slc a1.fBlocks a3 (a1.fBlocks.length : Int)).bind fun v6 =>
  (m_slices_Concat_rangeindex_Item_rangeindex_Itemx n ([v5, a4, v6] : List (List (List SItem)))).bind fun v7 =>
  some (⟨v7⟩ : SIndex)

def m_slices_IndexFunc_rangeindex_Item_rangeindex_Item_L1 (n : Nat) (a1 : (List SItem)) (p2 : SItem → Option Bool) (s3 : Int) : Option (Int ⊕ (Int ⊕ Unit)) :=
  if (decide (s3 < (a1.length : Int))) = true then
    (ix a1 s3).bind fun v4 =>
    (p2 v4).bind fun v5 =>
    if v5 = true then
      some (.inr (.inl s3))
    else
    some (.inl (IntKind.i64.wrap (s3 + (1 : Int))))
  else
  some (.inr (.inr ()))

/-- slices.IndexFunc[[]bookplate/rangeindex.Item,bookplate/rangeindex.Item] -/
def m_slices_IndexFunc_rangeindex_Item_rangeindex_Item (n : Nat) (a1 : (List SItem)) (p2 : SItem → Option Bool) : Option Int :=
  (iter n (fun s => m_slices_IndexFunc_rangeindex_Item_rangeindex_Item_L1 n a1 p2 s) (0 : Int)).bind fun t3 => match t3 with
  | (.inl u4) =>
    some u4
  | (.inr u5) =>
    some (-1 : Int)

/-- slices.ContainsFunc[[]bookplate/rangeindex.Item,bookplate/rangeindex.Item] -/
def m_slices_ContainsFunc_rangeindex_Item_rangeindex_Item (n : Nat) (a1 : (List SItem)) (p2 : SItem → Option Bool) : Option Bool :=
  (m_slices_IndexFunc_rangeindex_Item_rangeindex_Item n a1 p2).bind fun v3 =>
  some (decide ((0 : Int) ≤ v3))

/-- bookplate/rangeindex.Of$1 -/
def m_rangeindex_Of_1 (n : Nat) (a1 : SItem) : Option Bool :=
  (m_rangeindex_item n (⟨a1.fN, a1.fDoc⟩ : SItem)).bind fun v2 =>
  some (!v2)

/-- slices.Clone[[]bookplate/rangeindex.Item,bookplate/rangeindex.Item] -/
def m_slices_Clone_rangeindex_Item_rangeindex_Item (n : Nat) (a1 : (List SItem)) : Option (List SItem) :=
  (app 16 ([] : List SItem) a1).bind fun v2 =>
  some v2

/-- slices.SortFunc -/
def m_slices_SortFunc_rangeindex_Item_rangeindex_Item (n : Nat) (c1 : List SItem) : Option (List SItem) := if 64 ≤ n ∧ c1.length < 4611686018427387904 then some (isort (ltOf cfC) c1) else none

def m_slices_Compact_rangeindex_Item_rangeindex_Item_L2 (n : Nat) (s2 : Int) (v7 : (List SItem)) (s8 : Int) (s9 : Int) (s10 : (List SItem)) : Option ((Int × Int × (List SItem)) ⊕ (Int × (List SItem))) :=
  if (decide (s9 < (v7.length : Int))) = true then
    (
      (ix v7 s9).bind fun v11 =>
      (ix s10 (s2 + s9)).bind fun v12 =>
      (ix v7 (IntKind.i64.wrap (s9 - (1 : Int)))).bind fun v13 =>
      (ix s10 (s2 + (IntKind.i64.wrap (s9 - (1 : Int))))).bind fun v14 =>
      if (!decide (v12 = v14)) = true then
        (ix v7 s9).bind fun v15 =>
        (ix s10 (s2 + s9)).bind fun v16 =>
        (ix s10 s8).bind fun v17 =>
        (setI s10 s8 v16).bind fun v18 =>
        some ((IntKind.i64.wrap (s8 + (1 : Int))), v18)
      else
      some (s8, s10) : Option (Int × (List SItem))).bind fun t19 =>
    some (.inl (t19.1, (IntKind.i64.wrap (s9 + (1 : Int))), t19.2))
  else
  some (.inr (s8, s10))

def m_slices_Compact_rangeindex_Item_rangeindex_Item_L1 (n : Nat) (c1 : (List SItem)) (s2 : Int) : Option (Int ⊕ ((List SItem) ⊕ Unit)) :=
  if (decide (s2 < (c1.length : Int))) = true then
    (ix c1 s2).bind fun v3 =>
    (ix c1 s2).bind fun v4 =>
    (ix c1 (IntKind.i64.wrap (s2 - (1 : Int)))).bind fun v5 =>
    (ix c1 (IntKind.i64.wrap (s2 - (1 : Int)))).bind fun v6 =>
    if (decide (v4 = v6)) = true then
      (slc c1 s2 (c1.length : Int)).bind fun v7 =>
      (iter n (fun s => m_slices_Compact_rangeindex_Item_rangeindex_Item_L2 n s2 v7 s.1 s.2.1 s.2.2) (s2, (1 : Int), c1)).bind fun t8 =>
      (slc t8.2 t8.1 (t8.2.length : Int)).bind fun v9 =>
      (slc (clrL t8.2 t8.1.toNat v9.length ((⟨(0 : Int), (0 : Int)⟩ : SItem) : SItem)) (0 : Int) t8.1).bind fun v10 =>
      some (.inr (.inl v10))
    else
    some (.inl (IntKind.i64.wrap (s2 + (1 : Int))))
  else
  some (.inr (.inr ()))

/-- slices.Compact[[]bookplate/rangeindex.Item,bookplate/rangeindex.Item] -/
def m_slices_Compact_rangeindex_Item_rangeindex_Item (n : Nat) (c1 : (List SItem)) : Option (List SItem) :=
  if (decide ((c1.length : Int) < (2 : Int))) = true then
    some c1
  else
  (iter n (fun s => m_slices_Compact_rangeindex_Item_rangeindex_Item_L1 n c1 s) (1 : Int)).bind fun t2 => match t2 with
  | (.inl u3) =>
    some u3
  | (.inr u4) =>
    some c1

/-- bookplate/rangeindex.Of -/
def m_rangeindex_Of (n : Nat) (a1 : (List SItem)) : Option (SIndex × Int) :=
  (m_slices_ContainsFunc_rangeindex_Item_rangeindex_Item n a1 (fun y1 => m_rangeindex_Of_1 n y1)).bind fun v2 =>
  if v2 = true then
    some ((⟨[]⟩ : SIndex), (1 : Int))
  else
  (m_slices_Clone_rangeindex_Item_rangeindex_Item n a1).bind fun v3 =>
  (m_slices_SortFunc_rangeindex_Item_rangeindex_Item n v3).bind fun v4 =>
  (m_slices_Compact_rangeindex_Item_rangeindex_Item n v4).bind fun v5 =>
  (chunksM v5 (32 : Int)).bind fun v6 =>
  some ((⟨v6⟩ : SIndex), (0 : Int))

def m_slices_BinarySearchFunc_rangeindex_Item_rangeindex_Item_rangeindex_Item_L1 (n : Nat) (a1 : (List SItem)) (a2 : SItem) (s3 : Int) (s4 : Int) : Option ((Int × Int) ⊕ Int) :=
  if (decide (s3 < s4)) = true then
    (shrM .u64 (IntKind.u64.wrap (IntKind.i64.wrap (s3 + s4))) (1 : Int)).bind fun v5 =>
    (ix a1 (IntKind.i64.wrap v5)).bind fun v6 =>
    (m_rangeindex_order n v6 (⟨a2.fN, a2.fDoc⟩ : SItem)).bind fun v7 =>
    if (decide (v7 < (0 : Int))) = true then
      some (.inl ((IntKind.i64.wrap ((IntKind.i64.wrap v5) + (1 : Int))), s4))
    else
    some (.inl (s3, (IntKind.i64.wrap v5)))
  else
  some (.inr s3)

/-- slices.BinarySearchFunc[[]bookplate/rangeindex.Item,bookplate/rangeindex.Item,bookplate/rangeindex.Item] -/
def m_slices_BinarySearchFunc_rangeindex_Item_rangeindex_Item_rangeindex_Item (n : Nat) (a1 : (List SItem)) (a2 : SItem) : Option (Int × Bool) :=
  (iter n (fun s => m_slices_BinarySearchFunc_rangeindex_Item_rangeindex_Item_rangeindex_Item_L1 n a1 a2 s.1 s.2) ((0 : Int), (a1.length : Int))).bind fun t3 =>
  ((if (decide (t3 < (a1.length : Int))) = true then ix a1 t3 else some default)).bind fun v4 =>
  ((if (decide (t3 < (a1.length : Int))) = true then m_rangeindex_order n v4 (⟨a2.fN, a2.fDoc⟩ : SItem) else some default)).bind fun v5 =>
  some (t3, ((decide (t3 < (a1.length : Int))) && (decide (v5 = (0 : Int)))))

/-- slices.Insert -/
def m_slices_Insert_rangeindex_Item_rangeindex_Item (_n : Nat) (c1 : List SItem) (a2 : Int) (a3 : List SItem) : Option (List SItem) := insL 16 c1 a2 a3

/-- bookplate/rangeindex.Insert -/
def m_rangeindex_Insert (n : Nat) (a1 : SIndex) (a2 : SItem) : Option (SIndex × Bool) :=
  (m_rangeindex_item n (⟨a2.fN, a2.fDoc⟩ : SItem)).bind fun v3 =>
  ((if (!(!v3)) = true then m_rangeindex_Valid n (⟨a1.fBlocks⟩ : SIndex) else some default)).bind fun v4 =>
  if ((!v3) || (!v4)) = true then
    some ((⟨a1.fBlocks⟩ : SIndex), false)
  else
  if (decide ((a1.fBlocks.length : Int) = (0 : Int))) = true then
    some ((⟨([([(⟨a2.fN, a2.fDoc⟩ : SItem)] : List SItem)] : List (List SItem))⟩ : SIndex), true)
  else
  (m_rangeindex_block n (⟨a1.fBlocks⟩ : SIndex) (⟨a2.fN, a2.fDoc⟩ : SItem)).bind fun v5 =>
  (ix a1.fBlocks v5).bind fun v6 =>
  (m_slices_BinarySearchFunc_rangeindex_Item_rangeindex_Item_rangeindex_Item n v6 (⟨a2.fN, a2.fDoc⟩ : SItem)).bind fun v7 =>
  if v7.2 = true then
    some ((⟨a1.fBlocks⟩ : SIndex), false)
  else
  (ix a1.fBlocks v5).bind fun v8 =>
  (m_slices_Clone_rangeindex_Item_rangeindex_Item n v8).bind fun v9 =>
  (m_slices_Insert_rangeindex_Item_rangeindex_Item n v9 v7.1 ([(⟨a2.fN, a2.fDoc⟩ : SItem)] : List SItem)).bind fun v10 =>
  (quo .i64 (v10.length : Int) (2 : Int)).bind fun v11 =>
  if (decide ((32 : Int) < (v10.length : Int))) = true then
    (slc v10 0 v11).bind fun v12 =>
    (slc v10 v11 (v10.length : Int)).bind fun v13 =>
    (m_rangeindex_replaced n (⟨a1.fBlocks⟩ : SIndex) v5 (IntKind.i64.wrap (v5 + (1 : Int))) ([v12, v13] : List (List SItem))).bind fun v14 =>
    some ((⟨v14.fBlocks⟩ : SIndex), true)
  else
  (m_rangeindex_replaced n (⟨a1.fBlocks⟩ : SIndex) v5 (IntKind.i64.wrap (v5 + (1 : Int))) ([v10] : List (List SItem))).bind fun v15 =>
  some ((⟨v15.fBlocks⟩ : SIndex), true)

/-- slices.Delete -/
def m_slices_Delete_rangeindex_Item_rangeindex_Item (_n : Nat) (c1 : List SItem) (a2 : Int) (a3 : Int) : Option (List SItem) := delL c1 a2 a3

def m_rangeindex_Remove_L1 (n : Nat) (v4 : Int) (s12 : Int) (s13 : (List (List SItem))) : Option ((Int × (List (List SItem))) ⊕ (List (List SItem))) :=
  if ((decide ((IntKind.i64.wrap (s12 + (1 : Int))) < (s13.length : Int))) && (decide (s12 ≤ v4))) = true then
    (ix s13 s12).bind fun v14 =>
    (ix s13 (IntKind.i64.wrap (s12 + (1 : Int)))).bind fun v15 =>
    if (decide ((17 : Int) ≤ (IntKind.i64.wrap ((v14.length : Int) + (v15.length : Int))))) = true then
      some (.inl ((IntKind.i64.wrap (s12 + (1 : Int))), s13))
    else
    (m_slices_Concat_rangeindex_Item_rangeindex_Item n ([v14, v15] : List (List SItem))).bind fun v16 =>
    (m_rangeindex_replaced n (⟨s13⟩ : SIndex) s12 (IntKind.i64.wrap (s12 + (2 : Int))) ([v16] : List (List SItem))).bind fun v17 =>
    some (.inl (s12, v17.fBlocks))
  else
  some (.inr s13)

/-- bookplate/rangeindex.Remove -/
def m_rangeindex_Remove (n : Nat) (a1 : SIndex) (a2 : SItem) : Option (SIndex × Bool) :=
  ((if (!(decide ((a1.fBlocks.length : Int) = (0 : Int)))) = true then m_rangeindex_Valid n (⟨a1.fBlocks⟩ : SIndex) else some default)).bind fun v3 =>
  if ((decide ((a1.fBlocks.length : Int) = (0 : Int))) || (!v3)) = true then
    some ((⟨a1.fBlocks⟩ : SIndex), false)
  else
  (m_rangeindex_block n (⟨a1.fBlocks⟩ : SIndex) (⟨a2.fN, a2.fDoc⟩ : SItem)).bind fun v4 =>
  (ix a1.fBlocks v4).bind fun v5 =>
  (m_slices_BinarySearchFunc_rangeindex_Item_rangeindex_Item_rangeindex_Item n v5 (⟨a2.fN, a2.fDoc⟩ : SItem)).bind fun v6 =>
  if (!v6.2) = true then
    some ((⟨a1.fBlocks⟩ : SIndex), false)
  else
  (ix a1.fBlocks v4).bind fun v7 =>
  (m_slices_Clone_rangeindex_Item_rangeindex_Item n v7).bind fun v8 =>
  (m_slices_Delete_rangeindex_Item_rangeindex_Item n v8 v6.1 (IntKind.i64.wrap (v6.1 + (1 : Int)))).bind fun v9 =>
  if (decide ((v9.length : Int) = (0 : Int))) = true then
    (m_rangeindex_replaced n (⟨a1.fBlocks⟩ : SIndex) v4 (IntKind.i64.wrap (v4 + (1 : Int))) []).bind fun v10 =>
    some ((⟨v10.fBlocks⟩ : SIndex), true)
  else
  (m_rangeindex_replaced n (⟨a1.fBlocks⟩ : SIndex) v4 (IntKind.i64.wrap (v4 + (1 : Int))) ([v9] : List (List SItem))).bind fun v11 =>
  (iter n (fun s => m_rangeindex_Remove_L1 n v4 s.1 s.2) ((max (0 : Int) (IntKind.i64.wrap (v4 - (1 : Int)))), v11.fBlocks)).bind fun t12 =>
  some ((⟨t12⟩ : SIndex), true)

/-- bookplate/bookplateref42.Less -/
def m_ref42_Less (n : Nat) (a1 : SItem) (a2 : SItem) : Option Bool :=
  some ((decide (a1.fN < a2.fN)) || ((decide (a1.fN = a2.fN)) && (decide (a1.fDoc < a2.fDoc))))

/-- bookplate/bookplateref42.Right -/
def m_ref42_Right (n : Nat) (a1 : SItem) : Option Bool :=
  some ((((decide ((0 : Int) ≤ a1.fN)) && (decide (a1.fN ≤ (1000000000000 : Int)))) && (decide ((1 : Int) ≤ a1.fDoc))) && (decide (a1.fDoc ≤ (1000000000 : Int))))

def m_ref42_Insert_L1 (n : Nat) (a1 : (List SItem)) (a2 : SItem) (s4 : Int) : Option (Int ⊕ Int) :=
  ((if (decide (s4 < (a1.length : Int))) = true then ix a1 s4 else some default)).bind fun v5 =>
  ((if (decide (s4 < (a1.length : Int))) = true then m_ref42_Less n v5 (⟨a2.fN, a2.fDoc⟩ : SItem) else some default)).bind fun v6 =>
  if ((decide (s4 < (a1.length : Int))) && v6) = true then
    some (.inl (IntKind.i64.wrap (s4 + (1 : Int))))
  else
  some (.inr s4)

/-- bookplate/bookplateref42.Insert -/
def m_ref42_Insert (n : Nat) (a1 : (List SItem)) (a2 : SItem) : Option ((List SItem) × Bool) :=
  (m_ref42_Right n (⟨a2.fN, a2.fDoc⟩ : SItem)).bind fun v3 =>
  if (!v3) = true then
    some (a1, false)
  else
  (iter n (fun s => m_ref42_Insert_L1 n a1 a2 s) (0 : Int)).bind fun t4 =>
  ((if (decide (t4 < (a1.length : Int))) = true then ix a1 t4 else some default)).bind fun v5 =>
  if ((decide (t4 < (a1.length : Int))) && (decide (v5 = (⟨a2.fN, a2.fDoc⟩ : SItem)))) = true then
    some (a1, false)
  else
  (slc a1 (0 : Int) t4).bind fun v6 =>
  (app 16 (([] : List SItem) : List SItem) v6).bind fun v7 =>
  (app 16 v7 ([(⟨a2.fN, a2.fDoc⟩ : SItem)] : List SItem)).bind fun v8 =>
  (slc a1 t4 (a1.length : Int)).bind fun v9 =>
  (app 16 v8 v9).bind fun v10 =>
  some (v10, true)

def m_ref42_Remove_L1 (n : Nat) (a1 : (List SItem)) (a2 : SItem) (s3 : Int) : Option (Int ⊕ (((List SItem) × Bool) ⊕ Unit)) :=
  if (decide (s3 < (a1.length : Int))) = true then
    (ix a1 s3).bind fun v4 =>
    if (decide (v4 = (⟨a2.fN, a2.fDoc⟩ : SItem))) = true then
      (slc a1 (0 : Int) s3).bind fun v5 =>
      (app 16 (([] : List SItem) : List SItem) v5).bind fun v6 =>
      (slc a1 (IntKind.i64.wrap (s3 + (1 : Int))) (a1.length : Int)).bind fun v7 =>
      (app 16 v6 v7).bind fun v8 =>
      some (.inr (.inl (v8, true)))
    else
    some (.inl (IntKind.i64.wrap (s3 + (1 : Int))))
  else
  some (.inr (.inr ()))

/-- bookplate/bookplateref42.Remove -/
def m_ref42_Remove (n : Nat) (a1 : (List SItem)) (a2 : SItem) : Option ((List SItem) × Bool) :=
  (iter n (fun s => m_ref42_Remove_L1 n a1 a2 s) (0 : Int)).bind fun t3 => match t3 with
  | (.inl u4) =>
    some u4
  | (.inr u5) =>
    some (a1, false)

def m_ref42_Run_L1 (n : Nat) (a1 : (List SOp)) (s2 : (List SItem)) (s3 : Int) : Option (((List SItem) × Int) ⊕ (List SItem)) :=
  if (decide (s3 < (a1.length : Int))) = true then
    (
      (ix a1 s3).bind fun v4 =>
      if v4.fRemove = true then
        (ix a1 s3).bind fun v5 =>
        (m_ref42_Remove n s2 (⟨v5.fItem.fN, v5.fItem.fDoc⟩ : SItem)).bind fun v6 =>
        some v6.1
      else
      (ix a1 s3).bind fun v7 =>
      (m_ref42_Insert n s2 (⟨v7.fItem.fN, v7.fItem.fDoc⟩ : SItem)).bind fun v8 =>
      some v8.1 : Option (List SItem)).bind fun t9 =>
    some (.inl (t9, (IntKind.i64.wrap (s3 + (1 : Int)))))
  else
  some (.inr s2)

/-- bookplate/bookplateref42.Run -/
def m_ref42_Run (n : Nat) (a1 : (List SOp)) : Option (List SItem) :=
  (iter n (fun s => m_ref42_Run_L1 n a1 s.1 s.2) ([], (0 : Int))).bind fun t2 =>
  some t2

def m_law42_items_L1 (n : Nat) (v2 : (List SItem)) (s3 : (List SItem)) (s4 : Int) : Option (((List SItem) × Int) ⊕ (List SItem)) :=
  if (decide (s4 < (v2.length : Int))) = true then
    (ix v2 s4).bind fun v5 =>
    (app 16 s3 ([v5] : List SItem)).bind fun v6 =>
    some (.inl (v6, (IntKind.i64.wrap (s4 + (1 : Int)))))
  else
  some (.inr s3)

/-- bookplate/bookplatelaw42.items -/
def m_law42_items (n : Nat) (a1 : SIndex) : Option (List SItem) :=
  (m_rangeindex_Items n (⟨a1.fBlocks⟩ : SIndex)).bind fun v2 =>
  (iter n (fun s => m_law42_items_L1 n v2 s.1 s.2) ([], (0 : Int))).bind fun t3 =>
  some t3

def m_law42_play_L1 (n : Nat) (a1 : (List SOp)) (s3 : Int) (s4 : (List (List SItem))) : Option ((Int × (List (List SItem))) ⊕ (List (List SItem))) :=
  if (decide (s3 < (a1.length : Int))) = true then
    (
      (ix a1 s3).bind fun v5 =>
      if v5.fRemove = true then
        (ix a1 s3).bind fun v6 =>
        (m_rangeindex_Remove n (⟨s4⟩ : SIndex) (⟨v6.fItem.fN, v6.fItem.fDoc⟩ : SItem)).bind fun v7 =>
        some v7.1.fBlocks
      else
      (ix a1 s3).bind fun v8 =>
      (m_rangeindex_Insert n (⟨s4⟩ : SIndex) (⟨v8.fItem.fN, v8.fItem.fDoc⟩ : SItem)).bind fun v9 =>
      some v9.1.fBlocks : Option (List (List SItem))).bind fun t10 =>
    some (.inl ((IntKind.i64.wrap (s3 + (1 : Int))), t10))
  else
  some (.inr s4)

/-- bookplate/bookplatelaw42.play -/
def m_law42_play (n : Nat) (a1 : (List SOp)) : Option SIndex :=
  (m_rangeindex_Of n []).bind fun v2 =>
  (iter n (fun s => m_law42_play_L1 n a1 s.1 s.2) ((0 : Int), v2.1.fBlocks)).bind fun t3 =>
  some (⟨t3⟩ : SIndex)

def m_ref01_SameInts_L1 (n : Nat) (a1 : (List Int)) (a2 : (List Int)) (s3 : Int) : Option (Int ⊕ (Bool ⊕ Unit)) :=
  if (decide (s3 < (a1.length : Int))) = true then
    (ix a1 s3).bind fun v4 =>
    (ix a2 s3).bind fun v5 =>
    if (!decide (v4 = v5)) = true then
      some (.inr (.inl false))
    else
    some (.inl (IntKind.i64.wrap (s3 + (1 : Int))))
  else
  some (.inr (.inr ()))

/-- bookplate/bookplateref01.SameInts -/
def m_ref01_SameInts (n : Nat) (a1 : (List Int)) (a2 : (List Int)) : Option Bool :=
  if (!decide ((a1.length : Int) = (a2.length : Int))) = true then
    some false
  else
  (iter n (fun s => m_ref01_SameInts_L1 n a1 a2 s) (0 : Int)).bind fun t3 => match t3 with
  | (.inl u4) =>
    some u4
  | (.inr u5) =>
    some true

/-- bookplate/bookplatelaw42.awake -/
def m_law42_awake (n : Nat) : Option Bool :=
  (m_rangeindex_Of n ([(⟨(1998 : Int), (2 : Int)⟩ : SItem), (⟨(1990 : Int), (7 : Int)⟩ : SItem), (⟨(1993 : Int), (2 : Int)⟩ : SItem)] : List SItem)).bind fun v1 =>
  (m_rangeindex_Insert n (⟨v1.1.fBlocks⟩ : SIndex) (⟨(1994 : Int), (7 : Int)⟩ : SItem)).bind fun v2 =>
  ((if ((decide (v1.2 = (0 : Int))) && v2.2) = true then m_rangeindex_Histogram n (⟨v2.1.fBlocks⟩ : SIndex) (1990 : Int) (1999 : Int) (3 : Int) else some default)).bind fun v3 =>
  ((if ((decide (v1.2 = (0 : Int))) && v2.2) = true then m_ref01_SameInts n v3 ([(2 : Int), (1 : Int), (1 : Int)] : List Int) else some default)).bind fun v4 =>
  ((if (((decide (v1.2 = (0 : Int))) && v2.2) && v4) = true then m_rangeindex_Docs n (⟨v2.1.fBlocks⟩ : SIndex) (1993 : Int) (1999 : Int) else some default)).bind fun v5 =>
  ((if (((decide (v1.2 = (0 : Int))) && v2.2) && v4) = true then m_ref01_SameInts n v5 ([(2 : Int), (7 : Int)] : List Int) else some default)).bind fun v6 =>
  ((if ((((decide (v1.2 = (0 : Int))) && v2.2) && v4) && v6) = true then m_rangeindex_Valid n (⟨v2.1.fBlocks⟩ : SIndex) else some default)).bind fun v7 =>
  some (((((decide (v1.2 = (0 : Int))) && v2.2) && v4) && v6) && v7)

/-- bookplate/bookplatelaw42.small -/
def m_law42_small (n : Nat) (a1 : (List SOp)) : Option Bool :=
  some (decide ((a1.length : Int) ≤ (120 : Int)))

def m_law42_RangeCounts_L1 (n : Nat) (v5 : SIndex) (v11 : (List SItem)) (s12 : Int) : Option (Int ⊕ (Bool ⊕ Unit)) :=
  if (decide (s12 < (v11.length : Int))) = true then
    (m_rangeindex_Nth n (⟨v5.fBlocks⟩ : SIndex) s12).bind fun v13 =>
    ((if (!(!v13.2)) = true then ix v11 s12 else some default)).bind fun v14 =>
    ((if ((!((!v13.2) || (!decide ((⟨v13.1.fN, v13.1.fDoc⟩ : SItem) = v14)))) && (decide ((0 : Int) < s12))) = true then ix v11 (IntKind.i64.wrap (s12 - (1 : Int))) else some default)).bind fun v15 =>
    ((if ((!((!v13.2) || (!decide ((⟨v13.1.fN, v13.1.fDoc⟩ : SItem) = v14)))) && (decide ((0 : Int) < s12))) = true then ix v11 s12 else some default)).bind fun v16 =>
    ((if ((!((!v13.2) || (!decide ((⟨v13.1.fN, v13.1.fDoc⟩ : SItem) = v14)))) && (decide ((0 : Int) < s12))) = true then m_ref42_Less n v15 v16 else some default)).bind fun v17 =>
    if (((!v13.2) || (!decide ((⟨v13.1.fN, v13.1.fDoc⟩ : SItem) = v14))) || ((decide ((0 : Int) < s12)) && (!v17))) = true then
      some (.inr (.inl false))
    else
    some (.inl (IntKind.i64.wrap (s12 + (1 : Int))))
  else
  some (.inr (.inr ()))

/-- bookplate/bookplatelaw42.RangeCounts -/
def m_law42_RangeCounts (n : Nat) (a1 : (List SOp)) (a2 : A3) : Option Bool :=
  (m_law42_awake n).bind fun v3 =>
  if (!v3) = true then
    some false
  else
  (m_law42_small n a1).bind fun v4 =>
  if (((((!v4) || (decide (a2.e0 < (-10000000000000 : Int)))) || (decide (a2.e1 < a2.e0))) || (decide (a2.e2 < a2.e1))) || (decide ((10000000000000 : Int) < a2.e2))) = true then
    some true
  else
  (m_law42_play n a1).bind fun v5 =>
  (m_rangeindex_Count n (⟨v5.fBlocks⟩ : SIndex) a2.e0 a2.e2).bind fun v6 =>
  (m_rangeindex_Rank n (⟨v5.fBlocks⟩ : SIndex) (IntKind.i64.wrap (a2.e2 + (1 : Int)))).bind fun v7 =>
  (m_rangeindex_Rank n (⟨v5.fBlocks⟩ : SIndex) a2.e0).bind fun v8 =>
  ((if (!(!decide (v6 = (IntKind.i64.wrap (v7 - v8))))) = true then m_rangeindex_Count n (⟨v5.fBlocks⟩ : SIndex) a2.e0 a2.e1 else some default)).bind fun v9 =>
  ((if (!(!decide (v6 = (IntKind.i64.wrap (v7 - v8))))) = true then m_rangeindex_Count n (⟨v5.fBlocks⟩ : SIndex) (IntKind.i64.wrap (a2.e1 + (1 : Int))) a2.e2 else some default)).bind fun v10 =>
  if ((!decide (v6 = (IntKind.i64.wrap (v7 - v8)))) || (!decide (v6 = (IntKind.i64.wrap (v9 + v10))))) = true then
    some false
  else
  (m_law42_items n (⟨v5.fBlocks⟩ : SIndex)).bind fun v11 =>
  (iter n (fun s => m_law42_RangeCounts_L1 n v5 v11 s) (0 : Int)).bind fun t12 => match t12 with
  | (.inl u13) =>
    some u13
  | (.inr u14) =>
    (m_rangeindex_Rank n (⟨v5.fBlocks⟩ : SIndex) a2.e1).bind fun v15 =>
    (m_rangeindex_Nth n (⟨v5.fBlocks⟩ : SIndex) v15).bind fun v16 =>
    (m_rangeindex_Count n (⟨v5.fBlocks⟩ : SIndex) a2.e1 a2.e1).bind fun v17 =>
    some ((v16.2 && (decide (v16.1.fN = a2.e1))) == (decide ((0 : Int) < v17)))

end
end Go.Proofs.Ytjinohfopjlgkaa.Ab
