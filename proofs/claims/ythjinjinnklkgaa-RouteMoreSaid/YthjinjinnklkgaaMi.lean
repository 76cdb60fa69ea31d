/- The functions in plain Lean. Conditions: none. -/
import Derived.Test.YthjinjinnklkgaaAb35
set_option maxRecDepth 100000
namespace Go.Proofs.Ythjinjinnklkgaa.Ab
open Go
attribute [local irreducible] AL AD AW nlO nlV nlD

noncomputable section
structure SProblem where
  fCosts : (List (List Int))
  fRoom : (List Int)
  fPenalty : Int
  deriving Inhabited, DecidableEq
def SProblem.e (x : SProblem) : D := .agg [(.sl (x.fCosts.map (esl D.i))), (.sl (x.fRoom.map D.i)), (.int .i64 x.fPenalty)]
theorem enSProblem : En SProblem.e 3 := ⟨fun _ => rfl, fun x y hy => by
  have hy' : y ∈ [((.sl (x.fCosts.map (esl D.i))) : D), ((.sl (x.fRoom.map D.i)) : D), ((.int .i64 x.fPenalty) : D)] := hy
  simp only [List.mem_cons, List.not_mem_nil, or_false] at hy'
  rcases hy' with rfl | rfl | rfl <;> rfl⟩
structure SPrices where
  fAsks : (List Int)
  fLenders : (List Int)
  deriving Inhabited, DecidableEq
def SPrices.e (x : SPrices) : D := .agg [(.sl (x.fAsks.map D.i)), (.sl (x.fLenders.map D.i))]
structure A2 where
  e0 : Int
  e1 : Int
  deriving Inhabited, DecidableEq
def A2.e (x : A2) : D := .agg [(.int .i64 x.e0), (.int .i64 x.e1)]
def A2.l (x : A2) : List Int := [x.e0, x.e1]
def A2.put (x : A2) (k : Int) (v : Int) : Option A2 :=
  if k = 0 then some { x with e0 := v } else if k = 1 then some { x with e1 := v } else none
structure SLender where
  fLibrary : (List UInt8)
  fPlace : A2
  fLoad : Int
  deriving Inhabited, DecidableEq
def SLender.e (x : SLender) : D := .agg [(.str x.fLibrary), (.int .i64 x.fPlace.e0), (.int .i64 x.fPlace.e1), (.int .i64 x.fLoad)]
structure Ssearch where
  fp : SProblem
  froom : (List Int)
  fa : (List Int)
  ffrom : Int
  deriving Inhabited, DecidableEq
def Ssearch.e (x : Ssearch) : D := .agg [(.sl (x.fp.fCosts.map (esl D.i))), (.sl (x.fp.fRoom.map D.i)), (.int .i64 x.fp.fPenalty), (.sl (x.froom.map D.i)), (.sl (x.fa.map D.i)), (.int .i64 x.ffrom)]
structure A22 where
  e0 : Int
  e1 : Int
  deriving Inhabited, DecidableEq
def A22.e (x : A22) : D := .agg [(.int .u8 x.e0), (.int .u8 x.e1)]
def A22.l (x : A22) : List Int := [x.e0, x.e1]
def A22.put (x : A22) (k : Int) (v : Int) : Option A22 :=
  if k = 0 then some { x with e0 := v } else if k = 1 then some { x with e1 := v } else none
/-- bookplate/route.in -/
def m_route_in (n : Nat) (a1 : Int) (a2 : Int) (a3 : Int) : Option Bool :=
  some ((decide (a2 ≤ a1)) && (decide (a1 ≤ a3)))

def m_slices_IndexFunc_int_int_L1 (n : Nat) (a1 : (List (List Int))) (p2 : (List Int) → Option Bool) (s3 : Int) : Option (Int ⊕ (Int ⊕ Unit)) :=
  if (decide (s3 < (a1.length : Int))) = true then
    (ix a1 s3).bind fun v4 =>
    (p2 v4).bind fun v5 =>
    if v5 = true then
      some (.inr (.inl s3))
    else
    some (.inl (IntKind.i64.wrap (s3 + (1 : Int))))
  else
  some (.inr (.inr ()))

/-- slices.IndexFunc[[][]int,[]int] -/
def m_slices_IndexFunc_int_int (n : Nat) (a1 : (List (List Int))) (p2 : (List Int) → Option Bool) : Option Int :=
  (iter n (fun s => m_slices_IndexFunc_int_int_L1 n a1 p2 s) (0 : Int)).bind fun t3 => match t3 with
  | (.inl u4) =>
    some u4
  | (.inr u5) =>
    some (-1 : Int)

/-- slices.ContainsFunc[[][]int,[]int] -/
def m_slices_ContainsFunc_int_int (n : Nat) (a1 : (List (List Int))) (p2 : (List Int) → Option Bool) : Option Bool :=
  (m_slices_IndexFunc_int_int n a1 p2).bind fun v3 =>
  some (decide ((0 : Int) ≤ v3))

def m_slices_IndexFunc_int_intx_L1 (n : Nat) (a1 : (List Int)) (p2 : Int → Option Bool) (s3 : Int) : Option (Int ⊕ (Int ⊕ Unit)) :=
  if (decide (s3 < (a1.length : Int))) = true then
    (ix a1 s3).bind fun v4 =>
    (p2 v4).bind fun v5 =>
    if v5 = true then
      some (.inr (.inl s3))
    else
    some (.inl (IntKind.i64.wrap (s3 + (1 : Int))))
  else
  some (.inr (.inr ()))

/-- slices.IndexFunc[[]int,int] -/
def m_slices_IndexFunc_int_intx (n : Nat) (a1 : (List Int)) (p2 : Int → Option Bool) : Option Int :=
  (iter n (fun s => m_slices_IndexFunc_int_intx_L1 n a1 p2 s) (0 : Int)).bind fun t3 => match t3 with
  | (.inl u4) =>
    some u4
  | (.inr u5) =>
    some (-1 : Int)

/-- slices.ContainsFunc[[]int,int] -/
def m_slices_ContainsFunc_int_intx (n : Nat) (a1 : (List Int)) (p2 : Int → Option Bool) : Option Bool :=
  (m_slices_IndexFunc_int_intx n a1 p2).bind fun v3 =>
  some (decide ((0 : Int) ≤ v3))

/-- bookplate/route.Valid$1$1 -/
def m_route_Valid_1_1 (n : Nat) (a1 : Int) : Option Bool :=
  (m_route_in n a1 (-1 : Int) (10000 : Int)).bind fun v2 =>
  some (!v2)

/-- bookplate/route.Valid$1 -/
def m_route_Valid_1 (n : Nat) (a1 : (List Int)) (c2 : SProblem) : Option Bool :=
  ((if (!(!decide ((a1.length : Int) = (c2.fRoom.length : Int)))) = true then m_slices_ContainsFunc_int_intx n a1 (fun y1 => m_route_Valid_1_1 n y1) else some default)).bind fun v3 =>
  some ((!decide ((a1.length : Int) = (c2.fRoom.length : Int))) || v3)

/-- bookplate/route.Valid$2 -/
def m_route_Valid_2 (n : Nat) (a1 : Int) : Option Bool :=
  (m_route_in n a1 (0 : Int) (20 : Int)).bind fun v2 =>
  some (!v2)

/-- bookplate/route.Valid -/
def m_route_Valid (n : Nat) (a1 : SProblem) : Option Bool :=
  ((if (!((decide ((12 : Int) < (a1.fCosts.length : Int))) || (decide ((12 : Int) < (a1.fRoom.length : Int))))) = true then m_route_in n a1.fPenalty (0 : Int) (10000 : Int) else some default)).bind fun v2 =>
  if (((decide ((12 : Int) < (a1.fCosts.length : Int))) || (decide ((12 : Int) < (a1.fRoom.length : Int)))) || (!v2)) = true then
    some false
  else
  (m_slices_ContainsFunc_int_int n a1.fCosts (fun y1 => m_route_Valid_1 n y1 (⟨a1.fCosts, a1.fRoom, a1.fPenalty⟩ : SProblem))).bind fun v3 =>
  ((if (!v3) = true then m_slices_ContainsFunc_int_intx n a1.fRoom (fun y1 => m_route_Valid_2 n y1) else some default)).bind fun v4 =>
  some ((!v3) && (!v4))

def m_route_Problem_cost_L1 (n : Nat) (a1 : SProblem) (a2 : (List Int)) (s4 : Int) (s5 : Int) (s6 : (List Int)) : Option ((Int × Int × (List Int)) ⊕ ((Int × Bool) ⊕ (Int × (List Int)))) :=
  if (decide (s5 < (a2.length : Int))) = true then
    (
      (ix a2 s5).bind fun v7 =>
      if (decide (v7 = (-1 : Int))) = true then
        some (.inl ((IntKind.i64.wrap (s4 + a1.fPenalty)), s6))
      else
      (m_route_in n v7 (0 : Int) (IntKind.i64.wrap ((a1.fRoom.length : Int) - (1 : Int)))).bind fun v8 =>
      ((if (!(!v8)) = true then ix a1.fCosts s5 else some default)).bind fun v9 =>
      ((if (!(!v8)) = true then ix v9 v7 else some default)).bind fun v10 =>
      ((if (!((!v8) || (decide (v10 = (-1 : Int))))) = true then ix s6 v7 else some default)).bind fun v11 =>
      ((if (!((!v8) || (decide (v10 = (-1 : Int))))) = true then ix s6 v7 else some default)).bind fun v12 =>
      ((if (!((!v8) || (decide (v10 = (-1 : Int))))) = true then ix a1.fRoom v7 else some default)).bind fun v13 =>
      if (((!v8) || (decide (v10 = (-1 : Int)))) || (decide (v12 = v13))) = true then
        some (.inr ((0 : Int), false))
      else
      (ix s6 v7).bind fun v14 =>
      (ix s6 v7).bind fun v15 =>
      (ix s6 v7).bind fun v16 =>
      (setI s6 v7 (IntKind.i64.wrap (v15 + (1 : Int)))).bind fun v17 =>
      (ix a1.fCosts s5).bind fun v18 =>
      (ix v18 v7).bind fun v19 =>
      some (.inl ((IntKind.i64.wrap (s4 + v19)), v17)) : Option ((Int × (List Int)) ⊕ (Int × Bool))).bind fun t20 => match t20 with
    | (.inl u21) =>
      some (.inl (u21.1, (IntKind.i64.wrap (s5 + (1 : Int))), u21.2))
    | (.inr u22) =>
      some (.inr (.inl u22))
  else
  some (.inr (.inr (s4, s6)))

/-- (bookplate/route.Problem).cost -/
def m_route_Problem_cost (n : Nat) (a1 : SProblem) (a2 : (List Int)) : Option (Int × Bool) :=
  if (!decide ((a2.length : Int) = (a1.fCosts.length : Int))) = true then
    some ((0 : Int), false)
  else
  (mkL 8 (a1.fRoom.length : Int) ((0 : Int) : Int)).bind fun v3 =>
  (iter n (fun s => m_route_Problem_cost_L1 n a1 a2 s.1 s.2.1 s.2.2) ((0 : Int), (0 : Int), v3)).bind fun t4 => match t4 with
  | (.inl u5) =>
    some u5
  | (.inr u6) =>
    some (u6.1, true)

/-- bookplate/route.Cost -/
def m_route_Cost (n : Nat) (a1 : SProblem) (a2 : (List Int)) : Option (Int × Int) :=
  (m_route_Valid n (⟨a1.fCosts, a1.fRoom, a1.fPenalty⟩ : SProblem)).bind fun v3 =>
  if (!v3) = true then
    some ((0 : Int), (1 : Int))
  else
  (m_route_Problem_cost n (⟨a1.fCosts, a1.fRoom, a1.fPenalty⟩ : SProblem) a2).bind fun v4 =>
  if (!v4.2) = true then
    some ((0 : Int), (11 : Int))
  else
  some (v4.1, (0 : Int))

/-- bookplate/route.Bound$1 -/
def m_route_Bound_1 (n : Nat) (a1 : Int) : Option Bool :=
  (m_route_in n a1 (-1000000 : Int) (1000000 : Int)).bind fun v2 =>
  some (!v2)

def m_route_Bound_L1 (n : Nat) (a1 : SProblem) (a2 : SPrices) (s6 : Int) (s7 : Int) : Option ((Int × Int) ⊕ ((Int × Int) ⊕ Int)) :=
  if (decide (s7 < (a2.fLenders.length : Int))) = true then
    (ix a2.fLenders s7).bind fun v8 =>
    if (decide (v8 < (0 : Int))) = true then
      some (.inr (.inl ((0 : Int), (17 : Int))))
    else
    (ix a1.fRoom s7).bind fun v9 =>
    some (.inl ((IntKind.i64.wrap (s6 - (IntKind.i64.wrap (v9 * v8)))), (IntKind.i64.wrap (s7 + (1 : Int)))))
  else
  some (.inr (.inr s6))

def m_route_Bound_L3 (n : Nat) (a2 : SPrices) (v11 : Int) (v12 : (List Int)) (s13 : Int) : Option (Int ⊕ ((Int × Int) ⊕ Unit)) :=
  if (decide (s13 < (v12.length : Int))) = true then
    (ix v12 s13).bind fun v14 =>
    ((if (!decide (v14 = (-1 : Int))) = true then ix a2.fLenders s13 else some default)).bind fun v15 =>
    if ((!decide (v14 = (-1 : Int))) && (decide ((IntKind.i64.wrap (v14 + v15)) < v11))) = true then
      some (.inr (.inl ((0 : Int), (17 : Int))))
    else
    some (.inl (IntKind.i64.wrap (s13 + (1 : Int))))
  else
  some (.inr (.inr ()))

def m_route_Bound_L2 (n : Nat) (a1 : SProblem) (a2 : SPrices) (s9 : Int) (s10 : Int) : Option ((Int × Int) ⊕ ((Int × Int) ⊕ Int)) :=
  if (decide (s10 < (a2.fAsks.length : Int))) = true then
    (ix a2.fAsks s10).bind fun v11 =>
    if (decide (a1.fPenalty < v11)) = true then
      some (.inr (.inl ((0 : Int), (17 : Int))))
    else
    (ix a1.fCosts s10).bind fun v12 =>
    (iter n (fun s => m_route_Bound_L3 n a2 v11 v12 s) (0 : Int)).bind fun t13 => match t13 with
    | (.inl u14) =>
      some (.inr (.inl u14))
    | (.inr u15) =>
      some (.inl ((IntKind.i64.wrap (s9 + v11)), (IntKind.i64.wrap (s10 + (1 : Int)))))
  else
  some (.inr (.inr s9))

/-- bookplate/route.Bound -/
def m_route_Bound (n : Nat) (a1 : SProblem) (a2 : SPrices) : Option (Int × Int) :=
  (m_route_Valid n (⟨a1.fCosts, a1.fRoom, a1.fPenalty⟩ : SProblem)).bind fun v3 =>
  if (!v3) = true then
    some ((0 : Int), (1 : Int))
  else
  ((if (!((!decide ((a2.fAsks.length : Int) = (a1.fCosts.length : Int))) || (!decide ((a2.fLenders.length : Int) = (a1.fRoom.length : Int))))) = true then m_slices_ContainsFunc_int_intx n a2.fAsks (fun y1 => m_route_Bound_1 n y1) else some default)).bind fun v4 =>
  ((if (!(((!decide ((a2.fAsks.length : Int) = (a1.fCosts.length : Int))) || (!decide ((a2.fLenders.length : Int) = (a1.fRoom.length : Int)))) || v4)) = true then m_slices_ContainsFunc_int_intx n a2.fLenders (fun y1 => m_route_Bound_1 n y1) else some default)).bind fun v5 =>
  if ((((!decide ((a2.fAsks.length : Int) = (a1.fCosts.length : Int))) || (!decide ((a2.fLenders.length : Int) = (a1.fRoom.length : Int)))) || v4) || v5) = true then
    some ((0 : Int), (17 : Int))
  else
  (iter n (fun s => m_route_Bound_L1 n a1 a2 s.1 s.2) ((0 : Int), (0 : Int))).bind fun t6 => match t6 with
  | (.inl u7) =>
    some u7
  | (.inr u8) =>
    (iter n (fun s => m_route_Bound_L2 n a1 a2 s.1 s.2) (u8, (0 : Int))).bind fun t9 => match t9 with
    | (.inl u10) =>
      some u10
    | (.inr u11) =>
      some (u11, (0 : Int))

/-- bookplate/route.Check -/
def m_route_Check (n : Nat) (a1 : SProblem) (a2 : (List Int)) (a3 : SPrices) : Option Int :=
  (m_route_Cost n (⟨a1.fCosts, a1.fRoom, a1.fPenalty⟩ : SProblem) a2).bind fun v4 =>
  if (!decide (v4.2 = (0 : Int))) = true then
    some v4.2
  else
  (m_route_Bound n (⟨a1.fCosts, a1.fRoom, a1.fPenalty⟩ : SProblem) (⟨a3.fAsks, a3.fLenders⟩ : SPrices)).bind fun v5 =>
  if ((!decide (v5.2 = (0 : Int))) || (!decide (v5.1 = v4.1))) = true then
    some (17 : Int)
  else
  some (0 : Int)

/-- slices.Clone[[]int,int] -/
def m_slices_Clone_int_int (n : Nat) (a1 : (List Int)) : Option (List Int) :=
  (app 8 ([] : List Int) a1).bind fun v2 =>
  some v2

/-- math/bits.Mul64 -/
def m_math_bits_Mul64 (n : Nat) (a1 : Int) (a2 : Int) : Option (Int × Int) :=
  (shrM .u64 a1 (32 : Int)).bind fun v3 =>
  (shrM .u64 a2 (32 : Int)).bind fun v4 =>
  (shrM .u64 (IntKind.u64.wrap ((bitM .u64 (· &&& ·) a1 (4294967295 : Int)) * (bitM .u64 (· &&& ·) a2 (4294967295 : Int)))) (32 : Int)).bind fun v5 =>
  (shrM .u64 (IntKind.u64.wrap ((IntKind.u64.wrap (v3 * (bitM .u64 (· &&& ·) a2 (4294967295 : Int)))) + v5)) (32 : Int)).bind fun v6 =>
  (shrM .u64 (IntKind.u64.wrap ((bitM .u64 (· &&& ·) (IntKind.u64.wrap ((IntKind.u64.wrap (v3 * (bitM .u64 (· &&& ·) a2 (4294967295 : Int)))) + v5)) (4294967295 : Int)) + (IntKind.u64.wrap ((bitM .u64 (· &&& ·) a1 (4294967295 : Int)) * v4)))) (32 : Int)).bind fun v7 =>
  some ((IntKind.u64.wrap ((IntKind.u64.wrap ((IntKind.u64.wrap (v3 * v4)) + v6)) + v7)), (IntKind.u64.wrap (a1 * a2)))

/-- math/bits.Mul -/
def m_math_bits_Mul (n : Nat) (a1 : Int) (a2 : Int) : Option (Int × Int) :=
  (m_math_bits_Mul64 n a1 a2).bind fun v3 =>
  some (v3.1, v3.2)

def m_slices_Repeat_int_int_L1 (n : Nat) (s5 : Int) (s6 : (List Int)) : Option ((Int × (List Int)) ⊕ (List Int)) :=
  if (decide (s5 < (s6.length : Int))) = true then
    (slc s6 s5 (s6.length : Int)).bind fun v7 =>
    (slc s6 (0 : Int) s5).bind fun v8 =>
    some (.inl ((IntKind.i64.wrap (s5 + ((min ((s6.drop ((0 : Int).toNat)).take v8.length).length v7.length : Nat) : Int))), (cpyL s6 s5.toNat v7.length ((s6.drop ((0 : Int).toNat)).take v8.length))))
  else
  some (.inr s6)

/-- slices.Repeat[[]int,int] -/
def m_slices_Repeat_int_int (n : Nat) (a1 : (List Int)) (a2 : Int) : Option (List Int) :=
  if (decide (a2 < (0 : Int))) = true then
    none
  else
  (m_math_bits_Mul n (IntKind.u64.wrap (a1.length : Int)) (IntKind.u64.wrap a2)).bind fun v3 =>
  if ((decide ((0 : Int) < v3.1)) || (decide ((9223372036854775807 : Int) < v3.2))) = true then
    none
  else
  (mkL 8 (IntKind.i64.wrap v3.2) ((0 : Int) : Int)).bind fun v4 =>
  (iter n (fun s => m_slices_Repeat_int_int_L1 n s.1 s.2) (((min a1.length v4.length : Nat) : Int), (cpyL v4 0 v4.length a1))).bind fun t5 =>
  some t5

def m_route_search_assigned_L1 (n : Nat) (c1 : Ssearch) (a2 : Int) (s3 : (List Int)) (s4 : Int) : Option (((List Int) × Int) ⊕ (List Int)) :=
  if (decide (s4 < (c1.fa.length : Int))) = true then
    (
      (ix c1.fa s4).bind fun v5 =>
      (ix c1.fa s4).bind fun v6 =>
      if (decide (v6 = a2)) = true then
        (app 8 s3 ([s4] : List Int)).bind fun v7 =>
        some v7
      else
      some s3 : Option (List Int)).bind fun t8 =>
    some (.inl (t8, (IntKind.i64.wrap (s4 + (1 : Int)))))
  else
  some (.inr s3)

/-- (*bookplate/route.search).assigned -/
def m_route_search_assigned (n : Nat) (c1 : Ssearch) (a2 : Int) : Option (List Int) :=
  (iter n (fun s => m_route_search_assigned_L1 n c1 a2 s.1 s.2) ([], c1.ffrom)).bind fun t3 =>
  some t3

def m_route_search_add_L1 (n : Nat) (a2 : Int) (v6 : (List Int)) (s7 : Int) (s8 : (List Int)) (s9 : (List Int)) : Option ((Int × (List Int) × (List Int)) ⊕ ((List Int) × (List Int))) :=
  if (decide (s7 < (v6.length : Int))) = true then
    (
      (ix v6 s7).bind fun v10 =>
      if (!decide (v10 = (-1 : Int))) = true then
        (ix s8 s7).bind fun v11 =>
        (setI s8 s7 v10).bind fun v12 =>
        (ix s9 s7).bind fun v13 =>
        (setI s9 s7 a2).bind fun v14 =>
        some (v12, v14)
      else
      some (s8, s9) : Option ((List Int) × (List Int))).bind fun t15 =>
    some (.inl ((IntKind.i64.wrap (s7 + (1 : Int))), t15.1, t15.2))
  else
  some (.inr (s8, s9))

def m_route_search_add_L5 (n : Nat) (c1 : Ssearch) (s8 : (List Int)) (s9 : (List Int)) (s10 : (List Int)) (s11 : Int) (v16 : Int) (v17 : (List Int)) (s18 : Int) : Option (Int ⊕ (((List Int) × (List Int) × (List Int)) ⊕ Unit)) :=
  if (decide (s18 < (v17.length : Int))) = true then
    (ix v17 s18).bind fun v19 =>
    ((if (!decide (v19 = (-1 : Int))) = true then ix s8 s11 else some default)).bind fun v20 =>
    ((if (!decide (v19 = (-1 : Int))) = true then ix s8 s11 else some default)).bind fun v21 =>
    ((if (!decide (v19 = (-1 : Int))) = true then ix c1.fp.fCosts v16 else some default)).bind fun v22 =>
    ((if (!decide (v19 = (-1 : Int))) = true then ix v22 s11 else some default)).bind fun v23 =>
    ((if (!decide (v19 = (-1 : Int))) = true then ix s8 s18 else some default)).bind fun v24 =>
    ((if (!decide (v19 = (-1 : Int))) = true then ix s8 s18 else some default)).bind fun v25 =>
    if ((!decide (v19 = (-1 : Int))) && (decide ((IntKind.i64.wrap ((IntKind.i64.wrap (v21 - v23)) + v19)) < v25))) = true then
      (ix s8 s11).bind fun v26 =>
      (ix s8 s11).bind fun v27 =>
      (ix c1.fp.fCosts v16).bind fun v28 =>
      (ix v28 s11).bind fun v29 =>
      (ix s8 s18).bind fun v30 =>
      (setI s8 s18 (IntKind.i64.wrap ((IntKind.i64.wrap (v27 - v29)) + v19))).bind fun v31 =>
      (ix s9 s18).bind fun v32 =>
      (setI s9 s18 v16).bind fun v33 =>
      (ix s10 s18).bind fun v34 =>
      (setI s10 s18 s11).bind fun v35 =>
      some (.inr (.inl (v31, v33, v35)))
    else
    some (.inl (IntKind.i64.wrap (s18 + (1 : Int))))
  else
  some (.inr (.inr ()))

def m_route_search_add_L4 (n : Nat) (c1 : Ssearch) (s8 : (List Int)) (s9 : (List Int)) (s10 : (List Int)) (s11 : Int) (v14 : (List Int)) (s15 : Int) : Option (Int ⊕ (((List Int) × (List Int) × (List Int)) ⊕ Unit)) :=
  if (decide (s15 < (v14.length : Int))) = true then
    (ix v14 s15).bind fun v16 =>
    (ix c1.fp.fCosts v16).bind fun v17 =>
    (iter n (fun s => m_route_search_add_L5 n c1 s8 s9 s10 s11 v16 v17 s) (0 : Int)).bind fun t18 => match t18 with
    | (.inl u19) =>
      some (.inr (.inl (u19.1, u19.2.1, u19.2.2)))
    | (.inr u20) =>
      some (.inl (IntKind.i64.wrap (s15 + (1 : Int))))
  else
  some (.inr (.inr ()))

def m_route_search_add_L3 (n : Nat) (c1 : Ssearch) (s8 : (List Int)) (s9 : (List Int)) (s10 : (List Int)) (s11 : Int) : Option (Int ⊕ (((List Int) × (List Int) × (List Int)) ⊕ Unit)) :=
  if (decide (s11 < (c1.froom.length : Int))) = true then
    (
      (ix s8 s11).bind fun v12 =>
      (ix s8 s11).bind fun v13 =>
      if (decide ((1099511627776 : Int) ≤ v13)) = true then
        some (.inl ())
      else
      (m_route_search_assigned n (⟨(⟨c1.fp.fCosts, c1.fp.fRoom, c1.fp.fPenalty⟩ : SProblem), c1.froom, c1.fa, c1.ffrom⟩ : Ssearch) s11).bind fun v14 =>
      (iter n (fun s => m_route_search_add_L4 n c1 s8 s9 s10 s11 v14 s) (0 : Int)).bind fun t15 => match t15 with
      | (.inl u16) =>
        some (.inr (u16.1, u16.2.1, u16.2.2))
      | (.inr u17) =>
        some (.inl ()) : Option (Unit ⊕ ((List Int) × (List Int) × (List Int)))).bind fun t18 => match t18 with
    | (.inl u19) =>
      some (.inl (IntKind.i64.wrap (s11 + (1 : Int))))
    | (.inr u20) =>
      some (.inr (.inl (u20.1, u20.2.1, u20.2.2)))
  else
  some (.inr (.inr ()))

def m_route_search_add_L2 (n : Nat) (c1 : Ssearch) (s8 : (List Int)) (s9 : (List Int)) (s10 : (List Int)) : Option (((List Int) × (List Int) × (List Int)) ⊕ ((List Int) × (List Int) × (List Int))) :=
  (iter n (fun s => m_route_search_add_L3 n c1 s8 s9 s10 s) (0 : Int)).bind fun t11 => match t11 with
  | (.inl u12) =>
    some (.inl (u12.1, u12.2.1, u12.2.2))
  | (.inr u13) =>
    some (.inr (s8, s9, s10))

def m_route_search_add_L7 (n : Nat) (c1 : Ssearch) (t8 : ((List Int) × (List Int) × (List Int))) (s12 : Int) (v13 : (List Int)) (s20 : Int) (s21 : Int) (s22 : Int) (s23 : Int) : Option ((Int × Int × Int × Int) ⊕ (Int × Int × Int)) :=
  if (decide (s23 < (v13.length : Int))) = true then
    (
      (ix v13 s23).bind fun v24 =>
      (ix t8.1 s12).bind fun v25 =>
      (ix t8.1 s12).bind fun v26 =>
      (ix c1.fp.fCosts v24).bind fun v27 =>
      (ix v27 s12).bind fun v28 =>
      (ix t8.1 s12).bind fun v29 =>
      (ix t8.1 s12).bind fun v30 =>
      if ((decide (v30 < (1099511627776 : Int))) && (decide ((IntKind.i64.wrap ((IntKind.i64.wrap (v26 - v28)) + c1.fp.fPenalty)) < s20))) = true then
        some ((IntKind.i64.wrap ((IntKind.i64.wrap (v26 - v28)) + c1.fp.fPenalty)), s12, v24)
      else
      some (s20, s21, s22) : Option (Int × Int × Int)).bind fun t31 =>
    some (.inl (t31.1, t31.2.1, t31.2.2, (IntKind.i64.wrap (s23 + (1 : Int)))))
  else
  some (.inr (s20, s21, s22))

def m_route_search_add_L6 (n : Nat) (c1 : Ssearch) (t8 : ((List Int) × (List Int) × (List Int))) (s9 : Int) (s10 : Int) (s11 : Int) (s12 : Int) : Option ((Int × Int × Int × Int) ⊕ (Int × Int)) :=
  if (decide (s12 < (c1.froom.length : Int))) = true then
    (m_route_search_assigned n (⟨(⟨c1.fp.fCosts, c1.fp.fRoom, c1.fp.fPenalty⟩ : SProblem), c1.froom, c1.fa, c1.ffrom⟩ : Ssearch) s12).bind fun v13 =>
    (
      (ix c1.froom s12).bind fun v14 =>
      ((if (decide ((v13.length : Int) < v14)) = true then ix t8.1 s12 else some default)).bind fun v15 =>
      ((if (decide ((v13.length : Int) < v14)) = true then ix t8.1 s12 else some default)).bind fun v16 =>
      if ((decide ((v13.length : Int) < v14)) && (decide (v16 < s9))) = true then
        (ix t8.1 s12).bind fun v17 =>
        (ix t8.1 s12).bind fun v18 =>
        some (v18, s12, (-1 : Int))
      else
      some (s9, s10, s11) : Option (Int × Int × Int)).bind fun t19 =>
    (iter n (fun s => m_route_search_add_L7 n c1 t8 s12 v13 s.1 s.2.1 s.2.2.1 s.2.2.2) (t19.1, t19.2.1, t19.2.2, (0 : Int))).bind fun t20 =>
    some (.inl (t20.1, t20.2.1, t20.2.2, (IntKind.i64.wrap (s12 + (1 : Int)))))
  else
  some (.inr (s10, s11))

def m_route_search_add_L8 (n : Nat) (t8 : ((List Int) × (List Int) × (List Int))) (s13 : Int) (s14 : (List Int)) : Option ((Int × (List Int)) ⊕ (List Int)) :=
  if (!decide (s13 = (-1 : Int))) = true then
    (ix t8.2.1 s13).bind fun v15 =>
    (ix t8.2.1 s13).bind fun v16 =>
    (ix s14 v16).bind fun v17 =>
    (setI s14 v16 s13).bind fun v18 =>
    (ix t8.2.2 s13).bind fun v19 =>
    (ix t8.2.2 s13).bind fun v20 =>
    some (.inl (v20, v18))
  else
  some (.inr s14)

/-- (*bookplate/route.search).add -/
def m_route_search_add (n : Nat) (c1 : Ssearch) (a2 : Int) : Option Ssearch :=
  (m_slices_Repeat_int_int n ([(1099511627776 : Int)] : List Int) (c1.froom.length : Int)).bind fun v3 =>
  (mkL 8 (c1.froom.length : Int) ((0 : Int) : Int)).bind fun v4 =>
  (m_slices_Repeat_int_int n ([(-1 : Int)] : List Int) (c1.froom.length : Int)).bind fun v5 =>
  (ix c1.fp.fCosts a2).bind fun v6 =>
  (iter n (fun s => m_route_search_add_L1 n a2 v6 s.1 s.2.1 s.2.2) ((0 : Int), v3, v4)).bind fun t7 =>
  (iter n (fun s => m_route_search_add_L2 n c1 s.1 s.2.1 s.2.2) (t7.1, t7.2, v5)).bind fun t8 =>
  (iter n (fun s => m_route_search_add_L6 n c1 t8 s.1 s.2.1 s.2.2.1 s.2.2.2) (c1.fp.fPenalty, (-1 : Int), a2, (0 : Int))).bind fun t9 =>
  (
    if (!decide (t9.2 = (-1 : Int))) = true then
      (ix c1.fa t9.2).bind fun v10 =>
      (setI c1.fa t9.2 (-1 : Int)).bind fun v11 =>
      some v11
    else
    some c1.fa : Option (List Int)).bind fun t12 =>
  (iter n (fun s => m_route_search_add_L8 n t8 s.1 s.2) (t9.1, t12)).bind fun t13 =>
  some (⟨(⟨c1.fp.fCosts, c1.fp.fRoom, c1.fp.fPenalty⟩ : SProblem), c1.froom, t13, c1.ffrom⟩ : Ssearch)

def m_route_Problem_least_L1 (n : Nat) (a1 : SProblem) (s5 : Int) (s6 : (List Int)) (s7 : (List (List Int))) (s8 : (List Int)) (s9 : Int) (s10 : (List Int)) (s11 : Int) : Option ((Int × (List Int) × (List (List Int)) × (List Int) × Int × (List Int) × Int) ⊕ ((List Int) × (List (List Int)) × (List Int) × Int × (List Int) × Int)) :=
  if (decide (s5 < (a1.fCosts.length : Int))) = true then
    (m_route_search_add n (⟨(⟨s7, s8, s9⟩ : SProblem), s10, s6, s11⟩ : Ssearch) s5).bind fun v12 =>
    some (.inl ((IntKind.i64.wrap (s5 + (1 : Int))), v12.fa, v12.fp.fCosts, v12.fp.fRoom, v12.fp.fPenalty, v12.froom, v12.ffrom))
  else
  some (.inr (s6, s7, s8, s9, s10, s11))

def m_route_Problem_least_L2 (n : Nat) (a1 : SProblem) (t5 : ((List Int) × (List (List Int)) × (List Int) × Int × (List Int) × Int)) (s6 : Int) (s7 : Int) : Option ((Int × Int) ⊕ Int) :=
  if (decide (s7 < (a1.fCosts.length : Int))) = true then
    (
      (ix t5.1 s7).bind fun v8 =>
      (ix t5.1 s7).bind fun v9 =>
      if (decide (v9 = (-1 : Int))) = true then
        some (IntKind.i64.wrap (s6 + a1.fPenalty))
      else
      (ix a1.fCosts s7).bind fun v10 =>
      (ix v10 v9).bind fun v11 =>
      some (IntKind.i64.wrap (s6 + v11)) : Option Int).bind fun t12 =>
    some (.inl (t12, (IntKind.i64.wrap (s7 + (1 : Int)))))
  else
  some (.inr s6)

/-- (bookplate/route.Problem).least -/
def m_route_Problem_least (n : Nat) (a1 : SProblem) (a2 : Int) (a3 : (List Int)) : Option Int :=
  (m_slices_Repeat_int_int n ([(-1 : Int)] : List Int) (a1.fCosts.length : Int)).bind fun v4 =>
  (iter n (fun s => m_route_Problem_least_L1 n a1 s.1 s.2.1 s.2.2.1 s.2.2.2.1 s.2.2.2.2.1 s.2.2.2.2.2.1 s.2.2.2.2.2.2) (a2, v4, a1.fCosts, a1.fRoom, a1.fPenalty, a3, a2)).bind fun t5 =>
  (iter n (fun s => m_route_Problem_least_L2 n a1 t5 s.1 s.2) ((0 : Int), a2)).bind fun t6 =>
  some t6

def m_route_Problem_prices_1_L1 (n : Nat) (a2 : Int) (c4 : SPrices) (v5 : (List Int)) (s6 : Int) (s7 : Int) : Option ((Int × Int) ⊕ Int) :=
  if (decide (s7 < (v5.length : Int))) = true then
    (
      (ix v5 s7).bind fun v8 =>
      if ((!decide (s7 = a2)) && (!decide (v8 = (-1 : Int)))) = true then
        (ix c4.fLenders s7).bind fun v9 =>
        (ix c4.fLenders s7).bind fun v10 =>
        some (min s6 (IntKind.i64.wrap (v8 + v10)))
      else
      some s6 : Option Int).bind fun t11 =>
    some (.inl (t11, (IntKind.i64.wrap (s7 + (1 : Int)))))
  else
  some (.inr s6)

/-- (bookplate/route.Problem).prices$1 -/
def m_route_Problem_prices_1 (n : Nat) (a1 : Int) (a2 : Int) (c3 : SProblem) (c4 : SPrices) : Option Int :=
  (ix c3.fCosts a1).bind fun v5 =>
  (iter n (fun s => m_route_Problem_prices_1_L1 n a2 c4 v5 s.1 s.2) (c3.fPenalty, (0 : Int))).bind fun t6 =>
  some t6



def m_route_Problem_prices_L1 (n : Nat) (a2 : (List Int)) (s4 : Int) (s5 : (List Int)) : Option ((Int × (List Int)) ⊕ (List Int)) :=
  if (decide (s4 < (a2.length : Int))) = true then
    (
      (ix a2 s4).bind fun v6 =>
      if (!decide (v6 = (-1 : Int))) = true then
        (ix s5 v6).bind fun v7 =>
        (ix s5 v6).bind fun v8 =>
        (ix s5 v6).bind fun v9 =>
        (setI s5 v6 (IntKind.i64.wrap (v8 + (1 : Int)))).bind fun v10 =>
        some v10
      else
      some s5 : Option (List Int)).bind fun t11 =>
    some (.inl ((IntKind.i64.wrap (s4 + (1 : Int))), t11))
  else
  some (.inr s5)

def m_route_Problem_prices_L2 (n : Nat) (a1 : SProblem) (t4 : (List Int)) (s5 : Int) (s6 : (List Int)) : Option ((Int × (List Int)) ⊕ (List Int)) :=
  if (decide (s5 < (a1.fRoom.length : Int))) = true then
    (ix a1.fRoom s5).bind fun v7 =>
    (
      (ix t4 s5).bind fun v8 =>
      (ix t4 s5).bind fun v9 =>
      if (decide (v9 < v7)) = true then
        some (0 : Int)
      else
      some a1.fPenalty : Option Int).bind fun t10 =>
    (app 8 s6 ([t10] : List Int)).bind fun v11 =>
    some (.inl ((IntKind.i64.wrap (s5 + (1 : Int))), v11))
  else
  some (.inr s6)

def m_route_Problem_prices_L4 (n : Nat) (a1 : SProblem) (a2 : (List Int)) (s8 : Bool) (s9 : Int) (s10 : (List Int)) : Option ((Bool × Int × (List Int)) ⊕ (Bool × (List Int))) :=
  if (decide (s9 < (a2.length : Int))) = true then
    (
      (ix a2 s9).bind fun v11 =>
      if (decide (v11 = (-1 : Int))) = true then
        some (s8, s10)
      else
      (m_route_Problem_prices_1 n s9 v11 (⟨a1.fCosts, a1.fRoom, a1.fPenalty⟩ : SProblem) (⟨[], s10⟩ : SPrices)).bind fun v12 =>
      (ix a1.fCosts s9).bind fun v13 =>
      (ix v13 v11).bind fun v14 =>
      (ix s10 v11).bind fun v15 =>
      (ix s10 v11).bind fun v16 =>
      if (decide ((IntKind.i64.wrap (v12 - v14)) < v16)) = true then
        (ix s10 v11).bind fun v17 =>
        (setI s10 v11 (IntKind.i64.wrap (v12 - v14))).bind fun v18 =>
        some (true, v18)
      else
      some (s8, s10) : Option (Bool × (List Int))).bind fun t19 =>
    some (.inl (t19.1, (IntKind.i64.wrap (s9 + (1 : Int))), t19.2))
  else
  some (.inr (s8, s10))

def m_route_Problem_prices_L3 (n : Nat) (a1 : SProblem) (a2 : (List Int)) (s6 : Bool) (s7 : (List Int)) : Option ((Bool × (List Int)) ⊕ (List Int)) :=
  if s6 = true then
    (iter n (fun s => m_route_Problem_prices_L4 n a1 a2 s.1 s.2.1 s.2.2) (false, (0 : Int), s7)).bind fun t8 =>
    some (.inl (t8.1, t8.2))
  else
  some (.inr s7)

def m_route_Problem_prices_L5 (n : Nat) (a1 : SProblem) (t6 : (List Int)) (s7 : Int) (s8 : (List Int)) : Option ((Int × (List Int)) ⊕ (List Int)) :=
  if (decide (s7 < (a1.fCosts.length : Int))) = true then
    (m_route_Problem_prices_1 n s7 (-1 : Int) (⟨a1.fCosts, a1.fRoom, a1.fPenalty⟩ : SProblem) (⟨s8, t6⟩ : SPrices)).bind fun v9 =>
    (app 8 s8 ([v9] : List Int)).bind fun v10 =>
    some (.inl ((IntKind.i64.wrap (s7 + (1 : Int))), v10))
  else
  some (.inr s8)

/-- (bookplate/route.Problem).prices -/
def m_route_Problem_prices (n : Nat) (a1 : SProblem) (a2 : (List Int)) : Option SPrices :=
  (mkL 8 (a1.fRoom.length : Int) ((0 : Int) : Int)).bind fun v3 =>
  (iter n (fun s => m_route_Problem_prices_L1 n a2 s.1 s.2) ((0 : Int), v3)).bind fun t4 =>
  (iter n (fun s => m_route_Problem_prices_L2 n a1 t4 s.1 s.2) ((0 : Int), [])).bind fun t5 =>
  (iter n (fun s => m_route_Problem_prices_L3 n a1 a2 s.1 s.2) (true, t5)).bind fun t6 =>
  (iter n (fun s => m_route_Problem_prices_L5 n a1 t6 s.1 s.2) ((0 : Int), [])).bind fun t7 =>
  some (⟨t7, t6⟩ : SPrices)

def m_route_Solve_L2 (n : Nat) (a1 : SProblem) (s5 : Int) (s6 : (List Int)) (s7 : Int) (s9 : Int) (s10 : (List Int)) : Option ((Int × (List Int)) ⊕ (Int × (List Int) × (List Int))) :=
  if (decide (s9 < (s10.length : Int))) = true then
    (
      (
        if (!decide (s9 = (-1 : Int))) = true then
          (ix a1.fCosts s7).bind fun v11 =>
          (ix v11 s9).bind fun v12 =>
          ((if (!(decide (v12 = (-1 : Int)))) = true then ix s10 s9 else some default)).bind fun v13 =>
          ((if (!(decide (v12 = (-1 : Int)))) = true then ix s10 s9 else some default)).bind fun v14 =>
          if ((decide (v12 = (-1 : Int))) || (decide (v14 = (0 : Int)))) = true then
            some (.inl ())
          else
          (ix s10 s9).bind fun v15 =>
          (ix s10 s9).bind fun v16 =>
          (ix s10 s9).bind fun v17 =>
          (setI s10 s9 (IntKind.i64.wrap (v16 - (1 : Int)))).bind fun v18 =>
          some (.inr (v12, v18))
        else
        some (.inr (a1.fPenalty, s10)) : Option (Unit ⊕ (Int × (List Int)))).bind fun t19 => match t19 with
      | (.inl u20) =>
        some (.inl s10)
      | (.inr u21) =>
        (m_route_Problem_least n (⟨a1.fCosts, a1.fRoom, a1.fPenalty⟩ : SProblem) (IntKind.i64.wrap (s7 + (1 : Int))) u21.2).bind fun v22 =>
        if (decide ((IntKind.i64.wrap (u21.1 + v22)) = s5)) = true then
          (app 8 s6 ([s9] : List Int)).bind fun v23 =>
          some (.inr ((IntKind.i64.wrap (s5 - u21.1)), v23, u21.2))
        else
        if (!decide (s9 = (-1 : Int))) = true then
          (ix u21.2 s9).bind fun v24 =>
          (ix u21.2 s9).bind fun v25 =>
          (ix u21.2 s9).bind fun v26 =>
          (setI u21.2 s9 (IntKind.i64.wrap (v25 + (1 : Int)))).bind fun v27 =>
          some (.inl v27)
        else
        some (.inl u21.2) : Option ((List Int) ⊕ (Int × (List Int) × (List Int)))).bind fun t28 => match t28 with
    | (.inl u29) =>
      some (.inl ((IntKind.i64.wrap (s9 + (1 : Int))), u29))
    | (.inr u30) =>
      some (.inr (u30.1, u30.2.1, u30.2.2))
  else
  some (.inr (s5, s6, s10))

def m_route_Solve_L1 (n : Nat) (a1 : SProblem) (s5 : Int) (s6 : (List Int)) (s7 : Int) (s8 : (List Int)) : Option ((Int × (List Int) × Int × (List Int)) ⊕ ((List Int) × (List Int))) :=
  if (decide (s7 < (a1.fCosts.length : Int))) = true then
    (
      (iter n (fun s => m_route_Solve_L2 n a1 s5 s6 s7 s.1 s.2) ((-1 : Int), s8)).bind fun t9 =>
      some (t9.1, t9.2.1, t9.2.2) : Option (Int × (List Int) × (List Int))).bind fun t10 =>
    some (.inl (t10.1, t10.2.1, (IntKind.i64.wrap (s7 + (1 : Int))), t10.2.2))
  else
  some (.inr (s6, s8))

/-- bookplate/route.Solve -/
def m_route_Solve (n : Nat) (a1 : SProblem) : Option ((List Int) × SPrices × Int) :=
  (m_route_Valid n (⟨a1.fCosts, a1.fRoom, a1.fPenalty⟩ : SProblem)).bind fun v2 =>
  if (!v2) = true then
    some ([], (⟨[], []⟩ : SPrices), (1 : Int))
  else
  (m_slices_Clone_int_int n a1.fRoom).bind fun v3 =>
  (m_route_Problem_least n (⟨a1.fCosts, a1.fRoom, a1.fPenalty⟩ : SProblem) (0 : Int) v3).bind fun v4 =>
  (iter n (fun s => m_route_Solve_L1 n a1 s.1 s.2.1 s.2.2.1 s.2.2.2) (v4, [], (0 : Int), v3)).bind fun t5 =>
  (m_route_Problem_prices n (⟨a1.fCosts, a1.fRoom, a1.fPenalty⟩ : SProblem) t5.1).bind fun v6 =>
  some (t5.1, (⟨v6.fAsks, v6.fLenders⟩ : SPrices), (0 : Int))



def m_ref56_Valid_L1 (n : Nat) (a1 : SProblem) (s2 : Int) : Option (Int ⊕ (Bool ⊕ Unit)) :=
  if (decide (s2 < (a1.fRoom.length : Int))) = true then
    (ix a1.fRoom s2).bind fun v3 =>
    ((if (!(decide (v3 < (0 : Int)))) = true then ix a1.fRoom s2 else some default)).bind fun v4 =>
    if ((decide (v3 < (0 : Int))) || (decide ((20 : Int) < v4))) = true then
      some (.inr (.inl false))
    else
    some (.inl (IntKind.i64.wrap (s2 + (1 : Int))))
  else
  some (.inr (.inr ()))

def m_ref56_Valid_L3 (n : Nat) (a1 : SProblem) (s5 : Int) (s7 : Int) : Option (Int ⊕ (Bool ⊕ Unit)) :=
  (ix a1.fCosts s5).bind fun v8 =>
  if (decide (s7 < (v8.length : Int))) = true then
    (ix a1.fCosts s5).bind fun v9 =>
    (ix v9 s7).bind fun v10 =>
    ((if (!(decide (v10 < (-1 : Int)))) = true then ix a1.fCosts s5 else some default)).bind fun v11 =>
    ((if (!(decide (v10 < (-1 : Int)))) = true then ix v11 s7 else some default)).bind fun v12 =>
    if ((decide (v10 < (-1 : Int))) || (decide ((10000 : Int) < v12))) = true then
      some (.inr (.inl false))
    else
    some (.inl (IntKind.i64.wrap (s7 + (1 : Int))))
  else
  some (.inr (.inr ()))

def m_ref56_Valid_L2 (n : Nat) (a1 : SProblem) (s5 : Int) : Option (Int ⊕ (Bool ⊕ Unit)) :=
  if (decide (s5 < (a1.fCosts.length : Int))) = true then
    (ix a1.fCosts s5).bind fun v6 =>
    if (!decide ((v6.length : Int) = (a1.fRoom.length : Int))) = true then
      some (.inr (.inl false))
    else
    (iter n (fun s => m_ref56_Valid_L3 n a1 s5 s) (0 : Int)).bind fun t7 => match t7 with
    | (.inl u8) =>
      some (.inr (.inl u8))
    | (.inr u9) =>
      some (.inl (IntKind.i64.wrap (s5 + (1 : Int))))
  else
  some (.inr (.inr ()))

/-- bookplate/bookplateref56.Valid -/
def m_ref56_Valid (n : Nat) (a1 : SProblem) : Option Bool :=
  if ((((decide ((12 : Int) < (a1.fCosts.length : Int))) || (decide ((12 : Int) < (a1.fRoom.length : Int)))) || (decide (a1.fPenalty < (0 : Int)))) || (decide ((10000 : Int) < a1.fPenalty))) = true then
    some false
  else
  (iter n (fun s => m_ref56_Valid_L1 n a1 s) (0 : Int)).bind fun t2 => match t2 with
  | (.inl u3) =>
    some u3
  | (.inr u4) =>
    (iter n (fun s => m_ref56_Valid_L2 n a1 s) (0 : Int)).bind fun t5 => match t5 with
    | (.inl u6) =>
      some u6
    | (.inr u7) =>
      some true

def m_ref56_Permitted_L1 (n : Nat) (a1 : SProblem) (a2 : (List Int)) (s4 : Int) (s5 : (List Int)) : Option ((Int × (List Int)) ⊕ (Bool ⊕ (List Int))) :=
  if (decide (s4 < (a2.length : Int))) = true then
    (
      (ix a2 s4).bind fun v6 =>
      if (decide (v6 = (-1 : Int))) = true then
        some (.inl s5)
      else
      (ix a2 s4).bind fun v7 =>
      ((if (!(decide (v7 < (0 : Int)))) = true then ix a2 s4 else some default)).bind fun v8 =>
      ((if (!((decide (v7 < (0 : Int))) || (decide ((s5.length : Int) ≤ v8)))) = true then ix a1.fCosts s4 else some default)).bind fun v9 =>
      ((if (!((decide (v7 < (0 : Int))) || (decide ((s5.length : Int) ≤ v8)))) = true then ix a2 s4 else some default)).bind fun v10 =>
      ((if (!((decide (v7 < (0 : Int))) || (decide ((s5.length : Int) ≤ v8)))) = true then ix v9 v10 else some default)).bind fun v11 =>
      ((if (!(((decide (v7 < (0 : Int))) || (decide ((s5.length : Int) ≤ v8))) || (decide (v11 = (-1 : Int))))) = true then ix a2 s4 else some default)).bind fun v12 =>
      ((if (!(((decide (v7 < (0 : Int))) || (decide ((s5.length : Int) ≤ v8))) || (decide (v11 = (-1 : Int))))) = true then ix s5 v12 else some default)).bind fun v13 =>
      ((if (!(((decide (v7 < (0 : Int))) || (decide ((s5.length : Int) ≤ v8))) || (decide (v11 = (-1 : Int))))) = true then ix s5 v12 else some default)).bind fun v14 =>
      if ((((decide (v7 < (0 : Int))) || (decide ((s5.length : Int) ≤ v8))) || (decide (v11 = (-1 : Int)))) || (decide (v14 = (0 : Int)))) = true then
        some (.inr false)
      else
      (ix a2 s4).bind fun v15 =>
      (ix s5 v15).bind fun v16 =>
      (ix s5 v15).bind fun v17 =>
      (ix s5 v15).bind fun v18 =>
      (setI s5 v15 (IntKind.i64.wrap (v17 - (1 : Int)))).bind fun v19 =>
      some (.inl v19) : Option ((List Int) ⊕ Bool)).bind fun t20 => match t20 with
    | (.inl u21) =>
      some (.inl ((IntKind.i64.wrap (s4 + (1 : Int))), u21))
    | (.inr u22) =>
      some (.inr (.inl u22))
  else
  some (.inr (.inr s5))

/-- bookplate/bookplateref56.Permitted -/
def m_ref56_Permitted (n : Nat) (a1 : SProblem) (a2 : (List Int)) : Option Bool :=
  if (!decide ((a2.length : Int) = (a1.fCosts.length : Int))) = true then
    some false
  else
  (app 8 ([] : List Int) a1.fRoom).bind fun v3 =>
  (iter n (fun s => m_ref56_Permitted_L1 n a1 a2 s.1 s.2) ((0 : Int), v3)).bind fun t4 => match t4 with
  | (.inl u5) =>
    some u5
  | (.inr u6) =>
    some true

def m_ref56_cost_L1 (n : Nat) (a1 : SProblem) (a2 : (List Int)) (s3 : Int) (s4 : Int) : Option ((Int × Int) ⊕ Int) :=
  if (decide (s4 < (a2.length : Int))) = true then
    (
      (ix a2 s4).bind fun v5 =>
      if (decide (v5 = (-1 : Int))) = true then
        some (IntKind.i64.wrap (s3 + a1.fPenalty))
      else
      (ix a1.fCosts s4).bind fun v6 =>
      (ix a2 s4).bind fun v7 =>
      (ix v6 v7).bind fun v8 =>
      some (IntKind.i64.wrap (s3 + v8)) : Option Int).bind fun t9 =>
    some (.inl (t9, (IntKind.i64.wrap (s4 + (1 : Int)))))
  else
  some (.inr s3)

/-- bookplate/bookplateref56.cost -/
def m_ref56_cost (n : Nat) (a1 : SProblem) (a2 : (List Int)) : Option Int :=
  (iter n (fun s => m_ref56_cost_L1 n a1 a2 s.1 s.2) ((0 : Int), (0 : Int))).bind fun t3 =>
  some t3

/-- bookplate/bookplateref56.Cost -/
def m_ref56_Cost (n : Nat) (a1 : SProblem) (a2 : (List Int)) : Option (Int × Int) :=
  (m_ref56_Valid n (⟨a1.fCosts, a1.fRoom, a1.fPenalty⟩ : SProblem)).bind fun v3 =>
  if (!v3) = true then
    some ((0 : Int), (1 : Int))
  else
  (m_ref56_Permitted n (⟨a1.fCosts, a1.fRoom, a1.fPenalty⟩ : SProblem) a2).bind fun v4 =>
  if (!v4) = true then
    some ((0 : Int), (11 : Int))
  else
  (m_ref56_cost n (⟨a1.fCosts, a1.fRoom, a1.fPenalty⟩ : SProblem) a2).bind fun v5 =>
  some (v5, (0 : Int))

def m_ref56_Bound_L1 (n : Nat) (a1 : SProblem) (a2 : SPrices) (s4 : Int) (s5 : Int) : Option ((Int × Int) ⊕ ((Int × Int) ⊕ Int)) :=
  if (decide (s5 < (a2.fLenders.length : Int))) = true then
    (ix a2.fLenders s5).bind fun v6 =>
    ((if (!(decide (v6 < (0 : Int)))) = true then ix a2.fLenders s5 else some default)).bind fun v7 =>
    if ((decide (v6 < (0 : Int))) || (decide ((1000000 : Int) < v7))) = true then
      some (.inr (.inl ((0 : Int), (17 : Int))))
    else
    (ix a1.fRoom s5).bind fun v8 =>
    (ix a2.fLenders s5).bind fun v9 =>
    some (.inl ((IntKind.i64.wrap (s4 - (IntKind.i64.wrap (v8 * v9)))), (IntKind.i64.wrap (s5 + (1 : Int)))))
  else
  some (.inr (.inr s4))

def m_ref56_Bound_L3 (n : Nat) (a1 : SProblem) (a2 : SPrices) (s8 : Int) (s11 : Int) : Option (Int ⊕ ((Int × Int) ⊕ Unit)) :=
  if (decide (s11 < (a1.fRoom.length : Int))) = true then
    (ix a1.fCosts s8).bind fun v12 =>
    (ix v12 s11).bind fun v13 =>
    ((if (!decide (v13 = (-1 : Int))) = true then ix a2.fAsks s8 else some default)).bind fun v14 =>
    ((if (!decide (v13 = (-1 : Int))) = true then ix a2.fLenders s11 else some default)).bind fun v15 =>
    if ((!decide (v13 = (-1 : Int))) && (decide ((IntKind.i64.wrap (v13 + v15)) < v14))) = true then
      some (.inr (.inl ((0 : Int), (17 : Int))))
    else
    some (.inl (IntKind.i64.wrap (s11 + (1 : Int))))
  else
  some (.inr (.inr ()))

def m_ref56_Bound_L2 (n : Nat) (a1 : SProblem) (a2 : SPrices) (s7 : Int) (s8 : Int) : Option ((Int × Int) ⊕ ((Int × Int) ⊕ Int)) :=
  if (decide (s8 < (a2.fAsks.length : Int))) = true then
    (ix a2.fAsks s8).bind fun v9 =>
    ((if (!(decide (v9 < (-1000000 : Int)))) = true then ix a2.fAsks s8 else some default)).bind fun v10 =>
    if ((decide (v9 < (-1000000 : Int))) || (decide (a1.fPenalty < v10))) = true then
      some (.inr (.inl ((0 : Int), (17 : Int))))
    else
    (iter n (fun s => m_ref56_Bound_L3 n a1 a2 s8 s) (0 : Int)).bind fun t11 => match t11 with
    | (.inl u12) =>
      some (.inr (.inl u12))
    | (.inr u13) =>
      (ix a2.fAsks s8).bind fun v14 =>
      some (.inl ((IntKind.i64.wrap (s7 + v14)), (IntKind.i64.wrap (s8 + (1 : Int)))))
  else
  some (.inr (.inr s7))

/-- bookplate/bookplateref56.Bound -/
def m_ref56_Bound (n : Nat) (a1 : SProblem) (a2 : SPrices) : Option (Int × Int) :=
  (m_ref56_Valid n (⟨a1.fCosts, a1.fRoom, a1.fPenalty⟩ : SProblem)).bind fun v3 =>
  if (!v3) = true then
    some ((0 : Int), (1 : Int))
  else
  if ((!decide ((a2.fAsks.length : Int) = (a1.fCosts.length : Int))) || (!decide ((a2.fLenders.length : Int) = (a1.fRoom.length : Int)))) = true then
    some ((0 : Int), (17 : Int))
  else
  (iter n (fun s => m_ref56_Bound_L1 n a1 a2 s.1 s.2) ((0 : Int), (0 : Int))).bind fun t4 => match t4 with
  | (.inl u5) =>
    some u5
  | (.inr u6) =>
    (iter n (fun s => m_ref56_Bound_L2 n a1 a2 s.1 s.2) (u6, (0 : Int))).bind fun t7 => match t7 with
    | (.inl u8) =>
      some u8
    | (.inr u9) =>
      some (u9, (0 : Int))

/-- bookplate/bookplateref56.Check -/
def m_ref56_Check (n : Nat) (a1 : SProblem) (a2 : (List Int)) (a3 : SPrices) : Option Int :=
  (m_ref56_Cost n (⟨a1.fCosts, a1.fRoom, a1.fPenalty⟩ : SProblem) a2).bind fun v4 =>
  if (!decide (v4.2 = (0 : Int))) = true then
    some v4.2
  else
  (m_ref56_Bound n (⟨a1.fCosts, a1.fRoom, a1.fPenalty⟩ : SProblem) (⟨a3.fAsks, a3.fLenders⟩ : SPrices)).bind fun v5 =>
  if ((!decide (v5.2 = (0 : Int))) || (!decide (v5.1 = v4.1))) = true then
    some (17 : Int)
  else
  some (0 : Int)

def m_ref56_Same_L1 (n : Nat) (a1 : (List Int)) (a2 : (List Int)) (s3 : Int) : Option (Int ⊕ (Bool ⊕ Unit)) :=
  if (decide (s3 < (a1.length : Int))) = true then
    (ix a1 s3).bind fun v4 =>
    (ix a2 s3).bind fun v5 =>
    if (!decide (v4 = v5)) = true then
      some (.inr (.inl false))
    else
    some (.inl (IntKind.i64.wrap (s3 + (1 : Int))))
  else
  some (.inr (.inr ()))

/-- bookplate/bookplateref56.Same -/
def m_ref56_Same (n : Nat) (a1 : (List Int)) (a2 : (List Int)) : Option Bool :=
  if (!decide ((a1.length : Int) = (a2.length : Int))) = true then
    some false
  else
  (iter n (fun s => m_ref56_Same_L1 n a1 a2 s) (0 : Int)).bind fun t3 => match t3 with
  | (.inl u4) =>
    some u4
  | (.inr u5) =>
    some true

/-- bookplate/bookplatelaw56.awake -/
def m_law56_awake (n : Nat) : Option Bool :=
  (m_route_Solve n (⟨([([(3 : Int), (5 : Int)] : List Int), ([(4 : Int), (9 : Int)] : List Int)] : List (List Int)), ([(1 : Int), (1 : Int)] : List Int), (20 : Int)⟩ : SProblem)).bind fun v1 =>
  (m_route_Cost n (⟨([([(3 : Int), (5 : Int)] : List Int), ([(4 : Int), (9 : Int)] : List Int)] : List (List Int)), ([(1 : Int), (1 : Int)] : List Int), (20 : Int)⟩ : SProblem) v1.1).bind fun v2 =>
  ((if (((decide (v1.2.2 = (0 : Int))) && (decide (v2.2 = (0 : Int)))) && (decide (v2.1 = (9 : Int)))) = true then m_ref56_Same n v1.1 ([(1 : Int), (0 : Int)] : List Int) else some default)).bind fun v3 =>
  ((if ((((decide (v1.2.2 = (0 : Int))) && (decide (v2.2 = (0 : Int)))) && (decide (v2.1 = (9 : Int)))) && v3) = true then m_route_Check n (⟨([([(3 : Int), (5 : Int)] : List Int), ([(4 : Int), (9 : Int)] : List Int)] : List (List Int)), ([(1 : Int), (1 : Int)] : List Int), (20 : Int)⟩ : SProblem) v1.1 (⟨v1.2.1.fAsks, v1.2.1.fLenders⟩ : SPrices) else some default)).bind fun v4 =>
  ((if (((((decide (v1.2.2 = (0 : Int))) && (decide (v2.2 = (0 : Int)))) && (decide (v2.1 = (9 : Int)))) && v3) && (decide (v4 = (0 : Int)))) = true then m_route_Valid n (⟨([([(3 : Int), (5 : Int)] : List Int), ([(4 : Int), (9 : Int)] : List Int)] : List (List Int)), ([(1 : Int), (1 : Int)] : List Int), (20 : Int)⟩ : SProblem) else some default)).bind fun v5 =>
  some ((((((decide (v1.2.2 = (0 : Int))) && (decide (v2.2 = (0 : Int)))) && (decide (v2.1 = (9 : Int)))) && v3) && (decide (v4 = (0 : Int)))) && v5)

/-- bookplate/bookplatelaw56.RouteMore$1 -/
def m_law56_RouteMore_1 (n : Nat) (a1 : SProblem) : Option Int :=
  (m_route_Solve n (⟨a1.fCosts, a1.fRoom, a1.fPenalty⟩ : SProblem)).bind fun v2 =>
  (m_route_Cost n (⟨a1.fCosts, a1.fRoom, a1.fPenalty⟩ : SProblem) v2.1).bind fun v3 =>
  ((if (!((!decide (v2.2.2 = (0 : Int))) || (!decide (v3.2 = (0 : Int))))) = true then m_ref56_Check n (⟨a1.fCosts, a1.fRoom, a1.fPenalty⟩ : SProblem) v2.1 (⟨v2.2.1.fAsks, v2.2.1.fLenders⟩ : SPrices) else some default)).bind fun v4 =>
  if (((!decide (v2.2.2 = (0 : Int))) || (!decide (v3.2 = (0 : Int)))) || (!decide (v4 = (0 : Int)))) = true then
    some (-1 : Int)
  else
  some v3.1

def m_law56_RouteMore_L1 (n : Nat) (a1 : SProblem) (a3 : (List Int)) (s36 : Int) (s37 : (List (List Int))) : Option ((Int × (List (List Int))) ⊕ (List (List Int))) :=
  if (decide (s36 < (a1.fCosts.length : Int))) = true then
    (ix a1.fCosts s36).bind fun v38 =>
    (
      if (decide (s36 < (a3.length : Int))) = true then
        (ix a3 s36).bind fun v39 =>
        some (max (-1 : Int) (min v39 (10000 : Int)))
      else
      some (-1 : Int) : Option Int).bind fun t40 =>
    (app 8 (([] : List Int) : List Int) v38).bind fun v41 =>
    (app 8 v41 ([t40] : List Int)).bind fun v42 =>
    (app 24 s37 ([v42] : List (List Int))).bind fun v43 =>
    some (.inl ((IntKind.i64.wrap (s36 + (1 : Int))), v43))
  else
  some (.inr s37)

def m_law56_RouteMore_L2 (n : Nat) (a1 : SProblem) (v7 : Int) (v14 : (List Int)) (v15 : Int) (t33 : (List (Bool × (List Int)))) (v35 : (List Int)) (t36 : (List (List Int))) (s37 : Int) : Option (Int ⊕ (Bool ⊕ Unit)) :=
  if (decide (s37 < (([(⟨a1.fCosts, v14, a1.fPenalty⟩ : SProblem), (⟨(t33.map Prod.snd), a1.fRoom, v15⟩ : SProblem), (⟨t36, v35, a1.fPenalty⟩ : SProblem)] : List SProblem).length : Int))) = true then
    (ix ([(⟨a1.fCosts, v14, a1.fPenalty⟩ : SProblem), (⟨(t33.map Prod.snd), a1.fRoom, v15⟩ : SProblem), (⟨t36, v35, a1.fPenalty⟩ : SProblem)] : List SProblem) s37).bind fun v38 =>
    (m_law56_RouteMore_1 n (⟨v38.fCosts, v38.fRoom, v38.fPenalty⟩ : SProblem)).bind fun v39 =>
    if ((decide (v39 < (0 : Int))) || (decide (v7 < v39))) = true then
      some (.inr (.inl false))
    else
    some (.inl (IntKind.i64.wrap (s37 + (1 : Int))))
  else
  some (.inr (.inr ()))

/-- bookplate/bookplatelaw56.RouteMore -/
def m_law56_RouteMore (n : Nat) (a1 : SProblem) (a2 : A22) (a3 : (List Int)) : Option Bool :=
  (m_law56_awake n).bind fun v4 =>
  ((if (!(!v4)) = true then m_ref56_Valid n (⟨a1.fCosts, a1.fRoom, a1.fPenalty⟩ : SProblem) else some default)).bind fun v5 =>
  if (((((((!v4) || (!v5)) || (decide ((11 : Int) < (a1.fRoom.length : Int)))) || (decide ((11 : Int) < (a1.fCosts.length : Int)))) || (decide ((a1.fCosts.length : Int) = (0 : Int)))) || (decide ((a1.fRoom.length : Int) = (0 : Int)))) || (decide ((12 : Int) < (a3.length : Int)))) = true then
    (m_law56_awake n).bind fun v6 =>
    some v6
  else
  (m_law56_RouteMore_1 n (⟨a1.fCosts, a1.fRoom, a1.fPenalty⟩ : SProblem)).bind fun v7 =>
  (rem (IntKind.i64.wrap a2.e0) (a1.fCosts.length : Int)).bind fun v8 =>
  (rem (IntKind.i64.wrap a2.e1) (a1.fRoom.length : Int)).bind fun v9 =>
  (app 8 ([] : List Int) a1.fRoom).bind fun v10 =>
  (ix v10 v9).bind fun v11 =>
  (ix v10 v9).bind fun v12 =>
  (ix v10 v9).bind fun v13 =>
  (setI v10 v9 (min (20 : Int) (IntKind.i64.wrap (v12 + (1 : Int))))).bind fun v14 =>
  (quo .i64 a1.fPenalty (2 : Int)).bind fun v15 =>
  (app 24 ([] : List (List Int)) a1.fCosts).bind fun v16 =>
  (toNl v16).bind fun v17 =>
  (ix a1.fCosts v8).bind fun v18 =>
  (app 8 ([] : List Int) v18).bind fun v19 =>
  (ix v17 v8).bind fun v20 =>
  (nlRow v17 v8 v19).bind fun v21 =>
  (
    (ix v21 v8).bind fun v22 =>
    (ix v21 v8).bind fun v23 =>
    (nlGet v21 v8 v9).bind fun v24 =>
    (nlGet v21 v8 v9).bind fun v25 =>
    if (decide ((0 : Int) < v25)) = true then
      (ix v21 v8).bind fun v26 =>
      (ix v21 v8).bind fun v27 =>
      (nlGet v21 v8 v9).bind fun v28 =>
      (nlGet v21 v8 v9).bind fun v29 =>
      (quo .i64 v29 (2 : Int)).bind fun v30 =>
      (nlGet v21 v8 v9).bind fun v31 =>
      (nlPut v21 v8 v9 v30).bind fun v32 =>
      some v32
    else
    some v21 : Option (List (Bool × (List Int)))).bind fun t33 =>
  (app 8 ([] : List Int) a1.fRoom).bind fun v34 =>
  (app 8 v34 ([(1 : Int)] : List Int)).bind fun v35 =>
  (iter n (fun s => m_law56_RouteMore_L1 n a1 a3 s.1 s.2) ((0 : Int), [])).bind fun t36 =>
  (iter n (fun s => m_law56_RouteMore_L2 n a1 v7 v14 v15 t33 v35 t36 s) (0 : Int)).bind fun t37 => match t37 with
  | (.inl u38) =>
    some u38
  | (.inr u39) =>
    some (decide ((0 : Int) ≤ v7))

end
end Go.Proofs.Ythjinjinnklkgaa.Ab
