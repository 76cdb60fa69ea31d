/- The functions in plain Lean. Conditions: none. -/
import Derived.Test.YthopbnohgifehaaAb26
set_option maxRecDepth 100000
namespace Go.Proofs.Ythopbnohgifehaa.Ab
open Go
attribute [local irreducible] AL AD AW

structure SRatio where
  fNum : Int
  fDen : Int
  deriving Inhabited, DecidableEq
def SRatio.e (x : SRatio) : D := .agg [(.int .i64 x.fNum), (.int .i64 x.fDen)]
theorem enSRatio : En SRatio.e 2 := ⟨fun _ => rfl, fun x y hy => by
  have hy' : y ∈ [((.int .i64 x.fNum) : D), ((.int .i64 x.fDen) : D)] := hy
  simp only [List.mem_cons, List.not_mem_nil, or_false] at hy'
  rcases hy' with rfl | rfl <;> rfl⟩

def m_slices_IndexFunc_nat_Nat_int_L1 (n : Nat) (a1 : (List Int)) (p2 : Int → Option Bool) (s3 : Int) : Option (Int ⊕ (Int ⊕ Unit)) :=
  if (decide (s3 < (a1.length : Int))) = true then
    (ix a1 s3).bind fun v4 =>
    (p2 v4).bind fun v5 =>
    if v5 = true then
      some (.inr (.inl s3))
    else
    some (.inl (IntKind.i64.wrap (s3 + (1 : Int))))
  else
  some (.inr (.inr ()))

/-- slices.IndexFunc[bookplate/nat.Nat,int] -/
def m_slices_IndexFunc_nat_Nat_int (n : Nat) (a1 : (List Int)) (p2 : Int → Option Bool) : Option Int :=
  (iter n (fun s => m_slices_IndexFunc_nat_Nat_int_L1 n a1 p2 s) (0 : Int)).bind fun t3 => match t3 with
  | (.inl u4) =>
    some u4
  | (.inr u5) =>
    some (-1 : Int)

/-- slices.ContainsFunc[bookplate/nat.Nat,int] -/
def m_slices_ContainsFunc_nat_Nat_int (n : Nat) (a1 : (List Int)) (p2 : Int → Option Bool) : Option Bool :=
  (m_slices_IndexFunc_nat_Nat_int n a1 p2).bind fun v3 =>
  some (decide ((0 : Int) ≤ v3))

/-- bookplate/nat.Valid$1 -/
def m_nat_Valid_1 (n : Nat) (a1 : Int) : Option Bool :=
  some ((decide (a1 < (0 : Int))) || (decide ((65536 : Int) ≤ a1)))

/-- bookplate/nat.Valid -/
def m_nat_Valid (n : Nat) (a1 : (List Int)) : Option Bool :=
  ((if (!(decide ((128 : Int) < (a1.length : Int)))) = true then m_slices_ContainsFunc_nat_Nat_int n a1 (fun y1 => m_nat_Valid_1 n y1) else some default)).bind fun v2 =>
  if ((decide ((128 : Int) < (a1.length : Int))) || v2) = true then
    some false
  else
  ((if (!(decide ((a1.length : Int) = (0 : Int)))) = true then ix a1 (IntKind.i64.wrap ((a1.length : Int) - (1 : Int))) else some default)).bind fun v3 =>
  some ((decide ((a1.length : Int) = (0 : Int))) || (!decide (v3 = (0 : Int))))

/-- cmp.isNaN[int] -/
def m_cmp_isNaN_int (n : Nat) (a1 : Int) : Option Bool :=
  some (!decide (a1 = a1))

/-- cmp.Compare[int] -/
def m_cmp_Compare_int (n : Nat) (a1 : Int) (a2 : Int) : Option Int :=
  (m_cmp_isNaN_int n a1).bind fun v3 =>
  (m_cmp_isNaN_int n a2).bind fun v4 =>
  if v3 = true then
    if v4 = true then
      some (0 : Int)
    else
    some (-1 : Int)
  else
  if v4 = true then
    some (1 : Int)
  else
  if (decide (a1 < a2)) = true then
    some (-1 : Int)
  else
  if (decide (a2 < a1)) = true then
    some (1 : Int)
  else
  some (0 : Int)

def m_nat_compare_L1 (n : Nat) (a1 : (List Int)) (a2 : (List Int)) (s4 : Int) : Option (Int ⊕ (Int ⊕ Unit)) :=
  if (decide (s4 < (a1.length : Int))) = true then
    (ix a1 (IntKind.i64.wrap ((IntKind.i64.wrap ((a1.length : Int) - (1 : Int))) - s4))).bind fun v5 =>
    (ix a2 (IntKind.i64.wrap ((IntKind.i64.wrap ((a1.length : Int) - (1 : Int))) - s4))).bind fun v6 =>
    if (!decide (v5 = v6)) = true then
      (ix a1 (IntKind.i64.wrap ((IntKind.i64.wrap ((a1.length : Int) - (1 : Int))) - s4))).bind fun v7 =>
      (ix a2 (IntKind.i64.wrap ((IntKind.i64.wrap ((a1.length : Int) - (1 : Int))) - s4))).bind fun v8 =>
      (m_cmp_Compare_int n v7 v8).bind fun v9 =>
      some (.inr (.inl v9))
    else
    some (.inl (IntKind.i64.wrap (s4 + (1 : Int))))
  else
  some (.inr (.inr ()))

/-- bookplate/nat.compare -/
def m_nat_compare (n : Nat) (a1 : (List Int)) (a2 : (List Int)) : Option Int :=
  if (!decide ((a1.length : Int) = (a2.length : Int))) = true then
    (m_cmp_Compare_int n (a1.length : Int) (a2.length : Int)).bind fun v3 =>
    some v3
  else
  (iter n (fun s => m_nat_compare_L1 n a1 a2 s) (0 : Int)).bind fun t4 => match t4 with
  | (.inl u5) =>
    some u5
  | (.inr u6) =>
    some (0 : Int)

/-- bookplate/nat.Compare -/
def m_nat_Compare (n : Nat) (a1 : (List Int)) (a2 : (List Int)) : Option Int :=
  (m_nat_Valid n a1).bind fun v3 =>
  ((if (!(!v3)) = true then m_nat_Valid n a2 else some default)).bind fun v4 =>
  if ((!v3) || (!v4)) = true then
    some (0 : Int)
  else
  (m_nat_compare n a1 a2).bind fun v5 =>
  some v5

def m_nat_trimmed_L1 (n : Nat) (s2 : (List Int)) : Option ((List Int) ⊕ (List Int)) :=
  ((if (decide ((0 : Int) < (s2.length : Int))) = true then ix s2 (IntKind.i64.wrap ((s2.length : Int) - (1 : Int))) else some default)).bind fun v3 =>
  if ((decide ((0 : Int) < (s2.length : Int))) && (decide (v3 = (0 : Int)))) = true then
    (slc s2 (0 : Int) (IntKind.i64.wrap ((s2.length : Int) - (1 : Int)))).bind fun v4 =>
    some (.inl v4)
  else
  some (.inr s2)

/-- bookplate/nat.trimmed -/
def m_nat_trimmed (n : Nat) (a1 : (List Int)) : Option (List Int) :=
  (iter n (fun s => m_nat_trimmed_L1 n s) a1).bind fun t2 =>
  some t2

/-- bookplate/nat.digit -/
def m_nat_digit (n : Nat) (a1 : (List Int)) (a2 : Int) : Option Int :=
  if (decide (a2 < (a1.length : Int))) = true then
    (ix a1 a2).bind fun v3 =>
    some v3
  else
  some (0 : Int)

def m_nat_trimmed_f2_L1 (n : Nat) (s2 : (List Int)) : Option ((List Int) ⊕ (List Int)) :=
  ((if (decide ((0 : Int) < (s2.length : Int))) = true then ix s2 (IntKind.i64.wrap ((s2.length : Int) - (1 : Int))) else some default)).bind fun v3 =>
  ((if (decide ((0 : Int) < (s2.length : Int))) = true then ix s2 (IntKind.i64.wrap ((s2.length : Int) - (1 : Int))) else some default)).bind fun v4 =>
  if ((decide ((0 : Int) < (s2.length : Int))) && (decide (v4 = (0 : Int)))) = true then
    (slc s2 (0 : Int) (IntKind.i64.wrap ((s2.length : Int) - (1 : Int)))).bind fun v5 =>
    some (.inl v5)
  else
  some (.inr s2)

/-- bookplate/nat.trimmed -/
def m_nat_trimmed_f2 (n : Nat) (c1 : (List Int)) : Option (List Int) :=
  (iter n (fun s => m_nat_trimmed_f2_L1 n s) c1).bind fun t2 =>
  some t2

def m_nat_minus_L1 (n : Nat) (a1 : (List Int)) (a2 : (List Int)) (s4 : Int) (s5 : Int) (s6 : (List Int)) : Option ((Int × Int × (List Int)) ⊕ (List Int)) :=
  if (decide (s5 < (a1.length : Int))) = true then
    (ix a1 s5).bind fun v7 =>
    (m_nat_digit n a2 s5).bind fun v8 =>
    (
      if (decide ((IntKind.i64.wrap ((IntKind.i64.wrap (v7 - v8)) - s4)) < (0 : Int))) = true then
        some ((1 : Int), (IntKind.i64.wrap ((IntKind.i64.wrap ((IntKind.i64.wrap (v7 - v8)) - s4)) + (65536 : Int))))
      else
      some ((0 : Int), (IntKind.i64.wrap ((IntKind.i64.wrap (v7 - v8)) - s4))) : Option (Int × Int)).bind fun t9 =>
    (ix s6 s5).bind fun v10 =>
    (setI s6 s5 t9.2).bind fun v11 =>
    some (.inl (t9.1, (IntKind.i64.wrap (s5 + (1 : Int))), v11))
  else
  some (.inr s6)

/-- bookplate/nat.minus -/
def m_nat_minus (n : Nat) (a1 : (List Int)) (a2 : (List Int)) : Option (List Int) :=
  (mkL 8 (a1.length : Int) ((0 : Int) : Int)).bind fun v3 =>
  (iter n (fun s => m_nat_minus_L1 n a1 a2 s.1 s.2.1 s.2.2) ((0 : Int), (0 : Int), v3)).bind fun t4 =>
  (m_nat_trimmed_f2 n t4).bind fun v5 =>
  some v5

def m_nat_times_L2 (n : Nat) (a2 : (List Int)) (s4 : Int) (v6 : Int) (s7 : Int) (s8 : Int) (s9 : (List Int)) : Option ((Int × Int × (List Int)) ⊕ (Int × (List Int))) :=
  if (decide (s8 < (a2.length : Int))) = true then
    (ix s9 (IntKind.i64.wrap (s4 + s8))).bind fun v10 =>
    (ix s9 (IntKind.i64.wrap (s4 + s8))).bind fun v11 =>
    (ix a2 s8).bind fun v12 =>
    (rem (IntKind.i64.wrap (s7 + (IntKind.i64.wrap (v11 + (IntKind.i64.wrap (v6 * v12)))))) (65536 : Int)).bind fun v13 =>
    (ix s9 (IntKind.i64.wrap (s4 + s8))).bind fun v14 =>
    (setI s9 (IntKind.i64.wrap (s4 + s8)) v13).bind fun v15 =>
    (quo .i64 (IntKind.i64.wrap (s7 + (IntKind.i64.wrap (v11 + (IntKind.i64.wrap (v6 * v12)))))) (65536 : Int)).bind fun v16 =>
    some (.inl (v16, (IntKind.i64.wrap (s8 + (1 : Int))), v15))
  else
  some (.inr (s7, s9))

def m_nat_times_L1 (n : Nat) (a1 : (List Int)) (a2 : (List Int)) (s4 : Int) (s5 : (List Int)) : Option ((Int × (List Int)) ⊕ (List Int)) :=
  if (decide (s4 < (a1.length : Int))) = true then
    (ix a1 s4).bind fun v6 =>
    (iter n (fun s => m_nat_times_L2 n a2 s4 v6 s.1 s.2.1 s.2.2) ((0 : Int), (0 : Int), s5)).bind fun t7 =>
    (ix t7.2 (IntKind.i64.wrap (s4 + (a2.length : Int)))).bind fun v8 =>
    (setI t7.2 (IntKind.i64.wrap (s4 + (a2.length : Int))) t7.1).bind fun v9 =>
    some (.inl ((IntKind.i64.wrap (s4 + (1 : Int))), v9))
  else
  some (.inr s5)

/-- bookplate/nat.times -/
def m_nat_times (n : Nat) (a1 : (List Int)) (a2 : (List Int)) : Option (List Int) :=
  (mkL 8 (IntKind.i64.wrap ((a1.length : Int) + (a2.length : Int))) ((0 : Int) : Int)).bind fun v3 =>
  (iter n (fun s => m_nat_times_L1 n a1 a2 s.1 s.2) ((0 : Int), v3)).bind fun t4 =>
  (m_nat_trimmed_f2 n t4).bind fun v5 =>
  some v5



def m_nat_quotient_L1 (n : Nat) (a1 : (List Int)) (a2 : (List Int)) (s3 : Int) (s4 : Int) : Option ((Int × Int) ⊕ Int) :=
  if (decide ((1 : Int) < (IntKind.i64.wrap (s4 - s3)))) = true then
    (quo .i64 (IntKind.i64.wrap (s3 + s4)) (2 : Int)).bind fun v5 =>
    (m_nat_times n a2 ([v5] : List Int)).bind fun v6 =>
    (m_nat_compare n v6 a1).bind fun v7 =>
    if (decide (v7 ≤ (0 : Int))) = true then
      some (.inl (v5, s4))
    else
    some (.inl (s3, v5))
  else
  some (.inr s3)

/-- bookplate/nat.quotient -/
def m_nat_quotient (n : Nat) (a1 : (List Int)) (a2 : (List Int)) : Option (Int × (List Int)) :=
  (iter n (fun s => m_nat_quotient_L1 n a1 a2 s.1 s.2) ((0 : Int), (65536 : Int))).bind fun t3 =>
  if (decide (t3 = (0 : Int))) = true then
    some ((0 : Int), a1)
  else
  (m_nat_times n a2 ([t3] : List Int)).bind fun v4 =>
  (m_nat_minus n a1 v4).bind fun v5 =>
  some (t3, v5)

/-- slices.Clone[bookplate/nat.Nat,int] -/
def m_slices_Clone_nat_Nat_int (n : Nat) (a1 : (List Int)) : Option (List Int) :=
  (app 8 ([] : List Int) a1).bind fun v2 =>
  some v2

/-- slices.Insert -/
def m_slices_Insert_nat_Nat_int (_n : Nat) (c1 : List Int) (a2 : Int) (a3 : List Int) : Option (List Int) := insL 8 c1 a2 a3

def m_nat_quotient_f2_L1 (n : Nat) (c1 : (List Int)) (a2 : (List Int)) (s3 : Int) (s4 : Int) : Option ((Int × Int) ⊕ Int) :=
  if (decide ((1 : Int) < (IntKind.i64.wrap (s4 - s3)))) = true then
    (quo .i64 (IntKind.i64.wrap (s3 + s4)) (2 : Int)).bind fun v5 =>
    (m_nat_times n a2 ([v5] : List Int)).bind fun v6 =>
    (m_nat_compare n v6 c1).bind fun v7 =>
    if (decide (v7 ≤ (0 : Int))) = true then
      some (.inl (v5, s4))
    else
    some (.inl (s3, v5))
  else
  some (.inr s3)

/-- bookplate/nat.quotient -/
def m_nat_quotient_f2 (n : Nat) (c1 : (List Int)) (a2 : (List Int)) : Option (Int × (List Int)) :=
  (iter n (fun s => m_nat_quotient_f2_L1 n c1 a2 s.1 s.2) ((0 : Int), (65536 : Int))).bind fun t3 =>
  if (decide (t3 = (0 : Int))) = true then
    some ((0 : Int), c1)
  else
  (m_nat_times n a2 ([t3] : List Int)).bind fun v4 =>
  (m_nat_minus n c1 v4).bind fun v5 =>
  some (t3, v5)

def m_nat_divide_L1 (n : Nat) (a1 : (List Int)) (a2 : (List Int)) (s6 : Int) (s7 : (List Int)) (s8 : (List Int)) : Option ((Int × (List Int) × (List Int)) ⊕ ((List Int) × (List Int))) :=
  if (decide (s6 < (max (IntKind.i64.wrap ((IntKind.i64.wrap ((a1.length : Int) - (a2.length : Int))) + (1 : Int))) (0 : Int)))) = true then
    (ix a1 (IntKind.i64.wrap ((IntKind.i64.wrap ((max (IntKind.i64.wrap ((IntKind.i64.wrap ((a1.length : Int) - (a2.length : Int))) + (1 : Int))) (0 : Int)) - (1 : Int))) - s6))).bind fun v9 =>
    (m_slices_Insert_nat_Nat_int n s8 (0 : Int) ([v9] : List Int)).bind fun v10 =>
    (m_nat_trimmed_f2 n v10).bind fun v11 =>
    (m_nat_quotient_f2 n v11 a2).bind fun v12 =>
    (ix s7 (IntKind.i64.wrap ((IntKind.i64.wrap ((max (IntKind.i64.wrap ((IntKind.i64.wrap ((a1.length : Int) - (a2.length : Int))) + (1 : Int))) (0 : Int)) - (1 : Int))) - s6))).bind fun v13 =>
    (setI s7 (IntKind.i64.wrap ((IntKind.i64.wrap ((max (IntKind.i64.wrap ((IntKind.i64.wrap ((a1.length : Int) - (a2.length : Int))) + (1 : Int))) (0 : Int)) - (1 : Int))) - s6)) v12.1).bind fun v14 =>
    some (.inl ((IntKind.i64.wrap (s6 + (1 : Int))), v14, v12.2))
  else
  some (.inr (s7, s8))

/-- bookplate/nat.divide -/
def m_nat_divide (n : Nat) (a1 : (List Int)) (a2 : (List Int)) : Option ((List Int) × (List Int)) :=
  (mkL 8 (max (IntKind.i64.wrap ((IntKind.i64.wrap ((a1.length : Int) - (a2.length : Int))) + (1 : Int))) (0 : Int)) ((0 : Int) : Int)).bind fun v3 =>
  (slc a1 (max (IntKind.i64.wrap ((IntKind.i64.wrap ((a1.length : Int) - (a2.length : Int))) + (1 : Int))) (0 : Int)) (a1.length : Int)).bind fun v4 =>
  (m_slices_Clone_nat_Nat_int n v4).bind fun v5 =>
  (iter n (fun s => m_nat_divide_L1 n a1 a2 s.1 s.2.1 s.2.2) ((0 : Int), v3, v5)).bind fun t6 =>
  (m_nat_trimmed_f2 n t6.1).bind fun v7 =>
  (m_nat_trimmed_f2 n t6.2).bind fun v8 =>
  some (v7, v8)

/-- bookplate/nat.Divide -/
def m_nat_Divide (n : Nat) (a1 : (List Int)) (a2 : (List Int)) : Option ((List Int) × (List Int) × Int) :=
  (m_nat_Valid n a1).bind fun v3 =>
  ((if (!(!v3)) = true then m_nat_Valid n a2 else some default)).bind fun v4 =>
  if (((!v3) || (!v4)) || (decide ((a2.length : Int) = (0 : Int)))) = true then
    some ([], [], (1 : Int))
  else
  (m_nat_divide n a1 a2).bind fun v5 =>
  some (v5.1, v5.2, (0 : Int))



def m_nat_Gcd_L1 (n : Nat) (s7 : (List Int)) (s8 : (List Int)) : Option (((List Int) × (List Int)) ⊕ (List Int)) :=
  if (decide ((0 : Int) < (s8.length : Int))) = true then
    (m_nat_divide n s7 s8).bind fun v9 =>
    some (.inl (s8, v9.2))
  else
  some (.inr s7)

/-- bookplate/nat.Gcd -/
def m_nat_Gcd (n : Nat) (a1 : (List Int)) (a2 : (List Int)) : Option ((List Int) × Int) :=
  (m_nat_Valid n a1).bind fun v3 =>
  ((if (!(!v3)) = true then m_nat_Valid n a2 else some default)).bind fun v4 =>
  if ((!v3) || (!v4)) = true then
    some ([], (1 : Int))
  else
  (m_slices_Clone_nat_Nat_int n a1).bind fun v5 =>
  (m_slices_Clone_nat_Nat_int n a2).bind fun v6 =>
  (iter n (fun s => m_nat_Gcd_L1 n s.1 s.2) (v5, v6)).bind fun t7 =>
  some (t7, (0 : Int))

/-- bookplate/nat.limited -/
def m_nat_limited (n : Nat) (a1 : (List Int)) : Option ((List Int) × Int) :=
  (m_nat_trimmed n a1).bind fun v2 =>
  if (decide ((128 : Int) < (v2.length : Int))) = true then
    some ([], (3 : Int))
  else
  some (v2, (0 : Int))

/-- bookplate/nat.Mul -/
def m_nat_Mul (n : Nat) (a1 : (List Int)) (a2 : (List Int)) : Option ((List Int) × Int) :=
  (m_nat_Valid n a1).bind fun v3 =>
  ((if (!(!v3)) = true then m_nat_Valid n a2 else some default)).bind fun v4 =>
  if ((!v3) || (!v4)) = true then
    some ([], (1 : Int))
  else
  (m_nat_times n a1 a2).bind fun v5 =>
  (m_nat_limited n v5).bind fun v6 =>
  some (v6.1, v6.2)

def m_nat_small_L1 (n : Nat) (s2 : Int) (s3 : (List Int)) : Option ((Int × (List Int)) ⊕ (List Int)) :=
  if (decide ((0 : Int) < s2)) = true then
    (rem s2 (65536 : Int)).bind fun v4 =>
    (app 8 s3 ([v4] : List Int)).bind fun v5 =>
    (quo .i64 s2 (65536 : Int)).bind fun v6 =>
    some (.inl (v6, v5))
  else
  some (.inr s3)

/-- bookplate/nat.small -/
def m_nat_small (n : Nat) (a1 : Int) : Option (List Int) :=
  (iter n (fun s => m_nat_small_L1 n s.1 s.2) (a1, [])).bind fun t2 =>
  some t2

/-- bookplate/nat.Of -/
def m_nat_Of (n : Nat) (a1 : Int) : Option ((List Int) × Int) :=
  if (decide (a1 < (0 : Int))) = true then
    some ([], (2 : Int))
  else
  (m_nat_small n a1).bind fun v2 =>
  some (v2, (0 : Int))

/-- math/bits.Len64 -/
def m_math_bits_Len64 (n : Nat) (a1 : Int) : Option Int :=
  (
    if (decide ((4294967296 : Int) ≤ a1)) = true then
      (shrM .u64 a1 (32 : Int)).bind fun v2 =>
      some (v2, (32 : Int))
    else
    some (a1, (0 : Int)) : Option (Int × Int)).bind fun t3 =>
  (
    if (decide ((65536 : Int) ≤ t3.1)) = true then
      (shrM .u64 t3.1 (16 : Int)).bind fun v4 =>
      some (v4, (IntKind.i64.wrap (t3.2 + (16 : Int))))
    else
    some (t3.1, t3.2) : Option (Int × Int)).bind fun t5 =>
  (
    if (decide ((256 : Int) ≤ t5.1)) = true then
      (shrM .u64 t5.1 (8 : Int)).bind fun v6 =>
      some (v6, (IntKind.i64.wrap (t5.2 + (8 : Int))))
    else
    some (t5.1, t5.2) : Option (Int × Int)).bind fun t7 =>
  (ixS ([0, 1, 2, 2, 3, 3, 3, 3, 4, 4, 4, 4, 4, 4, 4, 4, 5, 5, 5, 5, 5, 5, 5, 5, 5, 5, 5, 5, 5, 5, 5, 5, 6, 6, 6, 6, 6, 6, 6, 6, 6, 6, 6, 6, 6, 6, 6, 6, 6, 6, 6, 6, 6, 6, 6, 6, 6, 6, 6, 6, 6, 6, 6, 6, 7, 7, 7, 7, 7, 7, 7, 7, 7, 7, 7, 7, 7, 7, 7, 7, 7, 7, 7, 7, 7, 7, 7, 7, 7, 7, 7, 7, 7, 7, 7, 7, 7, 7, 7, 7, 7, 7, 7, 7, 7, 7, 7, 7, 7, 7, 7, 7, 7, 7, 7, 7, 7, 7, 7, 7, 7, 7, 7, 7, 7, 7, 7, 7, 8, 8, 8, 8, 8, 8, 8, 8, 8, 8, 8, 8, 8, 8, 8, 8, 8, 8, 8, 8, 8, 8, 8, 8, 8, 8, 8, 8, 8, 8, 8, 8, 8, 8, 8, 8, 8, 8, 8, 8, 8, 8, 8, 8, 8, 8, 8, 8, 8, 8, 8, 8, 8, 8, 8, 8, 8, 8, 8, 8, 8, 8, 8, 8, 8, 8, 8, 8, 8, 8, 8, 8, 8, 8, 8, 8, 8, 8, 8, 8, 8, 8, 8, 8, 8, 8, 8, 8, 8, 8, 8, 8, 8, 8, 8, 8, 8, 8, 8, 8, 8, 8, 8, 8, 8, 8, 8, 8, 8, 8, 8, 8, 8, 8, 8, 8, 8, 8, 8, 8, 8, 8, 8, 8, 8, 8, 8, 8] : List UInt8) (IntKind.u8.wrap t7.1)).bind fun v8 =>
  some (IntKind.i64.wrap (t7.2 + (IntKind.i64.wrap v8)))

/-- math/bits.Len -/
def m_math_bits_Len (n : Nat) (a1 : Int) : Option Int :=
  (m_math_bits_Len64 n a1).bind fun v2 =>
  some v2

/-- bookplate/nat.Bits -/
def m_nat_Bits (n : Nat) (a1 : (List Int)) : Option Int :=
  (m_nat_Valid n a1).bind fun v2 =>
  if ((!v2) || (decide ((a1.length : Int) = (0 : Int)))) = true then
    some (0 : Int)
  else
  (ix a1 (IntKind.i64.wrap ((a1.length : Int) - (1 : Int)))).bind fun v3 =>
  (m_math_bits_Len n (IntKind.u64.wrap v3)).bind fun v4 =>
  some (IntKind.i64.wrap ((IntKind.i64.wrap ((16 : Int) * (IntKind.i64.wrap ((a1.length : Int) - (1 : Int))))) + v4))

def m_nat_Power_L1 (n : Nat) (a1 : (List Int)) (a2 : Int) (s4 : (List Int)) (s5 : Int) : Option (((List Int) × Int) ⊕ (((List Int) × Int) ⊕ (List Int))) :=
  if (decide (s5 < a2)) = true then
    (m_nat_times n s4 a1).bind fun v6 =>
    if (decide ((128 : Int) < (v6.length : Int))) = true then
      some (.inr (.inl ([], (3 : Int))))
    else
    some (.inl (v6, (IntKind.i64.wrap (s5 + (1 : Int)))))
  else
  some (.inr (.inr s4))

/-- bookplate/nat.Power -/
def m_nat_Power (n : Nat) (a1 : (List Int)) (a2 : Int) : Option ((List Int) × Int) :=
  (m_nat_Valid n a1).bind fun v3 =>
  if (!v3) = true then
    some ([], (1 : Int))
  else
  if ((decide (a2 < (0 : Int))) || (decide ((1000 : Int) < a2))) = true then
    some ([], (2 : Int))
  else
  (iter n (fun s => m_nat_Power_L1 n a1 a2 s.1 s.2) (([(1 : Int)] : List Int), (0 : Int))).bind fun t4 => match t4 with
  | (.inl u5) =>
    some u5
  | (.inr u6) =>
    some (u6, (0 : Int))

/-- bookplate/nat.Shift -/
def m_nat_Shift (n : Nat) (a1 : (List Int)) (a2 : Int) : Option ((List Int) × Int) :=
  (m_nat_Valid n a1).bind fun v3 =>
  if (!v3) = true then
    some ([], (1 : Int))
  else
  if ((decide (a2 < (0 : Int))) || (decide ((2047 : Int) < a2))) = true then
    some ([], (2 : Int))
  else
  if (decide ((a1.length : Int) = (0 : Int))) = true then
    some ([], (0 : Int))
  else
  (quo .i64 a2 (16 : Int)).bind fun v4 =>
  (mkL 8 v4 ((0 : Int) : Int)).bind fun v5 =>
  (rem a2 (16 : Int)).bind fun v6 =>
  (shlM .i64 (1 : Int) v6).bind fun v7 =>
  (m_nat_times n a1 ([v7] : List Int)).bind fun v8 =>
  (app 8 v5 v8).bind fun v9 =>
  (m_nat_limited n v9).bind fun v10 =>
  some (v10.1, v10.2)

def m_ref03_Valid_L1 (n : Nat) (a1 : (List Int)) (s2 : Int) : Option (Int ⊕ (Bool ⊕ Unit)) :=
  if (decide (s2 < (a1.length : Int))) = true then
    (ix a1 s2).bind fun v3 =>
    ((if (!(decide (v3 < (0 : Int)))) = true then ix a1 s2 else some default)).bind fun v4 =>
    if ((decide (v3 < (0 : Int))) || (decide ((65536 : Int) ≤ v4))) = true then
      some (.inr (.inl false))
    else
    some (.inl (IntKind.i64.wrap (s2 + (1 : Int))))
  else
  some (.inr (.inr ()))

/-- bookplate/bookplateref03.Valid -/
def m_ref03_Valid (n : Nat) (a1 : (List Int)) : Option Bool :=
  (iter n (fun s => m_ref03_Valid_L1 n a1 s) (0 : Int)).bind fun t2 => match t2 with
  | (.inl u3) =>
    some u3
  | (.inr u4) =>
    ((if ((decide ((a1.length : Int) ≤ (128 : Int))) && (!(decide ((a1.length : Int) = (0 : Int))))) = true then ix a1 (IntKind.i64.wrap ((a1.length : Int) - (1 : Int))) else some default)).bind fun v5 =>
    some ((decide ((a1.length : Int) ≤ (128 : Int))) && ((decide ((a1.length : Int) = (0 : Int))) || (!decide (v5 = (0 : Int)))))

def m_ref03_compare_L1 (n : Nat) (a1 : (List Int)) (a2 : (List Int)) (s3 : Int) : Option (Int ⊕ (Int ⊕ Unit)) :=
  if (decide ((0 : Int) ≤ s3)) = true then
    (ix a1 s3).bind fun v4 =>
    (ix a2 s3).bind fun v5 =>
    if (decide (v4 < v5)) = true then
      some (.inr (.inl (-1 : Int)))
    else
    (ix a1 s3).bind fun v6 =>
    (ix a2 s3).bind fun v7 =>
    if (decide (v7 < v6)) = true then
      some (.inr (.inl (1 : Int)))
    else
    some (.inl (IntKind.i64.wrap (s3 - (1 : Int))))
  else
  some (.inr (.inr ()))

/-- bookplate/bookplateref03.compare -/
def m_ref03_compare (n : Nat) (a1 : (List Int)) (a2 : (List Int)) : Option Int :=
  if (!decide ((a1.length : Int) = (a2.length : Int))) = true then
    if (decide ((a1.length : Int) < (a2.length : Int))) = true then
      some (-1 : Int)
    else
    some (1 : Int)
  else
  (iter n (fun s => m_ref03_compare_L1 n a1 a2 s) (IntKind.i64.wrap ((a1.length : Int) - (1 : Int)))).bind fun t3 => match t3 with
  | (.inl u4) =>
    some u4
  | (.inr u5) =>
    some (0 : Int)

/-- bookplate/bookplateref03.Compare -/
def m_ref03_Compare (n : Nat) (a1 : (List Int)) (a2 : (List Int)) : Option Int :=
  (m_ref03_Valid n a1).bind fun v3 =>
  ((if (!(!v3)) = true then m_ref03_Valid n a2 else some default)).bind fun v4 =>
  if ((!v3) || (!v4)) = true then
    some (0 : Int)
  else
  (m_ref03_compare n a1 a2).bind fun v5 =>
  some v5

def m_ref03_trim_L1 (n : Nat) (a1 : (List Int)) (s2 : Int) : Option (Int ⊕ Int) :=
  ((if (decide ((0 : Int) < s2)) = true then ix a1 (IntKind.i64.wrap (s2 - (1 : Int))) else some default)).bind fun v3 =>
  if ((decide ((0 : Int) < s2)) && (decide (v3 = (0 : Int)))) = true then
    some (.inl (IntKind.i64.wrap (s2 - (1 : Int))))
  else
  some (.inr s2)

/-- bookplate/bookplateref03.trim -/
def m_ref03_trim (n : Nat) (a1 : (List Int)) : Option (List Int) :=
  (iter n (fun s => m_ref03_trim_L1 n a1 s) (a1.length : Int)).bind fun t2 =>
  (slc a1 (0 : Int) t2).bind fun v3 =>
  (app 8 (([] : List Int) : List Int) v3).bind fun v4 =>
  some v4

def m_ref03_times_L2 (n : Nat) (a1 : (List Int)) (a2 : (List Int)) (s4 : Int) (s6 : Int) (s7 : Int) (s8 : (List Int)) : Option ((Int × Int × (List Int)) ⊕ (Int × (List Int))) :=
  if (decide (s7 < (a2.length : Int))) = true then
    (ix s8 (IntKind.i64.wrap (s4 + s7))).bind fun v9 =>
    (ix s8 (IntKind.i64.wrap (s4 + s7))).bind fun v10 =>
    (ix a1 s4).bind fun v11 =>
    (ix a2 s7).bind fun v12 =>
    (rem (IntKind.i64.wrap (s6 + (IntKind.i64.wrap (v10 + (IntKind.i64.wrap (v11 * v12)))))) (65536 : Int)).bind fun v13 =>
    (ix s8 (IntKind.i64.wrap (s4 + s7))).bind fun v14 =>
    (setI s8 (IntKind.i64.wrap (s4 + s7)) v13).bind fun v15 =>
    (quo .i64 (IntKind.i64.wrap (s6 + (IntKind.i64.wrap (v10 + (IntKind.i64.wrap (v11 * v12)))))) (65536 : Int)).bind fun v16 =>
    some (.inl (v16, (IntKind.i64.wrap (s7 + (1 : Int))), v15))
  else
  some (.inr (s6, s8))

def m_ref03_times_L1 (n : Nat) (a1 : (List Int)) (a2 : (List Int)) (s4 : Int) (s5 : (List Int)) : Option ((Int × (List Int)) ⊕ (List Int)) :=
  if (decide (s4 < (a1.length : Int))) = true then
    (iter n (fun s => m_ref03_times_L2 n a1 a2 s4 s.1 s.2.1 s.2.2) ((0 : Int), (0 : Int), s5)).bind fun t6 =>
    (ix t6.2 (IntKind.i64.wrap (s4 + (a2.length : Int)))).bind fun v7 =>
    (setI t6.2 (IntKind.i64.wrap (s4 + (a2.length : Int))) t6.1).bind fun v8 =>
    some (.inl ((IntKind.i64.wrap (s4 + (1 : Int))), v8))
  else
  some (.inr s5)

/-- bookplate/bookplateref03.times -/
def m_ref03_times (n : Nat) (a1 : (List Int)) (a2 : (List Int)) : Option (List Int) :=
  (mkL 8 (IntKind.i64.wrap ((a1.length : Int) + (a2.length : Int))) ((0 : Int) : Int)).bind fun v3 =>
  (iter n (fun s => m_ref03_times_L1 n a1 a2 s.1 s.2) ((0 : Int), v3)).bind fun t4 =>
  (m_ref03_trim n t4).bind fun v5 =>
  some v5

/-- bookplate/bookplateref03.limited -/
def m_ref03_limited (n : Nat) (a1 : (List Int)) : Option ((List Int) × Int) :=
  (m_ref03_trim n a1).bind fun v2 =>
  if (decide ((128 : Int) < (v2.length : Int))) = true then
    some ([], (3 : Int))
  else
  some (v2, (0 : Int))

/-- bookplate/bookplateref03.Mul -/
def m_ref03_Mul (n : Nat) (a1 : (List Int)) (a2 : (List Int)) : Option ((List Int) × Int) :=
  (m_ref03_Valid n a1).bind fun v3 =>
  ((if (!(!v3)) = true then m_ref03_Valid n a2 else some default)).bind fun v4 =>
  if ((!v3) || (!v4)) = true then
    some ([], (1 : Int))
  else
  (m_ref03_times n a1 a2).bind fun v5 =>
  (m_ref03_limited n v5).bind fun v6 =>
  some (v6.1, v6.2)

def m_ref03_sum_L1 (n : Nat) (a1 : (List Int)) (a2 : (List Int)) (s3 : (List Int)) (s4 : Int) (s5 : Int) : Option (((List Int) × Int × Int) ⊕ ((List Int) × Int)) :=
  if ((decide (s5 < (a1.length : Int))) || (decide (s5 < (a2.length : Int)))) = true then
    (
      if (decide (s5 < (a1.length : Int))) = true then
        (ix a1 s5).bind fun v6 =>
        some (IntKind.i64.wrap (s4 + v6))
      else
      some s4 : Option Int).bind fun t7 =>
    (
      if (decide (s5 < (a2.length : Int))) = true then
        (ix a2 s5).bind fun v8 =>
        some (IntKind.i64.wrap (t7 + v8))
      else
      some t7 : Option Int).bind fun t9 =>
    (rem t9 (65536 : Int)).bind fun v10 =>
    (app 8 s3 ([v10] : List Int)).bind fun v11 =>
    (quo .i64 t9 (65536 : Int)).bind fun v12 =>
    some (.inl (v11, v12, (IntKind.i64.wrap (s5 + (1 : Int)))))
  else
  some (.inr (s3, s4))

/-- bookplate/bookplateref03.sum -/
def m_ref03_sum (n : Nat) (a1 : (List Int)) (a2 : (List Int)) : Option (List Int) :=
  (iter n (fun s => m_ref03_sum_L1 n a1 a2 s.1 s.2.1 s.2.2) ([], (0 : Int), (0 : Int))).bind fun t3 =>
  (app 8 t3.1 ([t3.2] : List Int)).bind fun v4 =>
  (m_ref03_trim n v4).bind fun v5 =>
  some v5

def m_ref03_half_L1 (n : Nat) (a1 : (List Int)) (s3 : Int) (s4 : (List Int)) : Option ((Int × (List Int)) ⊕ (List Int)) :=
  if (decide (s3 < (a1.length : Int))) = true then
    (
      (ix a1 s3).bind fun v5 =>
      (quo .i64 v5 (2 : Int)).bind fun v6 =>
      (ix s4 s3).bind fun v7 =>
      (setI s4 s3 v6).bind fun v8 =>
      ((if (decide ((IntKind.i64.wrap (s3 + (1 : Int))) < (a1.length : Int))) = true then ix a1 (IntKind.i64.wrap (s3 + (1 : Int))) else some default)).bind fun v9 =>
      ((if (decide ((IntKind.i64.wrap (s3 + (1 : Int))) < (a1.length : Int))) = true then rem v9 (2 : Int) else some default)).bind fun v10 =>
      if ((decide ((IntKind.i64.wrap (s3 + (1 : Int))) < (a1.length : Int))) && (decide (v10 = (1 : Int)))) = true then
        (ix v8 s3).bind fun v11 =>
        (ix v8 s3).bind fun v12 =>
        (ix v8 s3).bind fun v13 =>
        (setI v8 s3 (IntKind.i64.wrap (v12 + (32768 : Int)))).bind fun v14 =>
        some v14
      else
      some v8 : Option (List Int)).bind fun t15 =>
    some (.inl ((IntKind.i64.wrap (s3 + (1 : Int))), t15))
  else
  some (.inr s4)

/-- bookplate/bookplateref03.half -/
def m_ref03_half (n : Nat) (a1 : (List Int)) : Option (List Int) :=
  (mkL 8 (a1.length : Int) ((0 : Int) : Int)).bind fun v2 =>
  (iter n (fun s => m_ref03_half_L1 n a1 s.1 s.2) ((0 : Int), v2)).bind fun t3 =>
  (m_ref03_trim n t3).bind fun v4 =>
  some v4

def m_ref03_less_L1 (n : Nat) (a1 : (List Int)) (a2 : (List Int)) (s3 : (List Int)) (s4 : Int) (s5 : Int) : Option (((List Int) × Int × Int) ⊕ (List Int)) :=
  if (decide (s5 < (a1.length : Int))) = true then
    (ix a1 s5).bind fun v6 =>
    (
      if (decide (s5 < (a2.length : Int))) = true then
        (ix a2 s5).bind fun v7 =>
        some (IntKind.i64.wrap ((IntKind.i64.wrap (v6 - s4)) - v7))
      else
      some (IntKind.i64.wrap (v6 - s4)) : Option Int).bind fun t8 =>
    (
      if (decide (t8 < (0 : Int))) = true then
        some ((1 : Int), (IntKind.i64.wrap (t8 + (65536 : Int))))
      else
      some ((0 : Int), t8) : Option (Int × Int)).bind fun t9 =>
    (app 8 s3 ([t9.2] : List Int)).bind fun v10 =>
    some (.inl (v10, t9.1, (IntKind.i64.wrap (s5 + (1 : Int)))))
  else
  some (.inr s3)

/-- bookplate/bookplateref03.less -/
def m_ref03_less (n : Nat) (a1 : (List Int)) (a2 : (List Int)) : Option (List Int) :=
  (iter n (fun s => m_ref03_less_L1 n a1 a2 s.1 s.2.1 s.2.2) ([], (0 : Int), (0 : Int))).bind fun t3 =>
  (m_ref03_trim n t3).bind fun v4 =>
  some v4

def m_ref03_divide_L1 (n : Nat) (a1 : (List Int)) (s3 : (List Int)) (s4 : Int) : Option (((List Int) × Int) ⊕ ((List Int) × Int)) :=
  (m_ref03_compare n s3 a1).bind fun v5 =>
  if (decide (v5 ≤ (0 : Int))) = true then
    (m_ref03_sum n s3 s3).bind fun v6 =>
    some (.inl (v6, (IntKind.i64.wrap (s4 + (1 : Int)))))
  else
  some (.inr (s3, s4))

def m_ref03_divide_L2 (n : Nat) (t3 : ((List Int) × Int)) (s4 : (List Int)) (s5 : (List Int)) (s6 : (List Int)) (s7 : Int) : Option (((List Int) × (List Int) × (List Int) × Int) ⊕ ((List Int) × (List Int))) :=
  if (decide (s7 < t3.2)) = true then
    (
      (m_ref03_half n s5).bind fun v8 =>
      (m_ref03_sum n s6 s6).bind fun v9 =>
      (m_ref03_compare n v8 s4).bind fun v10 =>
      if (decide (v10 ≤ (0 : Int))) = true then
        (m_ref03_less n s4 v8).bind fun v11 =>
        (m_ref03_sum n v9 ([(1 : Int)] : List Int)).bind fun v12 =>
        some (v11, v8, v12)
      else
      some (s4, v8, v9) : Option ((List Int) × (List Int) × (List Int))).bind fun t13 =>
    some (.inl (t13.1, t13.2.1, t13.2.2, (IntKind.i64.wrap (s7 + (1 : Int)))))
  else
  some (.inr (s4, s6))

/-- bookplate/bookplateref03.divide -/
def m_ref03_divide (n : Nat) (a1 : (List Int)) (a2 : (List Int)) : Option ((List Int) × (List Int)) :=
  (iter n (fun s => m_ref03_divide_L1 n a1 s.1 s.2) (a2, (0 : Int))).bind fun t3 =>
  (iter n (fun s => m_ref03_divide_L2 n t3 s.1 s.2.1 s.2.2.1 s.2.2.2) (a1, t3.1, [], (0 : Int))).bind fun t4 =>
  some (t4.2, t4.1)

/-- bookplate/bookplateref03.Divide -/
def m_ref03_Divide (n : Nat) (a1 : (List Int)) (a2 : (List Int)) : Option ((List Int) × (List Int) × Int) :=
  (m_ref03_Valid n a1).bind fun v3 =>
  ((if (!(!v3)) = true then m_ref03_Valid n a2 else some default)).bind fun v4 =>
  if (((!v3) || (!v4)) || (decide ((a2.length : Int) = (0 : Int)))) = true then
    some ([], [], (1 : Int))
  else
  (m_ref03_divide n a1 a2).bind fun v5 =>
  some (v5.1, v5.2, (0 : Int))

def m_ref03_Gcd_L1 (n : Nat) (s5 : (List Int)) (s6 : (List Int)) : Option (((List Int) × (List Int)) ⊕ (List Int)) :=
  if (decide ((0 : Int) < (s6.length : Int))) = true then
    (m_ref03_divide n s5 s6).bind fun v7 =>
    some (.inl (s6, v7.2))
  else
  some (.inr s5)

/-- bookplate/bookplateref03.Gcd -/
def m_ref03_Gcd (n : Nat) (a1 : (List Int)) (a2 : (List Int)) : Option ((List Int) × Int) :=
  (m_ref03_Valid n a1).bind fun v3 =>
  ((if (!(!v3)) = true then m_ref03_Valid n a2 else some default)).bind fun v4 =>
  if ((!v3) || (!v4)) = true then
    some ([], (1 : Int))
  else
  (iter n (fun s => m_ref03_Gcd_L1 n s.1 s.2) (a1, a2)).bind fun t5 =>
  (app 8 (([] : List Int) : List Int) t5).bind fun v6 =>
  some (v6, (0 : Int))

def m_ref03_Power_L1 (n : Nat) (a1 : (List Int)) (a2 : Int) (s4 : (List Int)) (s5 : Int) : Option (((List Int) × Int) ⊕ (((List Int) × Int) ⊕ (List Int))) :=
  if (decide (s5 < a2)) = true then
    (m_ref03_Mul n s4 a1).bind fun v6 =>
    if (!decide (v6.2 = (0 : Int))) = true then
      some (.inr (.inl ([], v6.2)))
    else
    some (.inl (v6.1, (IntKind.i64.wrap (s5 + (1 : Int)))))
  else
  some (.inr (.inr s4))

/-- bookplate/bookplateref03.Power -/
def m_ref03_Power (n : Nat) (a1 : (List Int)) (a2 : Int) : Option ((List Int) × Int) :=
  (m_ref03_Valid n a1).bind fun v3 =>
  if (!v3) = true then
    some ([], (1 : Int))
  else
  if ((decide (a2 < (0 : Int))) || (decide ((1000 : Int) < a2))) = true then
    some ([], (2 : Int))
  else
  (iter n (fun s => m_ref03_Power_L1 n a1 a2 s.1 s.2) (([(1 : Int)] : List Int), (0 : Int))).bind fun t4 => match t4 with
  | (.inl u5) =>
    some u5
  | (.inr u6) =>
    some (u6, (0 : Int))

/-- bookplate/bookplateref03.Shift -/
def m_ref03_Shift (n : Nat) (a1 : (List Int)) (a2 : Int) : Option ((List Int) × Int) :=
  (m_ref03_Valid n a1).bind fun v3 =>
  if (!v3) = true then
    some ([], (1 : Int))
  else
  if ((decide (a2 < (0 : Int))) || (decide ((2047 : Int) < a2))) = true then
    some ([], (2 : Int))
  else
  (quo .i64 a2 (16 : Int)).bind fun v4 =>
  (mkL 8 v4 ((0 : Int) : Int)).bind fun v5 =>
  (rem a2 (16 : Int)).bind fun v6 =>
  (shlM .i64 (1 : Int) v6).bind fun v7 =>
  (m_ref03_times n a1 ([v7] : List Int)).bind fun v8 =>
  (app 8 v5 v8).bind fun v9 =>
  (m_ref03_limited n v9).bind fun v10 =>
  some (v10.1, v10.2)

def m_ref03_Bits_L1 (n : Nat) (s4 : Int) (s5 : Int) : Option ((Int × Int) ⊕ Int) :=
  if (decide ((0 : Int) < s5)) = true then
    (quo .i64 s5 (2 : Int)).bind fun v6 =>
    some (.inl ((IntKind.i64.wrap (s4 + (1 : Int))), v6))
  else
  some (.inr s4)

/-- bookplate/bookplateref03.Bits -/
def m_ref03_Bits (n : Nat) (a1 : (List Int)) : Option Int :=
  (m_ref03_Valid n a1).bind fun v2 =>
  if ((!v2) || (decide ((a1.length : Int) = (0 : Int)))) = true then
    some (0 : Int)
  else
  (ix a1 (IntKind.i64.wrap ((a1.length : Int) - (1 : Int)))).bind fun v3 =>
  (iter n (fun s => m_ref03_Bits_L1 n s.1 s.2) ((IntKind.i64.wrap ((16 : Int) * (IntKind.i64.wrap ((a1.length : Int) - (1 : Int))))), v3)).bind fun t4 =>
  some t4

def m_ref03_Same_L1 (n : Nat) (a1 : (List Int)) (a2 : (List Int)) (s3 : Int) : Option (Int ⊕ (Bool ⊕ Unit)) :=
  if (decide (s3 < (a1.length : Int))) = true then
    (ix a1 s3).bind fun v4 =>
    (ix a2 s3).bind fun v5 =>
    if (!decide (v4 = v5)) = true then
      some (.inr (.inl false))
    else
    some (.inl (IntKind.i64.wrap (s3 + (1 : Int))))
  else
  some (.inr (.inr ()))

/-- bookplate/bookplateref03.Same -/
def m_ref03_Same (n : Nat) (a1 : (List Int)) (a2 : (List Int)) : Option Bool :=
  if (!decide ((a1.length : Int) = (a2.length : Int))) = true then
    some false
  else
  (iter n (fun s => m_ref03_Same_L1 n a1 a2 s) (0 : Int)).bind fun t3 => match t3 with
  | (.inl u4) =>
    some u4
  | (.inr u5) =>
    some true

def m_slices_IndexFunc_odds_Ratio_odds_Ratio_L1 (n : Nat) (a1 : (List SRatio)) (p2 : SRatio → Option Bool) (s3 : Int) : Option (Int ⊕ (Int ⊕ Unit)) :=
  if (decide (s3 < (a1.length : Int))) = true then
    (ix a1 s3).bind fun v4 =>
    (p2 v4).bind fun v5 =>
    if v5 = true then
      some (.inr (.inl s3))
    else
    some (.inl (IntKind.i64.wrap (s3 + (1 : Int))))
  else
  some (.inr (.inr ()))

/-- slices.IndexFunc[[]bookplate/odds.Ratio,bookplate/odds.Ratio] -/
def m_slices_IndexFunc_odds_Ratio_odds_Ratio (n : Nat) (a1 : (List SRatio)) (p2 : SRatio → Option Bool) : Option Int :=
  (iter n (fun s => m_slices_IndexFunc_odds_Ratio_odds_Ratio_L1 n a1 p2 s) (0 : Int)).bind fun t3 => match t3 with
  | (.inl u4) =>
    some u4
  | (.inr u5) =>
    some (-1 : Int)

/-- slices.ContainsFunc[[]bookplate/odds.Ratio,bookplate/odds.Ratio] -/
def m_slices_ContainsFunc_odds_Ratio_odds_Ratio (n : Nat) (a1 : (List SRatio)) (p2 : SRatio → Option Bool) : Option Bool :=
  (m_slices_IndexFunc_odds_Ratio_odds_Ratio n a1 p2).bind fun v3 =>
  some (decide ((0 : Int) ≤ v3))

/-- bookplate/odds.Valid$1 -/
def m_odds_Valid_1 (n : Nat) (a1 : SRatio) : Option Bool :=
  some ((((decide (a1.fNum < (1 : Int))) || (decide ((1000 : Int) < a1.fNum))) || (decide (a1.fDen < (1 : Int)))) || (decide ((1000 : Int) < a1.fDen)))

/-- bookplate/odds.Valid -/
def m_odds_Valid (n : Nat) (a1 : (List SRatio)) : Option Bool :=
  ((if (decide ((a1.length : Int) ≤ (12 : Int))) = true then m_slices_ContainsFunc_odds_Ratio_odds_Ratio n a1 (fun y1 => m_odds_Valid_1 n y1) else some default)).bind fun v2 =>
  some ((decide ((a1.length : Int) ≤ (12 : Int))) && (!v2))

/-- bookplate/odds.number -/
def m_odds_number (n : Nat) (a1 : Int) : Option (List Int) :=
  (m_nat_Of n a1).bind fun v2 =>
  some v2.1

/-- bookplate/odds.times -/
def m_odds_times (n : Nat) (a1 : (List Int)) (a2 : (List Int)) : Option (List Int) :=
  (m_nat_Mul n a1 a2).bind fun v3 =>
  some v3.1

def m_odds_parts_L1 (n : Nat) (a1 : (List SRatio)) (s4 : (List Int)) (s5 : (List Int)) (s6 : Int) : Option (((List Int) × (List Int) × Int) ⊕ ((List Int) × (List Int))) :=
  if (decide (s6 < (a1.length : Int))) = true then
    (ix a1 s6).bind fun v7 =>
    (m_odds_number n v7.fNum).bind fun v8 =>
    (m_odds_times n s4 v8).bind fun v9 =>
    (m_odds_number n v7.fDen).bind fun v10 =>
    (m_odds_times n s5 v10).bind fun v11 =>
    some (.inl (v9, v11, (IntKind.i64.wrap (s6 + (1 : Int)))))
  else
  some (.inr (s4, s5))

/-- bookplate/odds.parts -/
def m_odds_parts (n : Nat) (a1 : (List SRatio)) : Option ((List Int) × (List Int)) :=
  (m_odds_number n (1 : Int)).bind fun v2 =>
  (m_odds_number n (1 : Int)).bind fun v3 =>
  (iter n (fun s => m_odds_parts_L1 n a1 s.1 s.2.1 s.2.2) (v2, v3, (0 : Int))).bind fun t4 =>
  some (t4.1, t4.2)

/-- bookplate/odds.Product -/
def m_odds_Product (n : Nat) (a1 : (List SRatio)) : Option ((List Int) × (List Int) × Int) :=
  (m_odds_Valid n a1).bind fun v2 =>
  if (!v2) = true then
    some ([], [], (1 : Int))
  else
  (m_odds_parts n a1).bind fun v3 =>
  (m_nat_Gcd n v3.1 v3.2).bind fun v4 =>
  (m_nat_Divide n v3.1 v4.1).bind fun v5 =>
  (m_nat_Divide n v3.2 v4.1).bind fun v6 =>
  some (v5.1, v6.1, (0 : Int))

/-- bookplate/odds.eighth -/
def m_odds_eighth (n : Nat) (a1 : (List Int)) : Option (List Int) :=
  (m_nat_Power n a1 (8 : Int)).bind fun v2 =>
  some v2.1

/-- bookplate/odds.floor -/
def m_odds_floor (n : Nat) (a1 : (List Int)) (a2 : (List Int)) : Option Int :=
  (m_nat_Bits n a1).bind fun v3 =>
  (m_nat_Bits n a2).bind fun v4 =>
  (m_nat_Shift n a2 (max (IntKind.i64.wrap (v3 - v4)) (0 : Int))).bind fun v5 =>
  (m_nat_Shift n a1 (max (IntKind.i64.wrap (-(IntKind.i64.wrap (v3 - v4)))) (0 : Int))).bind fun v6 =>
  (
    (m_nat_Compare n v5.1 v6.1).bind fun v7 =>
    if (decide ((0 : Int) < v7)) = true then
      some (IntKind.i64.wrap ((IntKind.i64.wrap (v3 - v4)) - (1 : Int)))
    else
    some (IntKind.i64.wrap (v3 - v4)) : Option Int).bind fun t8 =>
  some t8

/-- bookplate/odds.Weight -/
def m_odds_Weight (n : Nat) (a1 : (List SRatio)) : Option (Int × Int) :=
  (m_odds_Valid n a1).bind fun v2 =>
  if (!v2) = true then
    some ((0 : Int), (1 : Int))
  else
  (m_odds_parts n a1).bind fun v3 =>
  (m_odds_eighth n v3.1).bind fun v4 =>
  (m_odds_eighth n v3.2).bind fun v5 =>
  (m_odds_floor n v4 v5).bind fun v6 =>
  some (v6, (0 : Int))

/-- bookplate/odds.Compare -/
def m_odds_Compare (n : Nat) (a1 : (List SRatio)) (a2 : (List SRatio)) : Option (Int × Int) :=
  (m_odds_Valid n a1).bind fun v3 =>
  ((if (!(!v3)) = true then m_odds_Valid n a2 else some default)).bind fun v4 =>
  if ((!v3) || (!v4)) = true then
    some ((0 : Int), (1 : Int))
  else
  (m_odds_parts n a1).bind fun v5 =>
  (m_odds_parts n a2).bind fun v6 =>
  (m_odds_times n v5.1 v6.2).bind fun v7 =>
  (m_odds_times n v6.1 v5.2).bind fun v8 =>
  (m_nat_Compare n v7 v8).bind fun v9 =>
  some (v9, (0 : Int))

def m_odds_Inverse_L1 (n : Nat) (a1 : (List SRatio)) (s2 : (List SRatio)) (s3 : Int) : Option (((List SRatio) × Int) ⊕ (List SRatio)) :=
  if (decide (s3 < (a1.length : Int))) = true then
    (ix a1 s3).bind fun v4 =>
    (app 16 s2 ([(⟨v4.fDen, v4.fNum⟩ : SRatio)] : List SRatio)).bind fun v5 =>
    some (.inl (v5, (IntKind.i64.wrap (s3 + (1 : Int)))))
  else
  some (.inr s2)

/-- bookplate/odds.Inverse -/
def m_odds_Inverse (n : Nat) (a1 : (List SRatio)) : Option (List SRatio) :=
  (iter n (fun s => m_odds_Inverse_L1 n a1 s.1 s.2) ([], (0 : Int))).bind fun t2 =>
  some t2

/-- bookplate/odds.Of$1 -/
def m_odds_Of_1 (n : Nat) (a1 : Int) (c2 : (List Int)) : Option Int :=
  (m_odds_number n a1).bind fun v3 =>
  (m_odds_eighth n v3).bind fun v4 =>
  (m_odds_floor n v4 c2).bind fun v5 =>
  some v5

def m_odds_Of_L2 (n : Nat) (a1 : Int) (v4 : (List Int)) (s5 : Int) (s6 : Int) : Option ((Int × Int) ⊕ Int) :=
  if (decide ((1 : Int) < (IntKind.i64.wrap (s6 - s5)))) = true then
    (quo .i64 (IntKind.i64.wrap (s5 + s6)) (2 : Int)).bind fun v7 =>
    (m_odds_Of_1 n v7 v4).bind fun v8 =>
    if (decide (v8 < a1)) = true then
      some (.inl (v7, s6))
    else
    some (.inl (s5, v7))
  else
  some (.inr s6)

def m_odds_Of_L1 (n : Nat) (a1 : Int) (s2 : Int) : Option (Int ⊕ ((SRatio × Int) ⊕ Unit)) :=
  if (decide (s2 ≤ (1000 : Int))) = true then
    (m_odds_number n s2).bind fun v3 =>
    (m_odds_eighth n v3).bind fun v4 =>
    (iter n (fun s => m_odds_Of_L2 n a1 v4 s.1 s.2) ((0 : Int), (1001 : Int))).bind fun t5 =>
    ((if (decide (t5 ≤ (1000 : Int))) = true then m_odds_Of_1 n t5 v4 else some default)).bind fun v6 =>
    if ((decide (t5 ≤ (1000 : Int))) && (decide (v6 = a1))) = true then
      some (.inr (.inl ((⟨t5, s2⟩ : SRatio), (0 : Int))))
    else
    some (.inl (IntKind.i64.wrap (s2 + (1 : Int))))
  else
  some (.inr (.inr ()))

/-- bookplate/odds.Of -/
def m_odds_Of (n : Nat) (a1 : Int) : Option (SRatio × Int) :=
  if ((decide (a1 < (-79 : Int))) || (decide ((79 : Int) < a1))) = true then
    some ((⟨(0 : Int), (0 : Int)⟩ : SRatio), (2 : Int))
  else
  (iter n (fun s => m_odds_Of_L1 n a1 s) (1 : Int)).bind fun t2 => match t2 with
  | (.inl u3) =>
    some u3
  | (.inr u4) =>
    some ((⟨(0 : Int), (0 : Int)⟩ : SRatio), (9 : Int))

def m_ref28_Valid_L1 (n : Nat) (a1 : (List SRatio)) (s2 : Int) : Option (Int ⊕ (Bool ⊕ Unit)) :=
  if (decide (s2 < (a1.length : Int))) = true then
    (ix a1 s2).bind fun v3 =>
    ((if (!(decide (v3.fNum < (1 : Int)))) = true then ix a1 s2 else some default)).bind fun v4 =>
    ((if (!((decide (v3.fNum < (1 : Int))) || (decide ((1000 : Int) < v4.fNum)))) = true then ix a1 s2 else some default)).bind fun v5 =>
    ((if (!(((decide (v3.fNum < (1 : Int))) || (decide ((1000 : Int) < v4.fNum))) || (decide (v5.fDen < (1 : Int))))) = true then ix a1 s2 else some default)).bind fun v6 =>
    if ((((decide (v3.fNum < (1 : Int))) || (decide ((1000 : Int) < v4.fNum))) || (decide (v5.fDen < (1 : Int)))) || (decide ((1000 : Int) < v6.fDen))) = true then
      some (.inr (.inl false))
    else
    some (.inl (IntKind.i64.wrap (s2 + (1 : Int))))
  else
  some (.inr (.inr ()))

/-- bookplate/bookplateref28.Valid -/
def m_ref28_Valid (n : Nat) (a1 : (List SRatio)) : Option Bool :=
  (iter n (fun s => m_ref28_Valid_L1 n a1 s) (0 : Int)).bind fun t2 => match t2 with
  | (.inl u3) =>
    some u3
  | (.inr u4) =>
    some (decide ((a1.length : Int) ≤ (12 : Int)))

def m_ref28_Product_L1 (n : Nat) (a1 : (List SRatio)) (s3 : (List Int)) (s4 : (List Int)) (s5 : Int) : Option (((List Int) × (List Int) × Int) ⊕ ((List Int) × (List Int))) :=
  if (decide (s5 < (a1.length : Int))) = true then
    (ix a1 s5).bind fun v6 =>
    (m_ref03_Mul n s3 ([v6.fNum] : List Int)).bind fun v7 =>
    (ix a1 s5).bind fun v8 =>
    (m_ref03_Mul n s4 ([v8.fDen] : List Int)).bind fun v9 =>
    some (.inl (v7.1, v9.1, (IntKind.i64.wrap (s5 + (1 : Int)))))
  else
  some (.inr (s3, s4))

/-- bookplate/bookplateref28.Product -/
def m_ref28_Product (n : Nat) (a1 : (List SRatio)) : Option ((List Int) × (List Int) × Int) :=
  (m_ref28_Valid n a1).bind fun v2 =>
  if (!v2) = true then
    some ([], [], (1 : Int))
  else
  (iter n (fun s => m_ref28_Product_L1 n a1 s.1 s.2.1 s.2.2) (([(1 : Int)] : List Int), ([(1 : Int)] : List Int), (0 : Int))).bind fun t3 =>
  (m_ref03_Gcd n t3.1 t3.2).bind fun v4 =>
  (m_ref03_Divide n t3.1 v4.1).bind fun v5 =>
  (m_ref03_Divide n t3.2 v4.1).bind fun v6 =>
  some (v5.1, v6.1, (0 : Int))

/-- bookplate/bookplateref28.Weight -/
def m_ref28_Weight (n : Nat) (a1 : (List SRatio)) : Option (Int × Int) :=
  (m_ref28_Product n a1).bind fun v2 =>
  if (!decide (v2.2.2 = (0 : Int))) = true then
    some ((0 : Int), v2.2.2)
  else
  (m_ref03_Power n v2.1 (8 : Int)).bind fun v3 =>
  (m_ref03_Power n v2.2.1 (8 : Int)).bind fun v4 =>
  (m_ref03_Bits n v3.1).bind fun v5 =>
  (m_ref03_Bits n v4.1).bind fun v6 =>
  (
    if (decide ((0 : Int) < (IntKind.i64.wrap (v5 - v6)))) = true then
      (m_ref03_Shift n v4.1 (IntKind.i64.wrap (v5 - v6))).bind fun v7 =>
      some (v3.1, v7.1)
    else
    (m_ref03_Shift n v3.1 (IntKind.i64.wrap (-(IntKind.i64.wrap (v5 - v6))))).bind fun v8 =>
    some (v8.1, v4.1) : Option ((List Int) × (List Int))).bind fun t9 =>
  (
    (m_ref03_Compare n t9.1 t9.2).bind fun v10 =>
    if (decide (v10 < (0 : Int))) = true then
      some (IntKind.i64.wrap ((IntKind.i64.wrap (v5 - v6)) - (1 : Int)))
    else
    some (IntKind.i64.wrap (v5 - v6)) : Option Int).bind fun t11 =>
  some (t11, (0 : Int))

/-- bookplate/bookplateref28.Compare -/
def m_ref28_Compare (n : Nat) (a1 : (List SRatio)) (a2 : (List SRatio)) : Option (Int × Int) :=
  (m_ref28_Product n a1).bind fun v3 =>
  (m_ref28_Product n a2).bind fun v4 =>
  if ((!decide (v3.2.2 = (0 : Int))) || (!decide (v4.2.2 = (0 : Int)))) = true then
    some ((0 : Int), (1 : Int))
  else
  (m_ref03_Mul n v3.1 v4.2.1).bind fun v5 =>
  (m_ref03_Mul n v4.1 v3.2.1).bind fun v6 =>
  (m_ref03_Compare n v5.1 v6.1).bind fun v7 =>
  some (v7, (0 : Int))

def m_ref28_Inverse_L1 (n : Nat) (a1 : (List SRatio)) (s2 : (List SRatio)) (s3 : Int) : Option (((List SRatio) × Int) ⊕ (List SRatio)) :=
  if (decide (s3 < (a1.length : Int))) = true then
    (ix a1 s3).bind fun v4 =>
    (ix a1 s3).bind fun v5 =>
    (app 16 s2 ([(⟨v4.fDen, v5.fNum⟩ : SRatio)] : List SRatio)).bind fun v6 =>
    some (.inl (v6, (IntKind.i64.wrap (s3 + (1 : Int)))))
  else
  some (.inr s2)

/-- bookplate/bookplateref28.Inverse -/
def m_ref28_Inverse (n : Nat) (a1 : (List SRatio)) : Option (List SRatio) :=
  (iter n (fun s => m_ref28_Inverse_L1 n a1 s.1 s.2) ([], (0 : Int))).bind fun t2 =>
  some t2

def m_ref28_Of_L2 (n : Nat) (a1 : Int) (s2 : Int) (s3 : Int) (s4 : Int) : Option ((Int × Int) ⊕ Int) :=
  if (decide (s3 < s4)) = true then
    (quo .i64 (IntKind.i64.wrap (s3 + s4)) (2 : Int)).bind fun v5 =>
    (m_ref28_Weight n ([(⟨v5, s2⟩ : SRatio)] : List SRatio)).bind fun v6 =>
    if (decide (a1 ≤ v6.1)) = true then
      some (.inl (s3, v5))
    else
    some (.inl ((IntKind.i64.wrap (v5 + (1 : Int))), s4))
  else
  some (.inr s3)

def m_ref28_Of_L1 (n : Nat) (a1 : Int) (s2 : Int) : Option (Int ⊕ ((SRatio × Int) ⊕ Unit)) :=
  if (decide (s2 ≤ (1000 : Int))) = true then
    (
      (iter n (fun s => m_ref28_Of_L2 n a1 s2 s.1 s.2) ((1 : Int), (1001 : Int))).bind fun t3 =>
      if (decide ((1000 : Int) < t3)) = true then
        some (.inl ())
      else
      (m_ref28_Weight n ([(⟨t3, s2⟩ : SRatio)] : List SRatio)).bind fun v4 =>
      if (decide (v4.1 = a1)) = true then
        some (.inr ((⟨t3, s2⟩ : SRatio), (0 : Int)))
      else
      some (.inl ()) : Option (Unit ⊕ (SRatio × Int))).bind fun t5 => match t5 with
    | (.inl u6) =>
      some (.inl (IntKind.i64.wrap (s2 + (1 : Int))))
    | (.inr u7) =>
      some (.inr (.inl u7))
  else
  some (.inr (.inr ()))

/-- bookplate/bookplateref28.Of -/
def m_ref28_Of (n : Nat) (a1 : Int) : Option (SRatio × Int) :=
  if ((decide (a1 < (-79 : Int))) || (decide ((79 : Int) < a1))) = true then
    some ((⟨(0 : Int), (0 : Int)⟩ : SRatio), (2 : Int))
  else
  (iter n (fun s => m_ref28_Of_L1 n a1 s) (1 : Int)).bind fun t2 => match t2 with
  | (.inl u3) =>
    some u3
  | (.inr u4) =>
    some ((⟨(0 : Int), (0 : Int)⟩ : SRatio), (9 : Int))

def m_ref28_Same_L1 (n : Nat) (a1 : (List SRatio)) (a2 : (List SRatio)) (s3 : Int) : Option (Int ⊕ (Bool ⊕ Unit)) :=
  if (decide (s3 < (a1.length : Int))) = true then
    (ix a1 s3).bind fun v4 =>
    (ix a2 s3).bind fun v5 =>
    if (!decide (v4 = v5)) = true then
      some (.inr (.inl false))
    else
    some (.inl (IntKind.i64.wrap (s3 + (1 : Int))))
  else
  some (.inr (.inr ()))

/-- bookplate/bookplateref28.Same -/
def m_ref28_Same (n : Nat) (a1 : (List SRatio)) (a2 : (List SRatio)) : Option Bool :=
  if (!decide ((a1.length : Int) = (a2.length : Int))) = true then
    some false
  else
  (iter n (fun s => m_ref28_Same_L1 n a1 a2 s) (0 : Int)).bind fun t3 => match t3 with
  | (.inl u4) =>
    some u4
  | (.inr u5) =>
    some true

/-- bookplate/bookplatelaw28.awake -/
def m_law28_awake (n : Nat) : Option Bool :=
  (m_odds_Product n ([(⟨(3 : Int), (2 : Int)⟩ : SRatio), (⟨(4 : Int), (6 : Int)⟩ : SRatio)] : List SRatio)).bind fun v1 =>
  (m_odds_Weight n ([(⟨(3 : Int), (1 : Int)⟩ : SRatio)] : List SRatio)).bind fun v2 =>
  (m_odds_Weight n ([(⟨(1 : Int), (3 : Int)⟩ : SRatio)] : List SRatio)).bind fun v3 =>
  ((if (((decide (v1.2.2 = (0 : Int))) && (decide (v2.2 = (0 : Int)))) && (decide (v3.2 = (0 : Int)))) = true then m_ref03_Same n v1.1 ([(1 : Int)] : List Int) else some default)).bind fun v4 =>
  ((if ((((decide (v1.2.2 = (0 : Int))) && (decide (v2.2 = (0 : Int)))) && (decide (v3.2 = (0 : Int)))) && v4) = true then m_ref03_Same n v1.2.1 ([(1 : Int)] : List Int) else some default)).bind fun v5 =>
  ((if (((((((decide (v1.2.2 = (0 : Int))) && (decide (v2.2 = (0 : Int)))) && (decide (v3.2 = (0 : Int)))) && v4) && v5) && (decide (v2.1 = (12 : Int)))) && (decide (v3.1 = (-13 : Int)))) = true then m_odds_Valid n [] else some default)).bind fun v6 =>
  some ((((((((decide (v1.2.2 = (0 : Int))) && (decide (v2.2 = (0 : Int)))) && (decide (v3.2 = (0 : Int)))) && v4) && v5) && (decide (v2.1 = (12 : Int)))) && (decide (v3.1 = (-13 : Int)))) && v6)

def m_law28_Own_L1 (n : Nat) (a1 : (List SRatio)) (s2 : Int) (s3 : (List SRatio)) : Option ((Int × (List SRatio)) ⊕ (List SRatio)) :=
  if (decide (s2 < (a1.length : Int))) = true then
    (ix a1 s2).bind fun v4 =>
    (app 16 s3 ([(⟨v4.fNum, v4.fDen⟩ : SRatio)] : List SRatio)).bind fun v5 =>
    some (.inl ((IntKind.i64.wrap (s2 + (1 : Int))), v5))
  else
  some (.inr s3)

/-- bookplate/bookplatelaw28.Own -/
def m_law28_Own (n : Nat) (a1 : (List SRatio)) : Option (List SRatio) :=
  (iter n (fun s => m_law28_Own_L1 n a1 s.1 s.2) ((0 : Int), [])).bind fun t2 =>
  some t2

/-- bookplate/bookplatelaw28.OddsMeans -/
def m_law28_OddsMeans (n : Nat) (a1 : (List SRatio)) : Option Bool :=
  (m_law28_awake n).bind fun v2 =>
  ((if (!(!v2)) = true then m_ref28_Valid n a1 else some default)).bind fun v3 =>
  if ((!v2) || (!v3)) = true then
    (m_law28_awake n).bind fun v4 =>
    some v4
  else
  (m_law28_Own n a1).bind fun v5 =>
  (m_odds_Product n v5).bind fun v6 =>
  (m_law28_Own n a1).bind fun v7 =>
  (m_odds_Weight n v7).bind fun v8 =>
  (m_nat_Power n v6.1 (8 : Int)).bind fun v9 =>
  (m_nat_Power n v6.2.1 (8 : Int)).bind fun v10 =>
  if ((((((!decide (v6.2.2 = (0 : Int))) || (!decide (v8.2 = (0 : Int)))) || (!decide (v9.2 = (0 : Int)))) || (!decide (v10.2 = (0 : Int)))) || (decide (v8.1 < (-960 : Int)))) || (decide ((960 : Int) < v8.1))) = true then
    some false
  else
  (
    if (decide ((0 : Int) ≤ v8.1)) = true then
      (m_nat_Shift n v10.1 v8.1).bind fun v11 =>
      some (v11.2, v9.1, v11.1)
    else
    (m_nat_Shift n v9.1 (IntKind.i64.wrap (-v8.1))).bind fun v12 =>
    some (v12.2, v12.1, v10.1) : Option (Int × (List Int) × (List Int))).bind fun t13 =>
  (m_nat_Shift n t13.2.2 (1 : Int)).bind fun v14 =>
  ((if ((decide (t13.1 = (0 : Int))) && (decide (v14.2 = (0 : Int)))) = true then m_nat_Compare n t13.2.2 t13.2.1 else some default)).bind fun v15 =>
  ((if (((decide (t13.1 = (0 : Int))) && (decide (v14.2 = (0 : Int)))) && (decide (v15 ≤ (0 : Int)))) = true then m_nat_Compare n t13.2.1 v14.1 else some default)).bind fun v16 =>
  some ((((decide (t13.1 = (0 : Int))) && (decide (v14.2 = (0 : Int)))) && (decide (v15 ≤ (0 : Int)))) && (decide (v16 < (0 : Int))))



/-- bookplate/bookplatelaw28.OddsSums -/
def m_law28_OddsSums (n : Nat) (a1 : (List SRatio)) (a2 : (List SRatio)) : Option Bool :=
  (m_law28_awake n).bind fun v3 =>
  ((if (!(!v3)) = true then m_ref28_Valid n a1 else some default)).bind fun v4 =>
  ((if (!((!v3) || (!v4))) = true then m_ref28_Valid n a2 else some default)).bind fun v5 =>
  if ((((!v3) || (!v4)) || (!v5)) || (decide ((12 : Int) < (IntKind.i64.wrap ((a1.length : Int) + (a2.length : Int)))))) = true then
    (m_law28_awake n).bind fun v6 =>
    some v6
  else
  (m_law28_Own n a1).bind fun v7 =>
  (m_odds_Weight n v7).bind fun v8 =>
  (m_law28_Own n a2).bind fun v9 =>
  (m_odds_Weight n v9).bind fun v10 =>
  (m_law28_Own n a1).bind fun v11 =>
  (m_law28_Own n a2).bind fun v12 =>
  (app 16 v11 v12).bind fun v13 =>
  (m_odds_Weight n v13).bind fun v14 =>
  some ((((decide (v8.2 = (0 : Int))) && (decide (v10.2 = (0 : Int)))) && (decide (v14.2 = (0 : Int)))) && ((decide (v14.1 = (IntKind.i64.wrap (v8.1 + v10.1)))) || (decide (v14.1 = (IntKind.i64.wrap ((IntKind.i64.wrap (v8.1 + v10.1)) + (1 : Int)))))))

def m_law28_theirs_L1 (n : Nat) (a1 : (List SRatio)) (s2 : (List SRatio)) (s3 : Int) : Option (((List SRatio) × Int) ⊕ (List SRatio)) :=
  if (decide (s3 < (a1.length : Int))) = true then
    (ix a1 s3).bind fun v4 =>
    (app 16 s2 ([(⟨v4.fNum, v4.fDen⟩ : SRatio)] : List SRatio)).bind fun v5 =>
    some (.inl (v5, (IntKind.i64.wrap (s3 + (1 : Int)))))
  else
  some (.inr s2)

/-- bookplate/bookplatelaw28.theirs -/
def m_law28_theirs (n : Nat) (a1 : (List SRatio)) : Option (List SRatio) :=
  (iter n (fun s => m_law28_theirs_L1 n a1 s.1 s.2) ([], (0 : Int))).bind fun t2 =>
  some t2

/-- bookplate/bookplatelaw28.OddsProduct -/
def m_law28_OddsProduct (n : Nat) (a1 : (List SRatio)) : Option Bool :=
  (m_law28_awake n).bind fun v2 =>
  if ((!v2) || (decide ((14 : Int) < (a1.length : Int)))) = true then
    (m_law28_awake n).bind fun v3 =>
    some v3
  else
  (m_law28_Own n a1).bind fun v4 =>
  (m_odds_Product n v4).bind fun v5 =>
  (m_ref28_Product n a1).bind fun v6 =>
  (m_law28_Own n a1).bind fun v7 =>
  (m_odds_Weight n v7).bind fun v8 =>
  (m_ref28_Weight n a1).bind fun v9 =>
  (m_ref03_Same n v5.1 v6.1).bind fun v10 =>
  ((if v10 = true then m_ref03_Same n v5.2.1 v6.2.1 else some default)).bind fun v11 =>
  ((if ((((v10 && v11) && (decide (v5.2.2 = v6.2.2))) && (decide (v8.1 = v9.1))) && (decide (v8.2 = v9.2))) = true then m_law28_Own n a1 else some default)).bind fun v12 =>
  ((if ((((v10 && v11) && (decide (v5.2.2 = v6.2.2))) && (decide (v8.1 = v9.1))) && (decide (v8.2 = v9.2))) = true then m_odds_Valid n v12 else some default)).bind fun v13 =>
  ((if ((((v10 && v11) && (decide (v5.2.2 = v6.2.2))) && (decide (v8.1 = v9.1))) && (decide (v8.2 = v9.2))) = true then m_ref28_Valid n a1 else some default)).bind fun v14 =>
  ((if (((((v10 && v11) && (decide (v5.2.2 = v6.2.2))) && (decide (v8.1 = v9.1))) && (decide (v8.2 = v9.2))) && (v13 == v14)) = true then m_law28_Own n a1 else some default)).bind fun v15 =>
  ((if (((((v10 && v11) && (decide (v5.2.2 = v6.2.2))) && (decide (v8.1 = v9.1))) && (decide (v8.2 = v9.2))) && (v13 == v14)) = true then m_odds_Inverse n v15 else some default)).bind fun v16 =>
  ((if (((((v10 && v11) && (decide (v5.2.2 = v6.2.2))) && (decide (v8.1 = v9.1))) && (decide (v8.2 = v9.2))) && (v13 == v14)) = true then m_law28_theirs n v16 else some default)).bind fun v17 =>
  ((if (((((v10 && v11) && (decide (v5.2.2 = v6.2.2))) && (decide (v8.1 = v9.1))) && (decide (v8.2 = v9.2))) && (v13 == v14)) = true then m_ref28_Inverse n a1 else some default)).bind fun v18 =>
  ((if (((((v10 && v11) && (decide (v5.2.2 = v6.2.2))) && (decide (v8.1 = v9.1))) && (decide (v8.2 = v9.2))) && (v13 == v14)) = true then m_ref28_Same n v17 v18 else some default)).bind fun v19 =>
  some ((((((v10 && v11) && (decide (v5.2.2 = v6.2.2))) && (decide (v8.1 = v9.1))) && (decide (v8.2 = v9.2))) && (v13 == v14)) && v19)

/-- bookplate/bookplatelaw28.OddsInverse -/
def m_law28_OddsInverse (n : Nat) (a1 : (List SRatio)) : Option Bool :=
  (m_law28_awake n).bind fun v2 =>
  ((if (!(!v2)) = true then m_ref28_Valid n a1 else some default)).bind fun v3 =>
  if ((!v2) || (!v3)) = true then
    (m_law28_awake n).bind fun v4 =>
    some v4
  else
  (m_law28_Own n a1).bind fun v5 =>
  (m_odds_Weight n v5).bind fun v6 =>
  (m_law28_Own n a1).bind fun v7 =>
  (m_odds_Inverse n v7).bind fun v8 =>
  (m_odds_Weight n v8).bind fun v9 =>
  (m_law28_Own n a1).bind fun v10 =>
  (m_odds_Product n v10).bind fun v11 =>
  (m_nat_Power n v11.1 (8 : Int)).bind fun v12 =>
  (m_nat_Power n v11.2.1 (8 : Int)).bind fun v13 =>
  if (((((!decide (v6.2 = (0 : Int))) || (!decide (v9.2 = (0 : Int)))) || (!decide (v11.2.2 = (0 : Int)))) || (!decide (v12.2 = (0 : Int)))) || (!decide (v13.2 = (0 : Int)))) = true then
    some false
  else
  (
    if (decide ((0 : Int) ≤ v6.1)) = true then
      (m_nat_Shift n v13.1 v6.1).bind fun v14 =>
      some (v14.2, v12.1, v14.1)
    else
    (m_nat_Shift n v12.1 (IntKind.i64.wrap (-v6.1))).bind fun v15 =>
    some (v15.2, v15.1, v13.1) : Option (Int × (List Int) × (List Int))).bind fun t16 =>
  (m_law28_Own n a1).bind fun v17 =>
  (m_odds_Inverse n v17).bind fun v18 =>
  (m_odds_Product n v18).bind fun v19 =>
  ((if (!((!decide (t16.1 = (0 : Int))) || (!decide (v19.2.2 = (0 : Int))))) = true then m_ref03_Same n v19.1 v11.2.1 else some default)).bind fun v20 =>
  ((if (!(((!decide (t16.1 = (0 : Int))) || (!decide (v19.2.2 = (0 : Int)))) || (!v20))) = true then m_ref03_Same n v19.2.1 v11.1 else some default)).bind fun v21 =>
  if ((((!decide (t16.1 = (0 : Int))) || (!decide (v19.2.2 = (0 : Int)))) || (!v20)) || (!v21)) = true then
    some false
  else
  (m_nat_Compare n t16.2.1 t16.2.2).bind fun v22 =>
  if (decide (v22 = (0 : Int))) = true then
    some (decide (v9.1 = (IntKind.i64.wrap (-v6.1))))
  else
  some (decide (v9.1 = (IntKind.i64.wrap ((IntKind.i64.wrap (-v6.1)) - (1 : Int)))))

/-- bookplate/bookplatelaw28.OddsCompare -/
def m_law28_OddsCompare (n : Nat) (a1 : (List SRatio)) (a2 : (List SRatio)) : Option Bool :=
  (m_law28_awake n).bind fun v3 =>
  if (((!v3) || (decide ((14 : Int) < (a1.length : Int)))) || (decide ((14 : Int) < (a2.length : Int)))) = true then
    (m_law28_awake n).bind fun v4 =>
    some v4
  else
  (m_law28_Own n a1).bind fun v5 =>
  (m_law28_Own n a2).bind fun v6 =>
  (m_odds_Compare n v5 v6).bind fun v7 =>
  (m_ref28_Compare n a1 a2).bind fun v8 =>
  some ((decide (v7.1 = v8.1)) && (decide (v7.2 = v8.2)))

/-- bookplate/bookplatelaw28.OddsOrder -/
def m_law28_OddsOrder (n : Nat) (a1 : (List SRatio)) (a2 : (List SRatio)) (a3 : Int) : Option Bool :=
  (m_law28_awake n).bind fun v4 =>
  ((if (!(!v4)) = true then m_ref28_Valid n a1 else some default)).bind fun v5 =>
  ((if (!((!v4) || (!v5))) = true then m_ref28_Valid n a2 else some default)).bind fun v6 =>
  if ((((!v4) || (!v5)) || (!v6)) || (decide ((10 : Int) < (a1.length : Int)))) = true then
    (m_law28_awake n).bind fun v7 =>
    some v7
  else
  (m_law28_Own n a1).bind fun v8 =>
  (m_law28_Own n a2).bind fun v9 =>
  (m_odds_Compare n v8 v9).bind fun v10 =>
  (m_law28_Own n a2).bind fun v11 =>
  (m_law28_Own n a1).bind fun v12 =>
  (m_odds_Compare n v11 v12).bind fun v13 =>
  (m_law28_Own n a1).bind fun v14 =>
  (m_odds_Weight n v14).bind fun v15 =>
  (m_law28_Own n a2).bind fun v16 =>
  (m_odds_Weight n v16).bind fun v17 =>
  if (((((((!decide (v10.2 = (0 : Int))) || (!decide (v13.2 = (0 : Int)))) || (!decide (v15.2 = (0 : Int)))) || (!decide (v17.2 = (0 : Int)))) || (!decide (v10.1 = (IntKind.i64.wrap (-v13.1))))) || ((decide (v10.1 = (0 : Int))) && (!decide (v15.1 = v17.1)))) || ((decide ((0 : Int) < v10.1)) && (decide (v15.1 < v17.1)))) = true then
    some false
  else
  (
    if (decide ((0 : Int) < (a1.length : Int))) = true then
      (rem (IntKind.i64.wrap a3) (a1.length : Int)).bind fun v18 =>
      some v18
    else
    some (0 : Int) : Option Int).bind fun t19 =>
  (slc a1 t19 (a1.length : Int)).bind fun v20 =>
  (m_law28_Own n v20).bind fun v21 =>
  (slc a1 (0 : Int) t19).bind fun v22 =>
  (m_law28_Own n v22).bind fun v23 =>
  (app 16 v21 v23).bind fun v24 =>
  (app 16 (([(⟨(IntKind.i64.wrap ((1 : Int) + (IntKind.i64.wrap a3))), (7 : Int)⟩ : SRatio)] : List SRatio) : List SRatio) v24).bind fun v25 =>
  (app 16 v25 ([(⟨(7 : Int), (IntKind.i64.wrap ((1 : Int) + (IntKind.i64.wrap a3)))⟩ : SRatio)] : List SRatio)).bind fun v26 =>
  (m_law28_Own n a1).bind fun v27 =>
  (m_odds_Compare n v27 v26).bind fun v28 =>
  (m_odds_Weight n v26).bind fun v29 =>
  some ((((decide (v28.2 = (0 : Int))) && (decide (v29.2 = (0 : Int)))) && (decide (v28.1 = (0 : Int)))) && (decide (v29.1 = v15.1)))

def m_law28_OddsSteps_L1 (n : Nat) (a1 : Int) (a2 : Int) (v4 : (SRatio × Int)) (s7 : Int) : Option (Int ⊕ (Bool ⊕ Unit)) :=
  if (decide (s7 < v4.1.fDen)) = true then
    (rem (IntKind.i64.wrap a2) (1000 : Int)).bind fun v8 =>
    (m_odds_Weight n ([(⟨(IntKind.i64.wrap ((1 : Int) + v8)), s7⟩ : SRatio)] : List SRatio)).bind fun v9 =>
    if ((!decide (v9.2 = (0 : Int))) || (decide (v9.1 = a1))) = true then
      some (.inr (.inl false))
    else
    some (.inl (IntKind.i64.wrap (s7 + (1 : Int))))
  else
  some (.inr (.inr ()))

/-- bookplate/bookplatelaw28.OddsSteps -/
def m_law28_OddsSteps (n : Nat) (a1 : Int) (a2 : Int) : Option Bool :=
  (m_law28_awake n).bind fun v3 =>
  if (!v3) = true then
    some false
  else
  (m_odds_Of n a1).bind fun v4 =>
  (m_ref28_Of n a1).bind fun v5 =>
  if ((!decide ((⟨v4.1.fNum, v4.1.fDen⟩ : SRatio) = (⟨v5.1.fNum, v5.1.fDen⟩ : SRatio))) || (!decide (v4.2 = v5.2))) = true then
    some false
  else
  if (!decide (v4.2 = (0 : Int))) = true then
    some true
  else
  (m_odds_Weight n ([(⟨v4.1.fNum, v4.1.fDen⟩ : SRatio)] : List SRatio)).bind fun v6 =>
  if ((!decide (v6.2 = (0 : Int))) || (!decide (v6.1 = a1))) = true then
    some false
  else
  (iter n (fun s => m_law28_OddsSteps_L1 n a1 a2 v4 s) (1 : Int)).bind fun t7 => match t7 with
  | (.inl u8) =>
    some u8
  | (.inr u9) =>
    some true

end Go.Proofs.Ythopbnohgifehaa.Ab
