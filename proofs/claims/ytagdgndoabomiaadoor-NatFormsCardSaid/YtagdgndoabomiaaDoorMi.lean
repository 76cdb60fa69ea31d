/- The functions in plain Lean. Conditions: none. -/
import Derived.Test.YtagdgndoabomiaaDoorAb29
import Derived.Test.YtagdgndoabomiaaDoorIm
set_option maxRecDepth 100000
namespace Go.Proofs.YtagdgndoabomiaaDoor.Ab
open Go
attribute [local irreducible] AL AD AW

noncomputable section


def m_slices_IndexFunc_nat_Nat_int_L1 (n : Nat) (a1 : (List Int)) (p2 : Int → Option Bool) (s3 : Int) : Option (Int ⊕ (Int ⊕ Unit)) :=
  if (decide (s3 < (a1.length : Int))) = true then
    (ix a1 s3).bind fun v4 =>
    (p2 v4).bind fun v5 =>
    if v5 = true then
      some (.inr (.inl s3))
    else
    some (.inl (IntKind.i64.wrap (s3 + (1 : Int))))
  else
  some (.inr (.inr ()))

/-- slices.IndexFunc[bookplate/nat.Nat,int] -/
def m_slices_IndexFunc_nat_Nat_int (n : Nat) (a1 : (List Int)) (p2 : Int → Option Bool) : Option Int :=
  (iter n (fun s => m_slices_IndexFunc_nat_Nat_int_L1 n a1 p2 s) (0 : Int)).bind fun t3 => match t3 with
  | (.inl u4) =>
    some u4
  | (.inr u5) =>
    some (-1 : Int)

/-- slices.ContainsFunc[bookplate/nat.Nat,int] -/
def m_slices_ContainsFunc_nat_Nat_int (n : Nat) (a1 : (List Int)) (p2 : Int → Option Bool) : Option Bool :=
  (m_slices_IndexFunc_nat_Nat_int n a1 p2).bind fun v3 =>
  some (decide ((0 : Int) ≤ v3))

/-- bookplate/nat.Valid$1 -/
def m_nat_Valid_1 (n : Nat) (a1 : Int) : Option Bool :=
  some ((decide (a1 < (0 : Int))) || (decide ((65536 : Int) ≤ a1)))

/-- bookplate/nat.Valid -/
def m_nat_Valid (n : Nat) (a1 : (List Int)) : Option Bool :=
  ((if (!(decide ((128 : Int) < (a1.length : Int)))) = true then m_slices_ContainsFunc_nat_Nat_int n a1 (fun y1 => m_nat_Valid_1 n y1) else some default)).bind fun v2 =>
  if ((decide ((128 : Int) < (a1.length : Int))) || v2) = true then
    some false
  else
  ((if (!(decide ((a1.length : Int) = (0 : Int)))) = true then ix a1 (IntKind.i64.wrap ((a1.length : Int) - (1 : Int))) else some default)).bind fun v3 =>
  some ((decide ((a1.length : Int) = (0 : Int))) || (!decide (v3 = (0 : Int))))

/-- cmp.isNaN[int] -/
def m_cmp_isNaN_int (n : Nat) (a1 : Int) : Option Bool :=
  some (!decide (a1 = a1))

/-- cmp.Compare[int] -/
def m_cmp_Compare_int (n : Nat) (a1 : Int) (a2 : Int) : Option Int :=
  (m_cmp_isNaN_int n a1).bind fun v3 =>
  (m_cmp_isNaN_int n a2).bind fun v4 =>
  if v3 = true then
    if v4 = true then
      some (0 : Int)
    else
    some (-1 : Int)
  else
  if v4 = true then
    some (1 : Int)
  else
  if (decide (a1 < a2)) = true then
    some (-1 : Int)
  else
  if (decide (a2 < a1)) = true then
    some (1 : Int)
  else
  some (0 : Int)

def m_nat_compare_L1 (n : Nat) (a1 : (List Int)) (a2 : (List Int)) (s4 : Int) : Option (Int ⊕ (Int ⊕ Unit)) :=
  if (decide (s4 < (a1.length : Int))) = true then
    (ix a1 (IntKind.i64.wrap ((IntKind.i64.wrap ((a1.length : Int) - (1 : Int))) - s4))).bind fun v5 =>
    (ix a2 (IntKind.i64.wrap ((IntKind.i64.wrap ((a1.length : Int) - (1 : Int))) - s4))).bind fun v6 =>
    if (!decide (v5 = v6)) = true then
      (ix a1 (IntKind.i64.wrap ((IntKind.i64.wrap ((a1.length : Int) - (1 : Int))) - s4))).bind fun v7 =>
      (ix a2 (IntKind.i64.wrap ((IntKind.i64.wrap ((a1.length : Int) - (1 : Int))) - s4))).bind fun v8 =>
      (m_cmp_Compare_int n v7 v8).bind fun v9 =>
      some (.inr (.inl v9))
    else
    some (.inl (IntKind.i64.wrap (s4 + (1 : Int))))
  else
  some (.inr (.inr ()))

/-- bookplate/nat.compare -/
def m_nat_compare (n : Nat) (a1 : (List Int)) (a2 : (List Int)) : Option Int :=
  if (!decide ((a1.length : Int) = (a2.length : Int))) = true then
    (m_cmp_Compare_int n (a1.length : Int) (a2.length : Int)).bind fun v3 =>
    some v3
  else
  (iter n (fun s => m_nat_compare_L1 n a1 a2 s) (0 : Int)).bind fun t4 => match t4 with
  | (.inl u5) =>
    some u5
  | (.inr u6) =>
    some (0 : Int)

/-- bookplate/nat.Compare -/
def m_nat_Compare (n : Nat) (a1 : (List Int)) (a2 : (List Int)) : Option Int :=
  (m_nat_Valid n a1).bind fun v3 =>
  ((if (!(!v3)) = true then m_nat_Valid n a2 else some default)).bind fun v4 =>
  if ((!v3) || (!v4)) = true then
    some (0 : Int)
  else
  (m_nat_compare n a1 a2).bind fun v5 =>
  some v5

/-- bookplate/nat.digit -/
def m_nat_digit (n : Nat) (a1 : (List Int)) (a2 : Int) : Option Int :=
  if (decide (a2 < (a1.length : Int))) = true then
    (ix a1 a2).bind fun v3 =>
    some v3
  else
  some (0 : Int)

def m_nat_trimmed_f2_L1 (n : Nat) (s2 : (List Int)) : Option ((List Int) ⊕ (List Int)) :=
  ((if (decide ((0 : Int) < (s2.length : Int))) = true then ix s2 (IntKind.i64.wrap ((s2.length : Int) - (1 : Int))) else some default)).bind fun v3 =>
  ((if (decide ((0 : Int) < (s2.length : Int))) = true then ix s2 (IntKind.i64.wrap ((s2.length : Int) - (1 : Int))) else some default)).bind fun v4 =>
  if ((decide ((0 : Int) < (s2.length : Int))) && (decide (v4 = (0 : Int)))) = true then
    (slc s2 (0 : Int) (IntKind.i64.wrap ((s2.length : Int) - (1 : Int)))).bind fun v5 =>
    some (.inl v5)
  else
  some (.inr s2)

/-- bookplate/nat.trimmed -/
def m_nat_trimmed_f2 (n : Nat) (c1 : (List Int)) : Option (List Int) :=
  (iter n (fun s => m_nat_trimmed_f2_L1 n s) c1).bind fun t2 =>
  some t2

def m_nat_minus_L1 (n : Nat) (a1 : (List Int)) (a2 : (List Int)) (s4 : Int) (s5 : Int) (s6 : (List Int)) : Option ((Int × Int × (List Int)) ⊕ (List Int)) :=
  if (decide (s5 < (a1.length : Int))) = true then
    (ix a1 s5).bind fun v7 =>
    (m_nat_digit n a2 s5).bind fun v8 =>
    (
      if (decide ((IntKind.i64.wrap ((IntKind.i64.wrap (v7 - v8)) - s4)) < (0 : Int))) = true then
        some ((1 : Int), (IntKind.i64.wrap ((IntKind.i64.wrap ((IntKind.i64.wrap (v7 - v8)) - s4)) + (65536 : Int))))
      else
      some ((0 : Int), (IntKind.i64.wrap ((IntKind.i64.wrap (v7 - v8)) - s4))) : Option (Int × Int)).bind fun t9 =>
    (ix s6 s5).bind fun v10 =>
    (setI s6 s5 t9.2).bind fun v11 =>
    some (.inl (t9.1, (IntKind.i64.wrap (s5 + (1 : Int))), v11))
  else
  some (.inr s6)

/-- bookplate/nat.minus -/
def m_nat_minus (n : Nat) (a1 : (List Int)) (a2 : (List Int)) : Option (List Int) :=
  (mkL 8 (a1.length : Int) ((0 : Int) : Int)).bind fun v3 =>
  (iter n (fun s => m_nat_minus_L1 n a1 a2 s.1 s.2.1 s.2.2) ((0 : Int), (0 : Int), v3)).bind fun t4 =>
  (m_nat_trimmed_f2 n t4).bind fun v5 =>
  some v5



def m_nat_times_L2 (n : Nat) (a2 : (List Int)) (s4 : Int) (v6 : Int) (s7 : Int) (s8 : Int) (s9 : (List Int)) : Option ((Int × Int × (List Int)) ⊕ (Int × (List Int))) :=
  if (decide (s8 < (a2.length : Int))) = true then
    (ix s9 (IntKind.i64.wrap (s4 + s8))).bind fun v10 =>
    (ix s9 (IntKind.i64.wrap (s4 + s8))).bind fun v11 =>
    (ix a2 s8).bind fun v12 =>
    (rem (IntKind.i64.wrap (s7 + (IntKind.i64.wrap (v11 + (IntKind.i64.wrap (v6 * v12)))))) (65536 : Int)).bind fun v13 =>
    (ix s9 (IntKind.i64.wrap (s4 + s8))).bind fun v14 =>
    (setI s9 (IntKind.i64.wrap (s4 + s8)) v13).bind fun v15 =>
    (quo .i64 (IntKind.i64.wrap (s7 + (IntKind.i64.wrap (v11 + (IntKind.i64.wrap (v6 * v12)))))) (65536 : Int)).bind fun v16 =>
    some (.inl (v16, (IntKind.i64.wrap (s8 + (1 : Int))), v15))
  else
  some (.inr (s7, s9))

def m_nat_times_L1 (n : Nat) (a1 : (List Int)) (a2 : (List Int)) (s4 : Int) (s5 : (List Int)) : Option ((Int × (List Int)) ⊕ (List Int)) :=
  if (decide (s4 < (a1.length : Int))) = true then
    (ix a1 s4).bind fun v6 =>
    (iter n (fun s => m_nat_times_L2 n a2 s4 v6 s.1 s.2.1 s.2.2) ((0 : Int), (0 : Int), s5)).bind fun t7 =>
    (ix t7.2 (IntKind.i64.wrap (s4 + (a2.length : Int)))).bind fun v8 =>
    (setI t7.2 (IntKind.i64.wrap (s4 + (a2.length : Int))) t7.1).bind fun v9 =>
    some (.inl ((IntKind.i64.wrap (s4 + (1 : Int))), v9))
  else
  some (.inr s5)

/-- bookplate/nat.times -/
def m_nat_times (n : Nat) (a1 : (List Int)) (a2 : (List Int)) : Option (List Int) :=
  (mkL 8 (IntKind.i64.wrap ((a1.length : Int) + (a2.length : Int))) ((0 : Int) : Int)).bind fun v3 =>
  (iter n (fun s => m_nat_times_L1 n a1 a2 s.1 s.2) ((0 : Int), v3)).bind fun t4 =>
  (m_nat_trimmed_f2 n t4).bind fun v5 =>
  some v5

/-- slices.Clone[bookplate/nat.Nat,int] -/
def m_slices_Clone_nat_Nat_int (n : Nat) (a1 : (List Int)) : Option (List Int) :=
  (app 8 ([] : List Int) a1).bind fun v2 =>
  some v2

/-- slices.Insert -/
def m_slices_Insert_nat_Nat_int (_n : Nat) (c1 : List Int) (a2 : Int) (a3 : List Int) : Option (List Int) := insL 8 c1 a2 a3

def m_nat_quotient_f2_L1 (n : Nat) (c1 : (List Int)) (a2 : (List Int)) (s3 : Int) (s4 : Int) : Option ((Int × Int) ⊕ Int) :=
  if (decide ((1 : Int) < (IntKind.i64.wrap (s4 - s3)))) = true then
    (quo .i64 (IntKind.i64.wrap (s3 + s4)) (2 : Int)).bind fun v5 =>
    (m_nat_times n a2 ([v5] : List Int)).bind fun v6 =>
    (m_nat_compare n v6 c1).bind fun v7 =>
    if (decide (v7 ≤ (0 : Int))) = true then
      some (.inl (v5, s4))
    else
    some (.inl (s3, v5))
  else
  some (.inr s3)

/-- bookplate/nat.quotient -/
def m_nat_quotient_f2 (n : Nat) (c1 : (List Int)) (a2 : (List Int)) : Option (Int × (List Int)) :=
  (iter n (fun s => m_nat_quotient_f2_L1 n c1 a2 s.1 s.2) ((0 : Int), (65536 : Int))).bind fun t3 =>
  if (decide (t3 = (0 : Int))) = true then
    some ((0 : Int), c1)
  else
  (m_nat_times n a2 ([t3] : List Int)).bind fun v4 =>
  (m_nat_minus n c1 v4).bind fun v5 =>
  some (t3, v5)

def m_nat_divide_L1 (n : Nat) (a1 : (List Int)) (a2 : (List Int)) (s6 : Int) (s7 : (List Int)) (s8 : (List Int)) : Option ((Int × (List Int) × (List Int)) ⊕ ((List Int) × (List Int))) :=
  if (decide (s6 < (max (IntKind.i64.wrap ((IntKind.i64.wrap ((a1.length : Int) - (a2.length : Int))) + (1 : Int))) (0 : Int)))) = true then
    (ix a1 (IntKind.i64.wrap ((IntKind.i64.wrap ((max (IntKind.i64.wrap ((IntKind.i64.wrap ((a1.length : Int) - (a2.length : Int))) + (1 : Int))) (0 : Int)) - (1 : Int))) - s6))).bind fun v9 =>
    (m_slices_Insert_nat_Nat_int n s8 (0 : Int) ([v9] : List Int)).bind fun v10 =>
    (m_nat_trimmed_f2 n v10).bind fun v11 =>
    (m_nat_quotient_f2 n v11 a2).bind fun v12 =>
    (ix s7 (IntKind.i64.wrap ((IntKind.i64.wrap ((max (IntKind.i64.wrap ((IntKind.i64.wrap ((a1.length : Int) - (a2.length : Int))) + (1 : Int))) (0 : Int)) - (1 : Int))) - s6))).bind fun v13 =>
    (setI s7 (IntKind.i64.wrap ((IntKind.i64.wrap ((max (IntKind.i64.wrap ((IntKind.i64.wrap ((a1.length : Int) - (a2.length : Int))) + (1 : Int))) (0 : Int)) - (1 : Int))) - s6)) v12.1).bind fun v14 =>
    some (.inl ((IntKind.i64.wrap (s6 + (1 : Int))), v14, v12.2))
  else
  some (.inr (s7, s8))

/-- bookplate/nat.divide -/
def m_nat_divide (n : Nat) (a1 : (List Int)) (a2 : (List Int)) : Option ((List Int) × (List Int)) :=
  (mkL 8 (max (IntKind.i64.wrap ((IntKind.i64.wrap ((a1.length : Int) - (a2.length : Int))) + (1 : Int))) (0 : Int)) ((0 : Int) : Int)).bind fun v3 =>
  (slc a1 (max (IntKind.i64.wrap ((IntKind.i64.wrap ((a1.length : Int) - (a2.length : Int))) + (1 : Int))) (0 : Int)) (a1.length : Int)).bind fun v4 =>
  (m_slices_Clone_nat_Nat_int n v4).bind fun v5 =>
  (iter n (fun s => m_nat_divide_L1 n a1 a2 s.1 s.2.1 s.2.2) ((0 : Int), v3, v5)).bind fun t6 =>
  (m_nat_trimmed_f2 n t6.1).bind fun v7 =>
  (m_nat_trimmed_f2 n t6.2).bind fun v8 =>
  some (v7, v8)

/-- bookplate/nat.Divide -/
def m_nat_Divide (n : Nat) (a1 : (List Int)) (a2 : (List Int)) : Option ((List Int) × (List Int) × Int) :=
  (m_nat_Valid n a1).bind fun v3 =>
  ((if (!(!v3)) = true then m_nat_Valid n a2 else some default)).bind fun v4 =>
  if (((!v3) || (!v4)) || (decide ((a2.length : Int) = (0 : Int)))) = true then
    some ([], [], (1 : Int))
  else
  (m_nat_divide n a1 a2).bind fun v5 =>
  some (v5.1, v5.2, (0 : Int))



def m_nat_small_L1 (n : Nat) (s2 : Int) (s3 : (List Int)) : Option ((Int × (List Int)) ⊕ (List Int)) :=
  if (decide ((0 : Int) < s2)) = true then
    (rem s2 (65536 : Int)).bind fun v4 =>
    (app 8 s3 ([v4] : List Int)).bind fun v5 =>
    (quo .i64 s2 (65536 : Int)).bind fun v6 =>
    some (.inl (v6, v5))
  else
  some (.inr s3)

/-- bookplate/nat.small -/
def m_nat_small (n : Nat) (a1 : Int) : Option (List Int) :=
  (iter n (fun s => m_nat_small_L1 n s.1 s.2) (a1, [])).bind fun t2 =>
  some t2

/-- bookplate/nat.Of -/
def m_nat_Of (n : Nat) (a1 : Int) : Option ((List Int) × Int) :=
  if (decide (a1 < (0 : Int))) = true then
    some ([], (2 : Int))
  else
  (m_nat_small n a1).bind fun v2 =>
  some (v2, (0 : Int))

/-- math/bits.Len64 -/
def m_math_bits_Len64 (n : Nat) (a1 : Int) : Option Int :=
  (
    if (decide ((4294967296 : Int) ≤ a1)) = true then
      (shrM .u64 a1 (32 : Int)).bind fun v2 =>
      some (v2, (32 : Int))
    else
    some (a1, (0 : Int)) : Option (Int × Int)).bind fun t3 =>
  (
    if (decide ((65536 : Int) ≤ t3.1)) = true then
      (shrM .u64 t3.1 (16 : Int)).bind fun v4 =>
      some (v4, (IntKind.i64.wrap (t3.2 + (16 : Int))))
    else
    some (t3.1, t3.2) : Option (Int × Int)).bind fun t5 =>
  (
    if (decide ((256 : Int) ≤ t5.1)) = true then
      (shrM .u64 t5.1 (8 : Int)).bind fun v6 =>
      some (v6, (IntKind.i64.wrap (t5.2 + (8 : Int))))
    else
    some (t5.1, t5.2) : Option (Int × Int)).bind fun t7 =>
  (ixS ([0, 1, 2, 2, 3, 3, 3, 3, 4, 4, 4, 4, 4, 4, 4, 4, 5, 5, 5, 5, 5, 5, 5, 5, 5, 5, 5, 5, 5, 5, 5, 5, 6, 6, 6, 6, 6, 6, 6, 6, 6, 6, 6, 6, 6, 6, 6, 6, 6, 6, 6, 6, 6, 6, 6, 6, 6, 6, 6, 6, 6, 6, 6, 6, 7, 7, 7, 7, 7, 7, 7, 7, 7, 7, 7, 7, 7, 7, 7, 7, 7, 7, 7, 7, 7, 7, 7, 7, 7, 7, 7, 7, 7, 7, 7, 7, 7, 7, 7, 7, 7, 7, 7, 7, 7, 7, 7, 7, 7, 7, 7, 7, 7, 7, 7, 7, 7, 7, 7, 7, 7, 7, 7, 7, 7, 7, 7, 7, 8, 8, 8, 8, 8, 8, 8, 8, 8, 8, 8, 8, 8, 8, 8, 8, 8, 8, 8, 8, 8, 8, 8, 8, 8, 8, 8, 8, 8, 8, 8, 8, 8, 8, 8, 8, 8, 8, 8, 8, 8, 8, 8, 8, 8, 8, 8, 8, 8, 8, 8, 8, 8, 8, 8, 8, 8, 8, 8, 8, 8, 8, 8, 8, 8, 8, 8, 8, 8, 8, 8, 8, 8, 8, 8, 8, 8, 8, 8, 8, 8, 8, 8, 8, 8, 8, 8, 8, 8, 8, 8, 8, 8, 8, 8, 8, 8, 8, 8, 8, 8, 8, 8, 8, 8, 8, 8, 8, 8, 8, 8, 8, 8, 8, 8, 8, 8, 8, 8, 8, 8, 8, 8, 8, 8, 8, 8, 8] : List UInt8) (IntKind.u8.wrap t7.1)).bind fun v8 =>
  some (IntKind.i64.wrap (t7.2 + (IntKind.i64.wrap v8)))

/-- math/bits.Len -/
def m_math_bits_Len (n : Nat) (a1 : Int) : Option Int :=
  (m_math_bits_Len64 n a1).bind fun v2 =>
  some v2

/-- bookplate/nat.Bits -/
def m_nat_Bits (n : Nat) (a1 : (List Int)) : Option Int :=
  (m_nat_Valid n a1).bind fun v2 =>
  if ((!v2) || (decide ((a1.length : Int) = (0 : Int)))) = true then
    some (0 : Int)
  else
  (ix a1 (IntKind.i64.wrap ((a1.length : Int) - (1 : Int)))).bind fun v3 =>
  (m_math_bits_Len n (IntKind.u64.wrap v3)).bind fun v4 =>
  some (IntKind.i64.wrap ((IntKind.i64.wrap ((16 : Int) * (IntKind.i64.wrap ((a1.length : Int) - (1 : Int))))) + v4))

def m_nat_Power_L1 (n : Nat) (a1 : (List Int)) (a2 : Int) (s4 : (List Int)) (s5 : Int) : Option (((List Int) × Int) ⊕ (((List Int) × Int) ⊕ (List Int))) :=
  if (decide (s5 < a2)) = true then
    (m_nat_times n s4 a1).bind fun v6 =>
    if (decide ((128 : Int) < (v6.length : Int))) = true then
      some (.inr (.inl ([], (3 : Int))))
    else
    some (.inl (v6, (IntKind.i64.wrap (s5 + (1 : Int)))))
  else
  some (.inr (.inr s4))

/-- bookplate/nat.Power -/
def m_nat_Power (n : Nat) (a1 : (List Int)) (a2 : Int) : Option ((List Int) × Int) :=
  (m_nat_Valid n a1).bind fun v3 =>
  if (!v3) = true then
    some ([], (1 : Int))
  else
  if ((decide (a2 < (0 : Int))) || (decide ((1000 : Int) < a2))) = true then
    some ([], (2 : Int))
  else
  (iter n (fun s => m_nat_Power_L1 n a1 a2 s.1 s.2) (([(1 : Int)] : List Int), (0 : Int))).bind fun t4 => match t4 with
  | (.inl u5) =>
    some u5
  | (.inr u6) =>
    some (u6, (0 : Int))

def m_nat_Show_L2 (n : Nat) (v5 : ((List Int) × (List Int))) (s8 : (List UInt8)) : Option ((List UInt8) ⊕ (List UInt8)) :=
  if ((decide ((0 : Int) < (v5.1.length : Int))) && (decide ((s8.length : Int) < (4 : Int)))) = true then
    (appS ([48] : List UInt8) s8).bind fun v9 =>
    some (.inl v9)
  else
  some (.inr s8)

def m_nat_Show_L1 (n : Nat) (s3 : (List UInt8)) (s4 : (List Int)) : Option (((List UInt8) × (List Int)) ⊕ (List UInt8)) :=
  if (decide ((0 : Int) < (s4.length : Int))) = true then
    (m_nat_divide n s4 ([(10000 : Int)] : List Int)).bind fun v5 =>
    (m_nat_digit n v5.2 (0 : Int)).bind fun v6 =>
    (itoaM v6).bind fun v7 =>
    (iter n (fun s => m_nat_Show_L2 n v5 s) v7).bind fun t8 =>
    (appS t8 s3).bind fun v9 =>
    some (.inl (v9, v5.1))
  else
  some (.inr s3)

/-- bookplate/nat.Show -/
def m_nat_Show (n : Nat) (a1 : (List Int)) : Option ((List UInt8) × Int) :=
  (m_nat_Valid n a1).bind fun v2 =>
  if (!v2) = true then
    some (([] : List UInt8), (1 : Int))
  else
  if (decide ((a1.length : Int) = (0 : Int))) = true then
    some (([48] : List UInt8), (0 : Int))
  else
  (iter n (fun s => m_nat_Show_L1 n s.1 s.2) (([] : List UInt8), a1)).bind fun t3 =>
  some (t3, (0 : Int))



def m_ref03_Valid_L1 (n : Nat) (a1 : (List Int)) (s2 : Int) : Option (Int ⊕ (Bool ⊕ Unit)) :=
  if (decide (s2 < (a1.length : Int))) = true then
    (ix a1 s2).bind fun v3 =>
    ((if (!(decide (v3 < (0 : Int)))) = true then ix a1 s2 else some default)).bind fun v4 =>
    if ((decide (v3 < (0 : Int))) || (decide ((65536 : Int) ≤ v4))) = true then
      some (.inr (.inl false))
    else
    some (.inl (IntKind.i64.wrap (s2 + (1 : Int))))
  else
  some (.inr (.inr ()))

/-- bookplate/bookplateref03.Valid -/
def m_ref03_Valid (n : Nat) (a1 : (List Int)) : Option Bool :=
  (iter n (fun s => m_ref03_Valid_L1 n a1 s) (0 : Int)).bind fun t2 => match t2 with
  | (.inl u3) =>
    some u3
  | (.inr u4) =>
    ((if ((decide ((a1.length : Int) ≤ (128 : Int))) && (!(decide ((a1.length : Int) = (0 : Int))))) = true then ix a1 (IntKind.i64.wrap ((a1.length : Int) - (1 : Int))) else some default)).bind fun v5 =>
    some ((decide ((a1.length : Int) ≤ (128 : Int))) && ((decide ((a1.length : Int) = (0 : Int))) || (!decide (v5 = (0 : Int)))))

def m_ref03_Of_L1 (n : Nat) (s2 : Int) (s3 : (List Int)) : Option ((Int × (List Int)) ⊕ (List Int)) :=
  if (decide ((0 : Int) < s2)) = true then
    (rem s2 (65536 : Int)).bind fun v4 =>
    (app 8 s3 ([v4] : List Int)).bind fun v5 =>
    (quo .i64 s2 (65536 : Int)).bind fun v6 =>
    some (.inl (v6, v5))
  else
  some (.inr s3)

/-- bookplate/bookplateref03.Of -/
def m_ref03_Of (n : Nat) (a1 : Int) : Option ((List Int) × Int) :=
  if (decide (a1 < (0 : Int))) = true then
    some ([], (2 : Int))
  else
  (iter n (fun s => m_ref03_Of_L1 n s.1 s.2) (a1, [])).bind fun t2 =>
  some (t2, (0 : Int))

def m_ref03_compare_L1 (n : Nat) (a1 : (List Int)) (a2 : (List Int)) (s3 : Int) : Option (Int ⊕ (Int ⊕ Unit)) :=
  if (decide ((0 : Int) ≤ s3)) = true then
    (ix a1 s3).bind fun v4 =>
    (ix a2 s3).bind fun v5 =>
    if (decide (v4 < v5)) = true then
      some (.inr (.inl (-1 : Int)))
    else
    (ix a1 s3).bind fun v6 =>
    (ix a2 s3).bind fun v7 =>
    if (decide (v7 < v6)) = true then
      some (.inr (.inl (1 : Int)))
    else
    some (.inl (IntKind.i64.wrap (s3 - (1 : Int))))
  else
  some (.inr (.inr ()))

/-- bookplate/bookplateref03.compare -/
def m_ref03_compare (n : Nat) (a1 : (List Int)) (a2 : (List Int)) : Option Int :=
  if (!decide ((a1.length : Int) = (a2.length : Int))) = true then
    if (decide ((a1.length : Int) < (a2.length : Int))) = true then
      some (-1 : Int)
    else
    some (1 : Int)
  else
  (iter n (fun s => m_ref03_compare_L1 n a1 a2 s) (IntKind.i64.wrap ((a1.length : Int) - (1 : Int)))).bind fun t3 => match t3 with
  | (.inl u4) =>
    some u4
  | (.inr u5) =>
    some (0 : Int)

/-- bookplate/bookplateref03.Compare -/
def m_ref03_Compare (n : Nat) (a1 : (List Int)) (a2 : (List Int)) : Option Int :=
  (m_ref03_Valid n a1).bind fun v3 =>
  ((if (!(!v3)) = true then m_ref03_Valid n a2 else some default)).bind fun v4 =>
  if ((!v3) || (!v4)) = true then
    some (0 : Int)
  else
  (m_ref03_compare n a1 a2).bind fun v5 =>
  some v5

def m_ref03_Bits_L1 (n : Nat) (s4 : Int) (s5 : Int) : Option ((Int × Int) ⊕ Int) :=
  if (decide ((0 : Int) < s5)) = true then
    (quo .i64 s5 (2 : Int)).bind fun v6 =>
    some (.inl ((IntKind.i64.wrap (s4 + (1 : Int))), v6))
  else
  some (.inr s4)

/-- bookplate/bookplateref03.Bits -/
def m_ref03_Bits (n : Nat) (a1 : (List Int)) : Option Int :=
  (m_ref03_Valid n a1).bind fun v2 =>
  if ((!v2) || (decide ((a1.length : Int) = (0 : Int)))) = true then
    some (0 : Int)
  else
  (ix a1 (IntKind.i64.wrap ((a1.length : Int) - (1 : Int)))).bind fun v3 =>
  (iter n (fun s => m_ref03_Bits_L1 n s.1 s.2) ((IntKind.i64.wrap ((16 : Int) * (IntKind.i64.wrap ((a1.length : Int) - (1 : Int))))), v3)).bind fun t4 =>
  some t4

def m_ref03_Int_L1 (n : Nat) (a1 : (List Int)) (s4 : Int) (s5 : Int) : Option ((Int × Int) ⊕ Int) :=
  if (decide ((0 : Int) ≤ s5)) = true then
    (ix a1 s5).bind fun v6 =>
    some (.inl ((IntKind.i64.wrap ((IntKind.i64.wrap (s4 * (65536 : Int))) + v6)), (IntKind.i64.wrap (s5 - (1 : Int)))))
  else
  some (.inr s4)

/-- bookplate/bookplateref03.Int -/
def m_ref03_Int (n : Nat) (a1 : (List Int)) : Option (Int × Int) :=
  (m_ref03_Valid n a1).bind fun v2 =>
  if (!v2) = true then
    some ((0 : Int), (1 : Int))
  else
  (m_ref03_Bits n a1).bind fun v3 =>
  if (decide ((63 : Int) < v3)) = true then
    some ((0 : Int), (2 : Int))
  else
  (iter n (fun s => m_ref03_Int_L1 n a1 s.1 s.2) ((0 : Int), (IntKind.i64.wrap ((a1.length : Int) - (1 : Int))))).bind fun t4 =>
  if (decide ((4611686018427387904 : Int) < t4)) = true then
    some ((0 : Int), (2 : Int))
  else
  some (t4, (0 : Int))

def m_ref03_Same_L1 (n : Nat) (a1 : (List Int)) (a2 : (List Int)) (s3 : Int) : Option (Int ⊕ (Bool ⊕ Unit)) :=
  if (decide (s3 < (a1.length : Int))) = true then
    (ix a1 s3).bind fun v4 =>
    (ix a2 s3).bind fun v5 =>
    if (!decide (v4 = v5)) = true then
      some (.inr (.inl false))
    else
    some (.inl (IntKind.i64.wrap (s3 + (1 : Int))))
  else
  some (.inr (.inr ()))

/-- bookplate/bookplateref03.Same -/
def m_ref03_Same (n : Nat) (a1 : (List Int)) (a2 : (List Int)) : Option Bool :=
  if (!decide ((a1.length : Int) = (a2.length : Int))) = true then
    some false
  else
  (iter n (fun s => m_ref03_Same_L1 n a1 a2 s) (0 : Int)).bind fun t3 => match t3 with
  | (.inl u4) =>
    some u4
  | (.inr u5) =>
    some true

/-- bookplate/bookplateref03.Few -/
def m_ref03_Few (n : Nat) (a1 : (List Int)) : Option Bool :=
  some ((decide ((a1.length : Int) ≤ (40 : Int))) || ((decide ((128 : Int) < (a1.length : Int))) && (decide ((a1.length : Int) ≤ (140 : Int)))))

/-- bookplate/bookplatelaw03.few -/
def m_law03_few (n : Nat) (a1 : (List Int)) (a2 : (List Int)) : Option Bool :=
  (m_ref03_Few n a1).bind fun v3 =>
  ((if v3 = true then m_ref03_Few n a2 else some default)).bind fun v4 =>
  some (v3 && v4)

/-- bookplate/bookplatelaw03.awake -/
def m_law03_awake (n : Nat) : Option Bool :=
  (m_nat_Of n (65536 : Int)).bind fun v1 =>
  (m_nat_Power n ([(1000 : Int)] : List Int) (3 : Int)).bind fun v2 =>
  (m_nat_Show n v2.1).bind fun v3 =>
  (m_nat_Divide n ([(34464 : Int), (1 : Int)] : List Int) ([(7 : Int)] : List Int)).bind fun v4 =>
  ((if ((((decide (v1.2 = (0 : Int))) && (decide (v2.2 = (0 : Int)))) && (decide (v3.2 = (0 : Int)))) && (decide (v4.2.2 = (0 : Int)))) = true then m_ref03_Same n v1.1 ([(0 : Int), (1 : Int)] : List Int) else some default)).bind fun v5 =>
  ((if ((((((decide (v1.2 = (0 : Int))) && (decide (v2.2 = (0 : Int)))) && (decide (v3.2 = (0 : Int)))) && (decide (v4.2.2 = (0 : Int)))) && v5) && (decide (v3.1 = ([49, 48, 48, 48, 48, 48, 48, 48, 48, 48] : List UInt8)))) = true then m_ref03_Same n v4.1 ([(14285 : Int)] : List Int) else some default)).bind fun v6 =>
  ((if (((((((decide (v1.2 = (0 : Int))) && (decide (v2.2 = (0 : Int)))) && (decide (v3.2 = (0 : Int)))) && (decide (v4.2.2 = (0 : Int)))) && v5) && (decide (v3.1 = ([49, 48, 48, 48, 48, 48, 48, 48, 48, 48] : List UInt8)))) && v6) = true then m_ref03_Same n v4.2.1 ([(5 : Int)] : List Int) else some default)).bind fun v7 =>
  ((if ((((((((decide (v1.2 = (0 : Int))) && (decide (v2.2 = (0 : Int)))) && (decide (v3.2 = (0 : Int)))) && (decide (v4.2.2 = (0 : Int)))) && v5) && (decide (v3.1 = ([49, 48, 48, 48, 48, 48, 48, 48, 48, 48] : List UInt8)))) && v6) && v7) = true then m_nat_Valid n [] else some default)).bind fun v8 =>
  some (((((((((decide (v1.2 = (0 : Int))) && (decide (v2.2 = (0 : Int)))) && (decide (v3.2 = (0 : Int)))) && (decide (v4.2.2 = (0 : Int)))) && v5) && (decide (v3.1 = ([49, 48, 48, 48, 48, 48, 48, 48, 48, 48] : List UInt8)))) && v6) && v7) && v8)

/-- bookplate/bookplatelaw03.NatForms -/
def m_law03_NatForms (n : Nat) (a1 : Int) (a2 : (List Int)) (a3 : (List Int)) : Option Bool :=
  (m_law03_awake n).bind fun v4 =>
  ((if (!(!v4)) = true then m_law03_few n a2 a3 else some default)).bind fun v5 =>
  if ((!v4) || (!v5)) = true then
    (m_law03_awake n).bind fun v6 =>
    some v6
  else
  (m_nat_Of n a1).bind fun v7 =>
  (m_ref03_Of n a1).bind fun v8 =>
  (natInt (m_nat_Valid n a2) (m_nat_small n 4611686018427387904) (fun s => m_nat_compare n a2 s) a2).bind fun v9 =>
  (m_ref03_Int n a2).bind fun v10 =>
  (m_ref03_Same n v7.1 v8.1).bind fun v11 =>
  ((if (((v11 && (decide (v7.2 = v8.2))) && (decide (v9.1 = v10.1))) && (decide (v9.2 = v10.2))) = true then m_nat_Valid n a2 else some default)).bind fun v12 =>
  ((if (((v11 && (decide (v7.2 = v8.2))) && (decide (v9.1 = v10.1))) && (decide (v9.2 = v10.2))) = true then m_ref03_Valid n a2 else some default)).bind fun v13 =>
  ((if ((((v11 && (decide (v7.2 = v8.2))) && (decide (v9.1 = v10.1))) && (decide (v9.2 = v10.2))) && (v12 == v13)) = true then m_nat_Compare n a2 a3 else some default)).bind fun v14 =>
  ((if ((((v11 && (decide (v7.2 = v8.2))) && (decide (v9.1 = v10.1))) && (decide (v9.2 = v10.2))) && (v12 == v13)) = true then m_ref03_Compare n a2 a3 else some default)).bind fun v15 =>
  ((if (((((v11 && (decide (v7.2 = v8.2))) && (decide (v9.1 = v10.1))) && (decide (v9.2 = v10.2))) && (v12 == v13)) && (decide (v14 = v15))) = true then m_nat_Bits n a2 else some default)).bind fun v16 =>
  ((if (((((v11 && (decide (v7.2 = v8.2))) && (decide (v9.1 = v10.1))) && (decide (v9.2 = v10.2))) && (v12 == v13)) && (decide (v14 = v15))) = true then m_ref03_Bits n a2 else some default)).bind fun v17 =>
  some ((((((v11 && (decide (v7.2 = v8.2))) && (decide (v9.1 = v10.1))) && (decide (v9.2 = v10.2))) && (v12 == v13)) && (decide (v14 = v15))) && (decide (v16 = v17)))

end
end Go.Proofs.YtagdgndoabomiaaDoor.Ab
