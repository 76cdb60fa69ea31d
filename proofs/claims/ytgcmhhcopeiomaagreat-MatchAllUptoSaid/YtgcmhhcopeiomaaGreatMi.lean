/- The functions in plain Lean. Conditions: none. -/
import Derived.Test.YtgcmhhcopeiomaaGreatAb30
import Derived.Test.YtgcmhhcopeiomaaGreatJm
set_option maxRecDepth 100000
namespace Go.Proofs.YtgcmhhcopeiomaaGreat.Ab
open Go
attribute [local irreducible] AL AD AW

noncomputable section
structure A7 where
  e0 : Int
  e1 : Int
  e2 : Int
  e3 : Int
  e4 : Int
  e5 : Int
  e6 : Int
  deriving Inhabited, DecidableEq
def A7.e (x : A7) : D := .agg [(.int .i64 x.e0), (.int .i64 x.e1), (.int .i64 x.e2), (.int .i64 x.e3), (.int .i64 x.e4), (.int .i64 x.e5), (.int .i64 x.e6)]
def A7.l (x : A7) : List Int := [x.e0, x.e1, x.e2, x.e3, x.e4, x.e5, x.e6]
def A7.put (x : A7) (k : Int) (v : Int) : Option A7 :=
  if k = 0 then some { x with e0 := v } else if k = 1 then some { x with e1 := v } else if k = 2 then some { x with e2 := v } else if k = 3 then some { x with e3 := v } else if k = 4 then some { x with e4 := v } else if k = 5 then some { x with e5 := v } else if k = 6 then some { x with e6 := v } else none
theorem A7.l_inj (x y : A7) (h : x.l = y.l) : x = y := by
  obtain ⟨x0, x1, x2, x3, x4, x5, x6⟩ := x; obtain ⟨y0, y1, y2, y3, y4, y5, y6⟩ := y
  simpa [A7.l] using h
theorem A7.put_l {x y : A7} {k : Int} {v : Int} (h : A7.put x k v = some y) : setI x.l k v = some y.l := by
  unfold A7.put at h
  by_cases h0 : k = 0
  · subst h0; simp at h; subst h; rfl
  rw [if_neg h0] at h
  by_cases h1 : k = 1
  · subst h1; simp at h; subst h; rfl
  rw [if_neg h1] at h
  by_cases h2 : k = 2
  · subst h2; simp at h; subst h; rfl
  rw [if_neg h2] at h
  by_cases h3 : k = 3
  · subst h3; simp at h; subst h; rfl
  rw [if_neg h3] at h
  by_cases h4 : k = 4
  · subst h4; simp at h; subst h; rfl
  rw [if_neg h4] at h
  by_cases h5 : k = 5
  · subst h5; simp at h; subst h; rfl
  rw [if_neg h5] at h
  by_cases h6 : k = 6
  · subst h6; simp at h; subst h; rfl
  rw [if_neg h6] at h
  cases h
structure SFeatures where
  fID : Int
  fTitle : (List (List UInt8))
  fAuthor : (List UInt8)
  fYears : (List Int)
  fIsbns : (List (List UInt8))
  fLangs : (List (List UInt8))
  fPublisher : (List (List UInt8))
  fEdition : (List (List UInt8))
  deriving Inhabited, DecidableEq
def SFeatures.e (x : SFeatures) : D := .agg [(.int .i64 x.fID), (.sl (x.fTitle.map D.str)), (.str x.fAuthor), (.sl (x.fYears.map D.i)), (.sl (x.fIsbns.map D.str)), (.sl (x.fLangs.map D.str)), (.sl (x.fPublisher.map D.str)), (.sl (x.fEdition.map D.str))]
theorem enSFeatures : En SFeatures.e 8 := ⟨fun _ => rfl, fun x y hy => by
  have hy' : y ∈ [((.int .i64 x.fID) : D), ((.sl (x.fTitle.map D.str)) : D), ((.str x.fAuthor) : D), ((.sl (x.fYears.map D.i)) : D), ((.sl (x.fIsbns.map D.str)) : D), ((.sl (x.fLangs.map D.str)) : D), ((.sl (x.fPublisher.map D.str)) : D), ((.sl (x.fEdition.map D.str)) : D)] := hy
  simp only [List.mem_cons, List.not_mem_nil, or_false] at hy'
  rcases hy' with rfl | rfl | rfl | rfl | rfl | rfl | rfl | rfl <;> rfl⟩
structure SRatio where
  fNum : Int
  fDen : Int
  deriving Inhabited, DecidableEq
def SRatio.e (x : SRatio) : D := .agg [(.int .i64 x.fNum), (.int .i64 x.fDen)]
theorem enSRatio : En SRatio.e 2 := ⟨fun _ => rfl, fun x y hy => by
  have hy' : y ∈ [((.int .i64 x.fNum) : D), ((.int .i64 x.fDen) : D)] := hy
  simp only [List.mem_cons, List.not_mem_nil, or_false] at hy'
  rcases hy' with rfl | rfl <;> rfl⟩
structure A3 where
  e0 : SRatio
  e1 : SRatio
  e2 : SRatio
  deriving Inhabited, DecidableEq
def A3.e (x : A3) : D := .agg [(.int .i64 x.e0.fNum), (.int .i64 x.e0.fDen), (.int .i64 x.e1.fNum), (.int .i64 x.e1.fDen), (.int .i64 x.e2.fNum), (.int .i64 x.e2.fDen)]
def A3.l (x : A3) : List SRatio := [x.e0, x.e1, x.e2]
def A3.put (x : A3) (k : Int) (v : SRatio) : Option A3 :=
  if k = 0 then some { x with e0 := v } else if k = 1 then some { x with e1 := v } else if k = 2 then some { x with e2 := v } else none
theorem A3.l_inj (x y : A3) (h : x.l = y.l) : x = y := by
  obtain ⟨x0, x1, x2⟩ := x; obtain ⟨y0, y1, y2⟩ := y
  simpa [A3.l] using h
theorem A3.put_l {x y : A3} {k : Int} {v : SRatio} (h : A3.put x k v = some y) : setI x.l k v = some y.l := by
  unfold A3.put at h
  by_cases h0 : k = 0
  · subst h0; simp at h; subst h; rfl
  rw [if_neg h0] at h
  by_cases h1 : k = 1
  · subst h1; simp at h; subst h; rfl
  rw [if_neg h1] at h
  by_cases h2 : k = 2
  · subst h2; simp at h; subst h; rfl
  rw [if_neg h2] at h
  cases h
theorem enA3 : En A3.e 6 := ⟨fun _ => rfl, fun x y hy => by
  have hy' : y ∈ [((.int .i64 x.e0.fNum) : D), ((.int .i64 x.e0.fDen) : D), ((.int .i64 x.e1.fNum) : D), ((.int .i64 x.e1.fDen) : D), ((.int .i64 x.e2.fNum) : D), ((.int .i64 x.e2.fDen) : D)] := hy
  simp only [List.mem_cons, List.not_mem_nil, or_false] at hy'
  rcases hy' with rfl | rfl | rfl | rfl | rfl | rfl <;> rfl⟩
structure A72 where
  e0 : A3
  e1 : A3
  e2 : A3
  e3 : A3
  e4 : A3
  e5 : A3
  e6 : A3
  deriving Inhabited, DecidableEq
def A72.e (x : A72) : D := .agg [(.int .i64 x.e0.e0.fNum), (.int .i64 x.e0.e0.fDen), (.int .i64 x.e0.e1.fNum), (.int .i64 x.e0.e1.fDen), (.int .i64 x.e0.e2.fNum), (.int .i64 x.e0.e2.fDen), (.int .i64 x.e1.e0.fNum), (.int .i64 x.e1.e0.fDen), (.int .i64 x.e1.e1.fNum), (.int .i64 x.e1.e1.fDen), (.int .i64 x.e1.e2.fNum), (.int .i64 x.e1.e2.fDen), (.int .i64 x.e2.e0.fNum), (.int .i64 x.e2.e0.fDen), (.int .i64 x.e2.e1.fNum), (.int .i64 x.e2.e1.fDen), (.int .i64 x.e2.e2.fNum), (.int .i64 x.e2.e2.fDen), (.int .i64 x.e3.e0.fNum), (.int .i64 x.e3.e0.fDen), (.int .i64 x.e3.e1.fNum), (.int .i64 x.e3.e1.fDen), (.int .i64 x.e3.e2.fNum), (.int .i64 x.e3.e2.fDen), (.int .i64 x.e4.e0.fNum), (.int .i64 x.e4.e0.fDen), (.int .i64 x.e4.e1.fNum), (.int .i64 x.e4.e1.fDen), (.int .i64 x.e4.e2.fNum), (.int .i64 x.e4.e2.fDen), (.int .i64 x.e5.e0.fNum), (.int .i64 x.e5.e0.fDen), (.int .i64 x.e5.e1.fNum), (.int .i64 x.e5.e1.fDen), (.int .i64 x.e5.e2.fNum), (.int .i64 x.e5.e2.fDen), (.int .i64 x.e6.e0.fNum), (.int .i64 x.e6.e0.fDen), (.int .i64 x.e6.e1.fNum), (.int .i64 x.e6.e1.fDen), (.int .i64 x.e6.e2.fNum), (.int .i64 x.e6.e2.fDen)]
def A72.l (x : A72) : List A3 := [x.e0, x.e1, x.e2, x.e3, x.e4, x.e5, x.e6]
def A72.put (x : A72) (k : Int) (v : A3) : Option A72 :=
  if k = 0 then some { x with e0 := v } else if k = 1 then some { x with e1 := v } else if k = 2 then some { x with e2 := v } else if k = 3 then some { x with e3 := v } else if k = 4 then some { x with e4 := v } else if k = 5 then some { x with e5 := v } else if k = 6 then some { x with e6 := v } else none
theorem A72.l_inj (x y : A72) (h : x.l = y.l) : x = y := by
  obtain ⟨x0, x1, x2, x3, x4, x5, x6⟩ := x; obtain ⟨y0, y1, y2, y3, y4, y5, y6⟩ := y
  simpa [A72.l] using h
theorem A72.put_l {x y : A72} {k : Int} {v : A3} (h : A72.put x k v = some y) : setI x.l k v = some y.l := by
  unfold A72.put at h
  by_cases h0 : k = 0
  · subst h0; simp at h; subst h; rfl
  rw [if_neg h0] at h
  by_cases h1 : k = 1
  · subst h1; simp at h; subst h; rfl
  rw [if_neg h1] at h
  by_cases h2 : k = 2
  · subst h2; simp at h; subst h; rfl
  rw [if_neg h2] at h
  by_cases h3 : k = 3
  · subst h3; simp at h; subst h; rfl
  rw [if_neg h3] at h
  by_cases h4 : k = 4
  · subst h4; simp at h; subst h; rfl
  rw [if_neg h4] at h
  by_cases h5 : k = 5
  · subst h5; simp at h; subst h; rfl
  rw [if_neg h5] at h
  by_cases h6 : k = 6
  · subst h6; simp at h; subst h; rfl
  rw [if_neg h6] at h
  cases h
structure A6 where
  e0 : Int
  e1 : Int
  e2 : Int
  e3 : Int
  e4 : Int
  e5 : Int
  deriving Inhabited, DecidableEq
def A6.e (x : A6) : D := .agg [(.int .i64 x.e0), (.int .i64 x.e1), (.int .i64 x.e2), (.int .i64 x.e3), (.int .i64 x.e4), (.int .i64 x.e5)]
def A6.l (x : A6) : List Int := [x.e0, x.e1, x.e2, x.e3, x.e4, x.e5]
def A6.put (x : A6) (k : Int) (v : Int) : Option A6 :=
  if k = 0 then some { x with e0 := v } else if k = 1 then some { x with e1 := v } else if k = 2 then some { x with e2 := v } else if k = 3 then some { x with e3 := v } else if k = 4 then some { x with e4 := v } else if k = 5 then some { x with e5 := v } else none
theorem A6.l_inj (x y : A6) (h : x.l = y.l) : x = y := by
  obtain ⟨x0, x1, x2, x3, x4, x5⟩ := x; obtain ⟨y0, y1, y2, y3, y4, y5⟩ := y
  simpa [A6.l] using h
theorem A6.put_l {x y : A6} {k : Int} {v : Int} (h : A6.put x k v = some y) : setI x.l k v = some y.l := by
  unfold A6.put at h
  by_cases h0 : k = 0
  · subst h0; simp at h; subst h; rfl
  rw [if_neg h0] at h
  by_cases h1 : k = 1
  · subst h1; simp at h; subst h; rfl
  rw [if_neg h1] at h
  by_cases h2 : k = 2
  · subst h2; simp at h; subst h; rfl
  rw [if_neg h2] at h
  by_cases h3 : k = 3
  · subst h3; simp at h; subst h; rfl
  rw [if_neg h3] at h
  by_cases h4 : k = 4
  · subst h4; simp at h; subst h; rfl
  rw [if_neg h4] at h
  by_cases h5 : k = 5
  · subst h5; simp at h; subst h; rfl
  rw [if_neg h5] at h
  cases h
theorem enA6 : En A6.e 6 := ⟨fun _ => rfl, fun x y hy => by
  have hy' : y ∈ [((.int .i64 x.e0) : D), ((.int .i64 x.e1) : D), ((.int .i64 x.e2) : D), ((.int .i64 x.e3) : D), ((.int .i64 x.e4) : D), ((.int .i64 x.e5) : D)] := hy
  simp only [List.mem_cons, List.not_mem_nil, or_false] at hy'
  rcases hy' with rfl | rfl | rfl | rfl | rfl | rfl <;> rfl⟩
structure A73 where
  e0 : A6
  e1 : A6
  e2 : A6
  e3 : A6
  e4 : A6
  e5 : A6
  e6 : A6
  deriving Inhabited, DecidableEq
def A73.e (x : A73) : D := .agg [(.int .i64 x.e0.e0), (.int .i64 x.e0.e1), (.int .i64 x.e0.e2), (.int .i64 x.e0.e3), (.int .i64 x.e0.e4), (.int .i64 x.e0.e5), (.int .i64 x.e1.e0), (.int .i64 x.e1.e1), (.int .i64 x.e1.e2), (.int .i64 x.e1.e3), (.int .i64 x.e1.e4), (.int .i64 x.e1.e5), (.int .i64 x.e2.e0), (.int .i64 x.e2.e1), (.int .i64 x.e2.e2), (.int .i64 x.e2.e3), (.int .i64 x.e2.e4), (.int .i64 x.e2.e5), (.int .i64 x.e3.e0), (.int .i64 x.e3.e1), (.int .i64 x.e3.e2), (.int .i64 x.e3.e3), (.int .i64 x.e3.e4), (.int .i64 x.e3.e5), (.int .i64 x.e4.e0), (.int .i64 x.e4.e1), (.int .i64 x.e4.e2), (.int .i64 x.e4.e3), (.int .i64 x.e4.e4), (.int .i64 x.e4.e5), (.int .i64 x.e5.e0), (.int .i64 x.e5.e1), (.int .i64 x.e5.e2), (.int .i64 x.e5.e3), (.int .i64 x.e5.e4), (.int .i64 x.e5.e5), (.int .i64 x.e6.e0), (.int .i64 x.e6.e1), (.int .i64 x.e6.e2), (.int .i64 x.e6.e3), (.int .i64 x.e6.e4), (.int .i64 x.e6.e5)]
def A73.l (x : A73) : List A6 := [x.e0, x.e1, x.e2, x.e3, x.e4, x.e5, x.e6]
def A73.put (x : A73) (k : Int) (v : A6) : Option A73 :=
  if k = 0 then some { x with e0 := v } else if k = 1 then some { x with e1 := v } else if k = 2 then some { x with e2 := v } else if k = 3 then some { x with e3 := v } else if k = 4 then some { x with e4 := v } else if k = 5 then some { x with e5 := v } else if k = 6 then some { x with e6 := v } else none
theorem A73.l_inj (x y : A73) (h : x.l = y.l) : x = y := by
  obtain ⟨x0, x1, x2, x3, x4, x5, x6⟩ := x; obtain ⟨y0, y1, y2, y3, y4, y5, y6⟩ := y
  simpa [A73.l] using h
theorem A73.put_l {x y : A73} {k : Int} {v : A6} (h : A73.put x k v = some y) : setI x.l k v = some y.l := by
  unfold A73.put at h
  by_cases h0 : k = 0
  · subst h0; simp at h; subst h; rfl
  rw [if_neg h0] at h
  by_cases h1 : k = 1
  · subst h1; simp at h; subst h; rfl
  rw [if_neg h1] at h
  by_cases h2 : k = 2
  · subst h2; simp at h; subst h; rfl
  rw [if_neg h2] at h
  by_cases h3 : k = 3
  · subst h3; simp at h; subst h; rfl
  rw [if_neg h3] at h
  by_cases h4 : k = 4
  · subst h4; simp at h; subst h; rfl
  rw [if_neg h4] at h
  by_cases h5 : k = 5
  · subst h5; simp at h; subst h; rfl
  rw [if_neg h5] at h
  by_cases h6 : k = 6
  · subst h6; simp at h; subst h; rfl
  rw [if_neg h6] at h
  cases h
structure SPair where
  fA : Int
  fB : Int
  deriving Inhabited, DecidableEq
def SPair.e (x : SPair) : D := .agg [(.int .i64 x.fA), (.int .i64 x.fB)]
theorem enSPair : En SPair.e 2 := ⟨fun _ => rfl, fun x y hy => by
  have hy' : y ∈ [((.int .i64 x.fA) : D), ((.int .i64 x.fB) : D)] := hy
  simp only [List.mem_cons, List.not_mem_nil, or_false] at hy'
  rcases hy' with rfl | rfl <;> rfl⟩
structure SWeighted where
  fPair : SPair
  fW : Int
  deriving Inhabited, DecidableEq
def SWeighted.e (x : SWeighted) : D := .agg [(.int .i64 x.fPair.fA), (.int .i64 x.fPair.fB), (.int .i64 x.fW)]
theorem enSWeighted : En SWeighted.e 3 := ⟨fun _ => rfl, fun x y hy => by
  have hy' : y ∈ [((.int .i64 x.fPair.fA) : D), ((.int .i64 x.fPair.fB) : D), ((.int .i64 x.fW) : D)] := hy
  simp only [List.mem_cons, List.not_mem_nil, or_false] at hy'
  rcases hy' with rfl | rfl | rfl <;> rfl⟩

def m_slices_IndexFunc_byte_byte_L1 (_n : Nat) (a1 : (List Int)) (p2 : Int → Option Bool) (s3 : Int) : Option (Int ⊕ (Int ⊕ Unit)) :=
  if (decide (s3 < (a1.length : Int))) = true then
    (ix a1 s3).bind fun v4 =>
    (p2 v4).bind fun v5 =>
    if v5 = true then
      some (.inr (.inl s3))
    else
    some (.inl (IntKind.i64.wrap (s3 + (1 : Int))))
  else
  some (.inr (.inr ()))

/-- slices.IndexFunc[[]byte,byte] -/
def m_slices_IndexFunc_byte_byte (n : Nat) (a1 : (List Int)) (p2 : Int → Option Bool) : Option Int :=
  (iter n (fun s => m_slices_IndexFunc_byte_byte_L1 n a1 p2 s) (0 : Int)).bind fun t3 => match t3 with
  | (.inl u4) =>
    some u4
  | (.inr _u5) =>
    some (-1 : Int)

/-- slices.ContainsFunc[[]byte,byte] -/
def m_slices_ContainsFunc_byte_byte (n : Nat) (a1 : (List Int)) (p2 : Int → Option Bool) : Option Bool :=
  (m_slices_IndexFunc_byte_byte n a1 p2).bind fun v3 =>
  some (decide ((0 : Int) ≤ v3))

/-- bookplate/feature.only$1 -/
def m_feature_only_1 (_n : Nat) (a1 : Int) (c2 : Int) (c3 : Int) : Option Bool :=
  some ((decide (a1 < c2)) || (decide (c3 < a1)))

/-- bookplate/feature.only -/
def m_feature_only (n : Nat) (a1 : (List UInt8)) (a2 : Int) (a3 : Int) : Option Bool :=
  (m_slices_ContainsFunc_byte_byte n (byteL a1) (fun y1 => m_feature_only_1 n y1 a2 a3)).bind fun v4 =>
  some (!v4)

def m_slices_IndexFunc_string_string_L1 (_n : Nat) (a1 : (List (List UInt8))) (p2 : (List UInt8) → Option Bool) (s3 : Int) : Option (Int ⊕ (Int ⊕ Unit)) :=
  if (decide (s3 < (a1.length : Int))) = true then
    (ix a1 s3).bind fun v4 =>
    (p2 v4).bind fun v5 =>
    if v5 = true then
      some (.inr (.inl s3))
    else
    some (.inl (IntKind.i64.wrap (s3 + (1 : Int))))
  else
  some (.inr (.inr ()))

/-- slices.IndexFunc[[]string,string] -/
def m_slices_IndexFunc_string_string (n : Nat) (a1 : (List (List UInt8))) (p2 : (List UInt8) → Option Bool) : Option Int :=
  (iter n (fun s => m_slices_IndexFunc_string_string_L1 n a1 p2 s) (0 : Int)).bind fun t3 => match t3 with
  | (.inl u4) =>
    some u4
  | (.inr _u5) =>
    some (-1 : Int)

/-- slices.ContainsFunc[[]string,string] -/
def m_slices_ContainsFunc_string_string (n : Nat) (a1 : (List (List UInt8))) (p2 : (List UInt8) → Option Bool) : Option Bool :=
  (m_slices_IndexFunc_string_string n a1 p2).bind fun v3 =>
  some (decide ((0 : Int) ≤ v3))

/-- bookplate/feature.word -/
def m_feature_word (n : Nat) (a1 : (List UInt8)) : Option Bool :=
  ((if ((!decide (a1 = ([] : List UInt8))) && (decide ((a1.length : Int) ≤ (400 : Int)))) = true then m_feature_only n a1 (33 : Int) (255 : Int) else some default)).bind fun v2 =>
  some (((!decide (a1 = ([] : List UInt8))) && (decide ((a1.length : Int) ≤ (400 : Int)))) && v2)

/-- bookplate/feature.Valid$1 -/
def m_feature_Valid_1 (n : Nat) (a1 : (List UInt8)) : Option Bool :=
  (m_feature_word n a1).bind fun v2 =>
  some (!v2)

def m_feature_years_L1 (_n : Nat) (a1 : (List Int)) (s2 : Int) : Option (Int ⊕ (Bool ⊕ Unit)) :=
  if (decide (s2 < (a1.length : Int))) = true then
    (ix a1 s2).bind fun v3 =>
    ((if ((!((decide (v3 < (1000 : Int))) || (decide ((2999 : Int) < v3)))) && (decide ((0 : Int) < s2))) = true then ix a1 (IntKind.i64.wrap (s2 - (1 : Int))) else some default)).bind fun v4 =>
    if (((decide (v3 < (1000 : Int))) || (decide ((2999 : Int) < v3))) || ((decide ((0 : Int) < s2)) && (decide (v3 ≤ v4)))) = true then
      some (.inr (.inl false))
    else
    some (.inl (IntKind.i64.wrap (s2 + (1 : Int))))
  else
  some (.inr (.inr ()))

/-- bookplate/feature.years -/
def m_feature_years (n : Nat) (a1 : (List Int)) : Option Bool :=
  (iter n (fun s => m_feature_years_L1 n a1 s) (0 : Int)).bind fun t2 => match t2 with
  | (.inl u3) =>
    some u3
  | (.inr _u4) =>
    some (decide ((a1.length : Int) ≤ (20 : Int)))

def m_feature_set_L1 (_n : Nat) (a1 : (List (List UInt8))) (p3 : (List UInt8) → Option Bool) (s4 : Int) : Option (Int ⊕ (Bool ⊕ Unit)) :=
  if (decide (s4 < (a1.length : Int))) = true then
    (ix a1 s4).bind fun v5 =>
    (p3 v5).bind fun v6 =>
    ((if ((!(!v6)) && (decide ((0 : Int) < s4))) = true then ix a1 (IntKind.i64.wrap (s4 - (1 : Int))) else some default)).bind fun v7 =>
    if ((!v6) || ((decide ((0 : Int) < s4)) && ((ltS v5 v7 || decide (v5 = v7))))) = true then
      some (.inr (.inl false))
    else
    some (.inl (IntKind.i64.wrap (s4 + (1 : Int))))
  else
  some (.inr (.inr ()))

/-- bookplate/feature.set -/
def m_feature_set (n : Nat) (a1 : (List (List UInt8))) (a2 : Int) (p3 : (List UInt8) → Option Bool) : Option Bool :=
  (iter n (fun s => m_feature_set_L1 n a1 p3 s) (0 : Int)).bind fun t4 => match t4 with
  | (.inl u5) =>
    some u5
  | (.inr _u6) =>
    some (decide ((a1.length : Int) ≤ a2))

/-- bookplate/feature.isbn -/
def m_feature_isbn (n : Nat) (a1 : (List UInt8)) : Option Bool :=
  ((if (decide ((a1.length : Int) = (13 : Int))) = true then m_feature_only n a1 (48 : Int) (57 : Int) else some default)).bind fun v2 =>
  some ((decide ((a1.length : Int) = (13 : Int))) && v2)

/-- bookplate/feature.lang -/
def m_feature_lang (n : Nat) (a1 : (List UInt8)) : Option Bool :=
  ((if (decide ((a1.length : Int) = (3 : Int))) = true then m_feature_only n a1 (97 : Int) (122 : Int) else some default)).bind fun v2 =>
  some ((decide ((a1.length : Int) = (3 : Int))) && v2)

/-- bookplate/feature.Valid -/
def m_feature_Valid (n : Nat) (a1 : SFeatures) : Option Bool :=
  ((if (!((((decide (a1.fID < (1 : Int))) || (decide ((1000000000 : Int) < a1.fID))) || (decide ((200 : Int) < (a1.fTitle.length : Int)))) || (decide ((420 : Int) < (a1.fAuthor.length : Int))))) = true then m_feature_only n a1.fAuthor (32 : Int) (255 : Int) else some default)).bind fun v2 =>
  if (((((decide (a1.fID < (1 : Int))) || (decide ((1000000000 : Int) < a1.fID))) || (decide ((200 : Int) < (a1.fTitle.length : Int)))) || (decide ((420 : Int) < (a1.fAuthor.length : Int)))) || (!v2)) = true then
    some false
  else
  ((if (!decide (a1.fAuthor = ([] : List UInt8))) = true then ixS a1.fAuthor (0 : Int) else some default)).bind fun v3 =>
  ((if ((!decide (a1.fAuthor = ([] : List UInt8))) && (!(decide (v3 = (32 : Int))))) = true then ixS a1.fAuthor (IntKind.i64.wrap ((a1.fAuthor.length : Int) - (1 : Int))) else some default)).bind fun v4 =>
  if ((!decide (a1.fAuthor = ([] : List UInt8))) && ((decide (v3 = (32 : Int))) || (decide (v4 = (32 : Int))))) = true then
    some false
  else
  (m_slices_ContainsFunc_string_string n a1.fTitle (fun y1 => m_feature_Valid_1 n y1)).bind fun v5 =>
  if v5 = true then
    some false
  else
  (m_feature_years n a1.fYears).bind fun v6 =>
  ((if v6 = true then m_feature_set n a1.fIsbns (20 : Int) (fun y1 => m_feature_isbn n y1) else some default)).bind fun v7 =>
  ((if (v6 && v7) = true then m_feature_set n a1.fLangs (20 : Int) (fun y1 => m_feature_lang n y1) else some default)).bind fun v8 =>
  ((if ((v6 && v7) && v8) = true then m_feature_set n a1.fPublisher (200 : Int) (fun y1 => m_feature_word n y1) else some default)).bind fun v9 =>
  ((if (((v6 && v7) && v8) && v9) = true then m_feature_set n a1.fEdition (200 : Int) (fun y1 => m_feature_word n y1) else some default)).bind fun v10 =>
  some ((((v6 && v7) && v8) && v9) && v10)

def m_slices_Equal_string_string_L1 (_n : Nat) (a1 : (List (List UInt8))) (a2 : (List (List UInt8))) (s3 : Int) : Option (Int ⊕ (Bool ⊕ Unit)) :=
  if (decide (s3 < (a1.length : Int))) = true then
    (ix a1 s3).bind fun v4 =>
    (ix a2 s3).bind fun v5 =>
    if (!decide (v4 = v5)) = true then
      some (.inr (.inl false))
    else
    some (.inl (IntKind.i64.wrap (s3 + (1 : Int))))
  else
  some (.inr (.inr ()))

/-- slices.Equal[[]string,string] -/
def m_slices_Equal_string_string (n : Nat) (a1 : (List (List UInt8))) (a2 : (List (List UInt8))) : Option Bool :=
  if (!decide ((a1.length : Int) = (a2.length : Int))) = true then
    some false
  else
  (iter n (fun s => m_slices_Equal_string_string_L1 n a1 a2 s) (0 : Int)).bind fun t3 => match t3 with
  | (.inl u4) =>
    some u4
  | (.inr _u5) =>
    some true

def m_match_closeWords_L1 (_n : Nat) (a1 : (List (List UInt8))) (s3 : Int) (s4 : (List ((List UInt8) × Int))) : Option ((Int × (List ((List UInt8) × Int))) ⊕ (List ((List UInt8) × Int))) :=
  if (decide (s3 < (a1.length : Int))) = true then
    (ix a1 s3).bind fun v5 =>
    (some (mput s4 v5 (bitM .i64 (· ||| ·) ((mget s4 v5).getD ((0 : Int) : Int)) (1 : Int)))).bind fun v6 =>
    some (.inl ((IntKind.i64.wrap (s3 + (1 : Int))), v6))
  else
  some (.inr s4)

def m_match_closeWords_L2 (_n : Nat) (a2 : (List (List UInt8))) (s4 : Int) (s5 : (List ((List UInt8) × Int))) : Option ((Int × (List ((List UInt8) × Int))) ⊕ (List ((List UInt8) × Int))) :=
  if (decide (s4 < (a2.length : Int))) = true then
    (ix a2 s4).bind fun v6 =>
    (some (mput s5 v6 (bitM .i64 (· ||| ·) ((mget s5 v6).getD ((0 : Int) : Int)) (2 : Int)))).bind fun v7 =>
    some (.inl ((IntKind.i64.wrap (s4 + (1 : Int))), v7))
  else
  some (.inr s5)

def m_match_closeWords_L3 (_n : Nat) (s5 : Int) (e_3 : ((List UInt8) × Int)) : Option (Int ⊕ Int) :=
  if (decide (e_3.2 = (3 : Int))) = true then
    some (.inl (IntKind.i64.wrap (s5 + (1 : Int))))
  else
  some (.inl s5)

/-- bookplate/match.closeWords -/
def m_match_closeWords (n : Nat) (a1 : (List (List UInt8))) (a2 : (List (List UInt8))) : Option Bool :=
  (iter n (fun s => m_match_closeWords_L1 n a1 s.1 s.2) ((0 : Int), [])).bind fun t3 =>
  (iter n (fun s => m_match_closeWords_L2 n a2 s.1 s.2) ((0 : Int), t3)).bind fun t4 =>
  (rangeM (fun s e => m_match_closeWords_L3 n s e) (fun s => (s : Int)) ((0 : Int) : Int) t4).bind fun t5 =>
  some ((decide ((0 : Int) < (t4.length : Int))) && (decide ((IntKind.i64.wrap ((3 : Int) * (t4.length : Int))) ≤ (IntKind.i64.wrap ((4 : Int) * t5)))))

def m_editdist_Chars_L1 (_n : Nat) (a1 : (List UInt8)) (s2 : (List Int)) (s3 : Nat) : Option (((List Int) × Nat) ⊕ ((List Int) × Nat)) :=
  (some (siN a1 s3)).bind fun v4 =>
  if v4.1 = true then
    (app 8 s2 ([(IntKind.i64.wrap v4.2.2.1)] : List Int)).bind fun v5 =>
    some (.inl (v5, v4.2.2.2))
  else
  some (.inr (s2, v4.2.2.2))

/-- bookplate/editdist.Chars -/
def m_editdist_Chars (n : Nat) (a1 : (List UInt8)) : Option (List Int) :=
  (iter n (fun s => m_editdist_Chars_L1 n a1 s.1 s.2) ([], 0)).bind fun t2 =>
  some t2.1

def m_editdist_Distance_L1 (_n : Nat) (v3 : (List Int)) (s4 : Int) (s5 : (List Int)) : Option ((Int × (List Int)) ⊕ (List Int)) :=
  if (decide (s4 < (v3.length : Int))) = true then
    (ix s5 s4).bind fun _v6 =>
    (setI s5 s4 s4).bind fun v7 =>
    some (.inl ((IntKind.i64.wrap (s4 + (1 : Int))), v7))
  else
  some (.inr s5)

def m_editdist_Distance_L3 (_n : Nat) (a2 : (List Int)) (v7 : Int) (s12 : Int) (s13 : Int) (s14 : (List Int)) : Option ((Int × Int × (List Int)) ⊕ (List Int)) :=
  if (decide (s13 < (a2.length : Int))) = true then
    (ix a2 s13).bind fun v15 =>
    (
      if (!decide (v7 = v15)) = true then
        (ix s14 s13).bind fun _v16 =>
        (ix s14 s13).bind fun v17 =>
        (ix s14 (IntKind.i64.wrap (s13 + (1 : Int)))).bind fun _v18 =>
        (ix s14 (IntKind.i64.wrap (s13 + (1 : Int)))).bind fun v19 =>
        some (IntKind.i64.wrap ((1 : Int) + (min (min s12 v17) v19)))
      else
      some s12 : Option Int).bind fun t20 =>
    (ix s14 (IntKind.i64.wrap (s13 + (1 : Int)))).bind fun _v21 =>
    (ix s14 (IntKind.i64.wrap (s13 + (1 : Int)))).bind fun v22 =>
    (ix s14 (IntKind.i64.wrap (s13 + (1 : Int)))).bind fun _v23 =>
    (setI s14 (IntKind.i64.wrap (s13 + (1 : Int))) t20).bind fun v24 =>
    some (.inl (v22, (IntKind.i64.wrap (s13 + (1 : Int))), v24))
  else
  some (.inr s14)

def m_editdist_Distance_L2 (n : Nat) (a1 : (List Int)) (a2 : (List Int)) (s5 : Int) (s6 : (List Int)) : Option ((Int × (List Int)) ⊕ (List Int)) :=
  if (decide (s5 < (a1.length : Int))) = true then
    (ix a1 s5).bind fun v7 =>
    (ix s6 (0 : Int)).bind fun _v8 =>
    (ix s6 (0 : Int)).bind fun v9 =>
    (ix s6 (0 : Int)).bind fun _v10 =>
    (setI s6 (0 : Int) (IntKind.i64.wrap (s5 + (1 : Int)))).bind fun v11 =>
    (iter n (fun s => m_editdist_Distance_L3 n a2 v7 s.1 s.2.1 s.2.2) (v9, (0 : Int), v11)).bind fun t12 =>
    some (.inl ((IntKind.i64.wrap (s5 + (1 : Int))), t12))
  else
  some (.inr s6)

/-- bookplate/editdist.Distance -/
def m_editdist_Distance (n : Nat) (a1 : (List Int)) (a2 : (List Int)) : Option Int :=
  (mkL 8 (IntKind.i64.wrap ((a2.length : Int) + (1 : Int))) ((0 : Int) : Int)).bind fun v3 =>
  (iter n (fun s => m_editdist_Distance_L1 n v3 s.1 s.2) ((0 : Int), v3)).bind fun t4 =>
  (iter n (fun s => m_editdist_Distance_L2 n a1 a2 s.1 s.2) ((0 : Int), t4)).bind fun t5 =>
  (ix t5 (a2.length : Int)).bind fun _v6 =>
  (ix t5 (a2.length : Int)).bind fun v7 =>
  some v7

/-- bookplate/editdist.Text -/
def m_editdist_Text (n : Nat) (a1 : (List UInt8)) (a2 : (List UInt8)) : Option Int :=
  (m_editdist_Chars n a1).bind fun v3 =>
  (m_editdist_Chars n a2).bind fun v4 =>
  (m_editdist_Distance n v3 v4).bind fun v5 =>
  some v5

/-- bookplate/match.near -/
def m_match_near (n : Nat) (a1 : (List UInt8)) (a2 : (List UInt8)) : Option Bool :=
  (m_editdist_Text n a1 a2).bind fun v3 =>
  some (decide (v3 ≤ (2 : Int)))

/-- bookplate/match.verdict -/
def m_match_verdict (_n : Nat) (a1 : Bool) (a2 : Bool) : Option Int :=
  if a1 = true then
    some (1 : Int)
  else
  if a2 = true then
    some (2 : Int)
  else
  some (3 : Int)

def m_slices_IndexFunc_int_int_L1 (_n : Nat) (a1 : (List Int)) (p2 : Int → Option Bool) (s3 : Int) : Option (Int ⊕ (Int ⊕ Unit)) :=
  if (decide (s3 < (a1.length : Int))) = true then
    (ix a1 s3).bind fun v4 =>
    (p2 v4).bind fun v5 =>
    if v5 = true then
      some (.inr (.inl s3))
    else
    some (.inl (IntKind.i64.wrap (s3 + (1 : Int))))
  else
  some (.inr (.inr ()))

/-- slices.IndexFunc[[]int,int] -/
def m_slices_IndexFunc_int_int (n : Nat) (a1 : (List Int)) (p2 : Int → Option Bool) : Option Int :=
  (iter n (fun s => m_slices_IndexFunc_int_int_L1 n a1 p2 s) (0 : Int)).bind fun t3 => match t3 with
  | (.inl u4) =>
    some u4
  | (.inr _u5) =>
    some (-1 : Int)

/-- slices.ContainsFunc[[]int,int] -/
def m_slices_ContainsFunc_int_int (n : Nat) (a1 : (List Int)) (p2 : Int → Option Bool) : Option Bool :=
  (m_slices_IndexFunc_int_int n a1 p2).bind fun v3 =>
  some (decide ((0 : Int) ≤ v3))

def m_slices_Index_int_int_L1 (_n : Nat) (a1 : (List Int)) (a2 : Int) (s3 : Int) : Option (Int ⊕ (Int ⊕ Unit)) :=
  if (decide (s3 < (a1.length : Int))) = true then
    (ix a1 s3).bind fun v4 =>
    if (decide (a2 = v4)) = true then
      some (.inr (.inl s3))
    else
    some (.inl (IntKind.i64.wrap (s3 + (1 : Int))))
  else
  some (.inr (.inr ()))

/-- slices.Index[[]int,int] -/
def m_slices_Index_int_int (n : Nat) (a1 : (List Int)) (a2 : Int) : Option Int :=
  (iter n (fun s => m_slices_Index_int_int_L1 n a1 a2 s) (0 : Int)).bind fun t3 => match t3 with
  | (.inl u4) =>
    some u4
  | (.inr _u5) =>
    some (-1 : Int)

/-- slices.Contains[[]int,int] -/
def m_slices_Contains_int_int (n : Nat) (a1 : (List Int)) (a2 : Int) : Option Bool :=
  (m_slices_Index_int_int n a1 a2).bind fun v3 =>
  some (decide ((0 : Int) ≤ v3))

/-- bookplate/match.common[int]$1 -/
def m_match_common_int_1 (n : Nat) (a1 : Int) (c2 : (List Int)) : Option Bool :=
  (m_slices_Contains_int_int n c2 a1).bind fun v3 =>
  some v3

/-- bookplate/match.common[int] -/
def m_match_common_int (n : Nat) (a1 : (List Int)) (a2 : (List Int)) : Option Bool :=
  (m_slices_ContainsFunc_int_int n a1 (fun y1 => m_match_common_int_1 n y1 a2)).bind fun v3 =>
  some v3

/-- bookplate/match.neighbours$1 -/
def m_match_neighbours_1 (n : Nat) (a1 : Int) (c2 : (List Int)) : Option Bool :=
  (m_slices_Contains_int_int n c2 (IntKind.i64.wrap (a1 - (1 : Int)))).bind fun v3 =>
  ((if (!v3) = true then m_slices_Contains_int_int n c2 (IntKind.i64.wrap (a1 + (1 : Int))) else some default)).bind fun v4 =>
  some (v3 || v4)

/-- bookplate/match.neighbours -/
def m_match_neighbours (n : Nat) (a1 : (List Int)) (a2 : (List Int)) : Option Bool :=
  (m_slices_ContainsFunc_int_int n a1 (fun y1 => m_match_neighbours_1 n y1 a2)).bind fun v3 =>
  some v3

def m_slices_Index_string_string_L1 (_n : Nat) (a1 : (List (List UInt8))) (a2 : (List UInt8)) (s3 : Int) : Option (Int ⊕ (Int ⊕ Unit)) :=
  if (decide (s3 < (a1.length : Int))) = true then
    (ix a1 s3).bind fun v4 =>
    if (decide (a2 = v4)) = true then
      some (.inr (.inl s3))
    else
    some (.inl (IntKind.i64.wrap (s3 + (1 : Int))))
  else
  some (.inr (.inr ()))

/-- slices.Index[[]string,string] -/
def m_slices_Index_string_string (n : Nat) (a1 : (List (List UInt8))) (a2 : (List UInt8)) : Option Int :=
  (iter n (fun s => m_slices_Index_string_string_L1 n a1 a2 s) (0 : Int)).bind fun t3 => match t3 with
  | (.inl u4) =>
    some u4
  | (.inr _u5) =>
    some (-1 : Int)

/-- slices.Contains[[]string,string] -/
def m_slices_Contains_string_string (n : Nat) (a1 : (List (List UInt8))) (a2 : (List UInt8)) : Option Bool :=
  (m_slices_Index_string_string n a1 a2).bind fun v3 =>
  some (decide ((0 : Int) ≤ v3))

/-- bookplate/match.common[string]$1 -/
def m_match_common_string_1 (n : Nat) (a1 : (List UInt8)) (c2 : (List (List UInt8))) : Option Bool :=
  (m_slices_Contains_string_string n c2 a1).bind fun v3 =>
  some v3

/-- bookplate/match.common[string] -/
def m_match_common_string (n : Nat) (a1 : (List (List UInt8))) (a2 : (List (List UInt8))) : Option Bool :=
  (m_slices_ContainsFunc_string_string n a1 (fun y1 => m_match_common_string_1 n y1 a2)).bind fun v3 =>
  some v3

/-- bookplate/match.Compare -/
def m_match_Compare (n : Nat) (a1 : SFeatures) (a2 : SFeatures) : Option (A7 × Int) :=
  (m_feature_Valid n a1).bind fun v3 =>
  ((if (!(!v3)) = true then m_feature_Valid n a2 else some default)).bind fun v4 =>
  if ((!v3) || (!v4)) = true then
    some ((⟨(0 : Int), (0 : Int), (0 : Int), (0 : Int), (0 : Int), (0 : Int), (0 : Int)⟩ : A7), (1 : Int))
  else
  (
    if ((decide ((0 : Int) < (a1.fTitle.length : Int))) && (decide ((0 : Int) < (a2.fTitle.length : Int)))) = true then
      (m_slices_Equal_string_string n a1.fTitle a2.fTitle).bind fun v5 =>
      (m_match_closeWords n a1.fTitle a2.fTitle).bind fun v6 =>
      ((if (!v6) = true then joinM a1.fTitle ([32] : List UInt8) else some default)).bind fun v7 =>
      ((if (!v6) = true then joinM a2.fTitle ([32] : List UInt8) else some default)).bind fun v8 =>
      ((if (!v6) = true then m_match_near n v7 v8 else some default)).bind fun v9 =>
      (m_match_verdict n v5 (v6 || v9)).bind fun v10 =>
      some (⟨v10, (0 : Int), (0 : Int), (0 : Int), (0 : Int), (0 : Int), (0 : Int)⟩ : A7)
    else
    some (⟨(0 : Int), (0 : Int), (0 : Int), (0 : Int), (0 : Int), (0 : Int), (0 : Int)⟩ : A7) : Option A7).bind fun t11 =>
  (
    if ((!decide (a1.fAuthor = ([] : List UInt8))) && (!decide (a2.fAuthor = ([] : List UInt8)))) = true then
      (m_match_near n a1.fAuthor a2.fAuthor).bind fun v12 =>
      (m_match_verdict n (decide (a1.fAuthor = a2.fAuthor)) v12).bind fun v13 =>
      some (⟨t11.e0, v13, t11.e2, t11.e3, t11.e4, t11.e5, t11.e6⟩ : A7)
    else
    some t11 : Option A7).bind fun t14 =>
  (
    if ((decide ((0 : Int) < (a1.fYears.length : Int))) && (decide ((0 : Int) < (a2.fYears.length : Int)))) = true then
      (m_match_common_int n a1.fYears a2.fYears).bind fun v15 =>
      (m_match_neighbours n a1.fYears a2.fYears).bind fun v16 =>
      (m_match_verdict n v15 v16).bind fun v17 =>
      some (⟨t14.e0, t14.e1, v17, t14.e3, t14.e4, t14.e5, t14.e6⟩ : A7)
    else
    some t14 : Option A7).bind fun t18 =>
  (
    if ((decide ((0 : Int) < (a1.fIsbns.length : Int))) && (decide ((0 : Int) < (a2.fIsbns.length : Int)))) = true then
      (m_match_common_string n a1.fIsbns a2.fIsbns).bind fun v19 =>
      (m_match_verdict n v19 false).bind fun v20 =>
      some (⟨t18.e0, t18.e1, t18.e2, v20, t18.e4, t18.e5, t18.e6⟩ : A7)
    else
    some t18 : Option A7).bind fun t21 =>
  (
    if ((decide ((0 : Int) < (a1.fLangs.length : Int))) && (decide ((0 : Int) < (a2.fLangs.length : Int)))) = true then
      (m_match_common_string n a1.fLangs a2.fLangs).bind fun v22 =>
      (m_match_verdict n v22 false).bind fun v23 =>
      some (⟨t21.e0, t21.e1, t21.e2, t21.e3, v23, t21.e5, t21.e6⟩ : A7)
    else
    some t21 : Option A7).bind fun t24 =>
  (
    if ((decide ((0 : Int) < (a1.fPublisher.length : Int))) && (decide ((0 : Int) < (a2.fPublisher.length : Int)))) = true then
      (m_slices_Equal_string_string n a1.fPublisher a2.fPublisher).bind fun v25 =>
      (m_match_common_string n a1.fPublisher a2.fPublisher).bind fun v26 =>
      (m_match_verdict n v25 v26).bind fun v27 =>
      some (⟨t24.e0, t24.e1, t24.e2, t24.e3, t24.e4, v27, t24.e6⟩ : A7)
    else
    some t24 : Option A7).bind fun t28 =>
  (
    if ((decide ((0 : Int) < (a1.fEdition.length : Int))) && (decide ((0 : Int) < (a2.fEdition.length : Int)))) = true then
      (m_slices_Equal_string_string n a1.fEdition a2.fEdition).bind fun v29 =>
      (m_match_verdict n v29 false).bind fun v30 =>
      some (⟨t28.e0, t28.e1, t28.e2, t28.e3, t28.e4, t28.e5, v30⟩ : A7)
    else
    some t28 : Option A7).bind fun t31 =>
  some (t31, (0 : Int))

def m_match_model_L2 (_n : Nat) (s2 : Int) (v4 : A6) (s5 : Int) (s6 : A72) : Option ((Int × A72) ⊕ A72) :=
  if (decide (s5 < (3 : Int))) = true then
    (ix v4.l (IntKind.i64.wrap ((2 : Int) * s5))).bind fun v7 =>
    (ix v4.l (IntKind.i64.wrap ((IntKind.i64.wrap ((2 : Int) * s5)) + (1 : Int)))).bind fun v8 =>
    (ix s6.l s2).bind fun v9 =>
    (ix v9.l s5).bind fun _v10 =>
    (A3.put v9 s5 (⟨v7, v8⟩ : SRatio)).bind fun v11 =>
    (A72.put s6 s2 v11).bind fun v12 =>
    some (.inl ((IntKind.i64.wrap (s5 + (1 : Int))), v12))
  else
  some (.inr s6)

def m_match_model_L1 (n : Nat) (a1 : A73) (s2 : Int) (s3 : A72) : Option ((Int × A72) ⊕ A72) :=
  if (decide (s2 < (7 : Int))) = true then
    (ix a1.l s2).bind fun v4 =>
    (iter n (fun s => m_match_model_L2 n s2 v4 s.1 s.2) ((0 : Int), s3)).bind fun t5 =>
    some (.inl ((IntKind.i64.wrap (s2 + (1 : Int))), t5))
  else
  some (.inr s3)

/-- bookplate/match.model -/
def m_match_model (n : Nat) (a1 : A73) : Option A72 :=
  (iter n (fun s => m_match_model_L1 n a1 s.1 s.2) ((0 : Int), (⟨(⟨(⟨(0 : Int), (0 : Int)⟩ : SRatio), (⟨(0 : Int), (0 : Int)⟩ : SRatio), (⟨(0 : Int), (0 : Int)⟩ : SRatio)⟩ : A3), (⟨(⟨(0 : Int), (0 : Int)⟩ : SRatio), (⟨(0 : Int), (0 : Int)⟩ : SRatio), (⟨(0 : Int), (0 : Int)⟩ : SRatio)⟩ : A3), (⟨(⟨(0 : Int), (0 : Int)⟩ : SRatio), (⟨(0 : Int), (0 : Int)⟩ : SRatio), (⟨(0 : Int), (0 : Int)⟩ : SRatio)⟩ : A3), (⟨(⟨(0 : Int), (0 : Int)⟩ : SRatio), (⟨(0 : Int), (0 : Int)⟩ : SRatio), (⟨(0 : Int), (0 : Int)⟩ : SRatio)⟩ : A3), (⟨(⟨(0 : Int), (0 : Int)⟩ : SRatio), (⟨(0 : Int), (0 : Int)⟩ : SRatio), (⟨(0 : Int), (0 : Int)⟩ : SRatio)⟩ : A3), (⟨(⟨(0 : Int), (0 : Int)⟩ : SRatio), (⟨(0 : Int), (0 : Int)⟩ : SRatio), (⟨(0 : Int), (0 : Int)⟩ : SRatio)⟩ : A3), (⟨(⟨(0 : Int), (0 : Int)⟩ : SRatio), (⟨(0 : Int), (0 : Int)⟩ : SRatio), (⟨(0 : Int), (0 : Int)⟩ : SRatio)⟩ : A3)⟩ : A72))).bind fun t2 =>
  some t2

/-- bookplate/match.Works -/
def m_match_Works (n : Nat) : Option A72 :=
  (m_match_model n (⟨(⟨(20 : Int), (1 : Int), (6 : Int), (1 : Int), (1 : Int), (12 : Int)⟩ : A6), (⟨(12 : Int), (1 : Int), (4 : Int), (1 : Int), (1 : Int), (20 : Int)⟩ : A6), (⟨(2 : Int), (1 : Int), (3 : Int), (2 : Int), (4 : Int), (5 : Int)⟩ : A6), (⟨(100 : Int), (1 : Int), (1 : Int), (1 : Int), (3 : Int), (4 : Int)⟩ : A6), (⟨(3 : Int), (2 : Int), (1 : Int), (1 : Int), (1 : Int), (2 : Int)⟩ : A6), (⟨(6 : Int), (5 : Int), (1 : Int), (1 : Int), (9 : Int), (10 : Int)⟩ : A6), (⟨(1 : Int), (1 : Int), (1 : Int), (1 : Int), (1 : Int), (1 : Int)⟩ : A6)⟩ : A73)).bind fun v1 =>
  some v1

def m_slices_IndexFunc_3_odds_Ratio_3_odds_Ratio_L1 (_n : Nat) (a1 : (List A3)) (p2 : A3 → Option Bool) (s3 : Int) : Option (Int ⊕ (Int ⊕ Unit)) :=
  if (decide (s3 < (a1.length : Int))) = true then
    (ix a1 s3).bind fun v4 =>
    (p2 v4).bind fun v5 =>
    if v5 = true then
      some (.inr (.inl s3))
    else
    some (.inl (IntKind.i64.wrap (s3 + (1 : Int))))
  else
  some (.inr (.inr ()))

/-- slices.IndexFunc[[][3]bookplate/odds.Ratio,[3]bookplate/odds.Ratio] -/
def m_slices_IndexFunc_3_odds_Ratio_3_odds_Ratio (n : Nat) (a1 : (List A3)) (p2 : A3 → Option Bool) : Option Int :=
  (iter n (fun s => m_slices_IndexFunc_3_odds_Ratio_3_odds_Ratio_L1 n a1 p2 s) (0 : Int)).bind fun t3 => match t3 with
  | (.inl u4) =>
    some u4
  | (.inr _u5) =>
    some (-1 : Int)

/-- slices.ContainsFunc[[][3]bookplate/odds.Ratio,[3]bookplate/odds.Ratio] -/
def m_slices_ContainsFunc_3_odds_Ratio_3_odds_Ratio (n : Nat) (a1 : (List A3)) (p2 : A3 → Option Bool) : Option Bool :=
  (m_slices_IndexFunc_3_odds_Ratio_3_odds_Ratio n a1 p2).bind fun v3 =>
  some (decide ((0 : Int) ≤ v3))

def m_slices_IndexFunc_odds_Ratio_odds_Ratio_L1 (_n : Nat) (a1 : (List SRatio)) (p2 : SRatio → Option Bool) (s3 : Int) : Option (Int ⊕ (Int ⊕ Unit)) :=
  if (decide (s3 < (a1.length : Int))) = true then
    (ix a1 s3).bind fun v4 =>
    (p2 v4).bind fun v5 =>
    if v5 = true then
      some (.inr (.inl s3))
    else
    some (.inl (IntKind.i64.wrap (s3 + (1 : Int))))
  else
  some (.inr (.inr ()))

/-- slices.IndexFunc[[]bookplate/odds.Ratio,bookplate/odds.Ratio] -/
def m_slices_IndexFunc_odds_Ratio_odds_Ratio (n : Nat) (a1 : (List SRatio)) (p2 : SRatio → Option Bool) : Option Int :=
  (iter n (fun s => m_slices_IndexFunc_odds_Ratio_odds_Ratio_L1 n a1 p2 s) (0 : Int)).bind fun t3 => match t3 with
  | (.inl u4) =>
    some u4
  | (.inr _u5) =>
    some (-1 : Int)

/-- slices.ContainsFunc[[]bookplate/odds.Ratio,bookplate/odds.Ratio] -/
def m_slices_ContainsFunc_odds_Ratio_odds_Ratio (n : Nat) (a1 : (List SRatio)) (p2 : SRatio → Option Bool) : Option Bool :=
  (m_slices_IndexFunc_odds_Ratio_odds_Ratio n a1 p2).bind fun v3 =>
  some (decide ((0 : Int) ≤ v3))

/-- bookplate/odds.Valid$1 -/
def m_odds_Valid_1 (_n : Nat) (a1 : SRatio) : Option Bool :=
  some ((((decide (a1.fNum < (1 : Int))) || (decide ((1000 : Int) < a1.fNum))) || (decide (a1.fDen < (1 : Int)))) || (decide ((1000 : Int) < a1.fDen)))

/-- bookplate/odds.Valid -/
def m_odds_Valid (n : Nat) (a1 : (List SRatio)) : Option Bool :=
  ((if (decide ((a1.length : Int) ≤ (12 : Int))) = true then m_slices_ContainsFunc_odds_Ratio_odds_Ratio n a1 (fun y1 => m_odds_Valid_1 n y1) else some default)).bind fun v2 =>
  some ((decide ((a1.length : Int) ≤ (12 : Int))) && (!v2))

/-- bookplate/match.Valid$1 -/
def m_match_Valid_1 (n : Nat) (a1 : A3) : Option Bool :=
  (m_odds_Valid n a1.l).bind fun v2 =>
  some (!v2)

/-- bookplate/match.Valid -/
def m_match_Valid (n : Nat) (a1 : A72) : Option Bool :=
  (m_slices_ContainsFunc_3_odds_Ratio_3_odds_Ratio n a1.l (fun y1 => m_match_Valid_1 n y1)).bind fun v2 =>
  some (!v2)

/-- bookplate/match.Factors$1 -/
def m_match_Factors_1 (_n : Nat) (a1 : Int) : Option Bool :=
  some ((decide (a1 < (0 : Int))) || (decide ((3 : Int) < a1)))

def m_match_Factors_L1 (_n : Nat) (a1 : A72) (a2 : A7) (s5 : (List SRatio)) (s6 : Int) : Option (((List SRatio) × Int) ⊕ (List SRatio)) :=
  if (decide (s6 < (7 : Int))) = true then
    (
      (ix a2.l s6).bind fun v7 =>
      if (!decide (v7 = (0 : Int))) = true then
        (ix a1.l s6).bind fun v8 =>
        (ix v8.l (IntKind.i64.wrap (v7 - (1 : Int)))).bind fun v9 =>
        (app 16 s5 ([v9] : List SRatio)).bind fun v10 =>
        some v10
      else
      some s5 : Option (List SRatio)).bind fun t11 =>
    some (.inl (t11, (IntKind.i64.wrap (s6 + (1 : Int)))))
  else
  some (.inr s5)

/-- bookplate/match.Factors -/
def m_match_Factors (n : Nat) (a1 : A72) (a2 : A7) : Option ((List SRatio) × Int) :=
  (m_match_Valid n a1).bind fun v3 =>
  ((if (!(!v3)) = true then m_slices_ContainsFunc_int_int n a2.l (fun y1 => m_match_Factors_1 n y1) else some default)).bind fun v4 =>
  if ((!v3) || v4) = true then
    some ([], (1 : Int))
  else
  (iter n (fun s => m_match_Factors_L1 n a1 a2 s.1 s.2) ([], (0 : Int))).bind fun t5 =>
  some (t5, (0 : Int))

def m_nat_small_L1 (_n : Nat) (s2 : Int) (s3 : (List Int)) : Option ((Int × (List Int)) ⊕ (List Int)) :=
  if (decide ((0 : Int) < s2)) = true then
    (rem s2 (65536 : Int)).bind fun v4 =>
    (app 8 s3 ([v4] : List Int)).bind fun v5 =>
    (quo .i64 s2 (65536 : Int)).bind fun v6 =>
    some (.inl (v6, v5))
  else
  some (.inr s3)

/-- bookplate/nat.small -/
def m_nat_small (n : Nat) (a1 : Int) : Option (List Int) :=
  (iter n (fun s => m_nat_small_L1 n s.1 s.2) (a1, [])).bind fun t2 =>
  some t2

/-- bookplate/nat.Of -/
def m_nat_Of (n : Nat) (a1 : Int) : Option ((List Int) × Int) :=
  if (decide (a1 < (0 : Int))) = true then
    some ([], (2 : Int))
  else
  (m_nat_small n a1).bind fun v2 =>
  some (v2, (0 : Int))

/-- bookplate/odds.number -/
def m_odds_number (n : Nat) (a1 : Int) : Option (List Int) :=
  (m_nat_Of n a1).bind fun v2 =>
  some v2.1

def m_slices_IndexFunc_nat_Nat_int_L1 (_n : Nat) (a1 : (List Int)) (p2 : Int → Option Bool) (s3 : Int) : Option (Int ⊕ (Int ⊕ Unit)) :=
  if (decide (s3 < (a1.length : Int))) = true then
    (ix a1 s3).bind fun v4 =>
    (p2 v4).bind fun v5 =>
    if v5 = true then
      some (.inr (.inl s3))
    else
    some (.inl (IntKind.i64.wrap (s3 + (1 : Int))))
  else
  some (.inr (.inr ()))

/-- slices.IndexFunc[bookplate/nat.Nat,int] -/
def m_slices_IndexFunc_nat_Nat_int (n : Nat) (a1 : (List Int)) (p2 : Int → Option Bool) : Option Int :=
  (iter n (fun s => m_slices_IndexFunc_nat_Nat_int_L1 n a1 p2 s) (0 : Int)).bind fun t3 => match t3 with
  | (.inl u4) =>
    some u4
  | (.inr _u5) =>
    some (-1 : Int)

/-- slices.ContainsFunc[bookplate/nat.Nat,int] -/
def m_slices_ContainsFunc_nat_Nat_int (n : Nat) (a1 : (List Int)) (p2 : Int → Option Bool) : Option Bool :=
  (m_slices_IndexFunc_nat_Nat_int n a1 p2).bind fun v3 =>
  some (decide ((0 : Int) ≤ v3))

/-- bookplate/nat.Valid$1 -/
def m_nat_Valid_1 (_n : Nat) (a1 : Int) : Option Bool :=
  some ((decide (a1 < (0 : Int))) || (decide ((65536 : Int) ≤ a1)))

/-- bookplate/nat.Valid -/
def m_nat_Valid (n : Nat) (a1 : (List Int)) : Option Bool :=
  ((if (!(decide ((128 : Int) < (a1.length : Int)))) = true then m_slices_ContainsFunc_nat_Nat_int n a1 (fun y1 => m_nat_Valid_1 n y1) else some default)).bind fun v2 =>
  if ((decide ((128 : Int) < (a1.length : Int))) || v2) = true then
    some false
  else
  ((if (!(decide ((a1.length : Int) = (0 : Int)))) = true then ix a1 (IntKind.i64.wrap ((a1.length : Int) - (1 : Int))) else some default)).bind fun v3 =>
  some ((decide ((a1.length : Int) = (0 : Int))) || (!decide (v3 = (0 : Int))))

def m_nat_trimmed_L1 (_n : Nat) (s2 : (List Int)) : Option ((List Int) ⊕ (List Int)) :=
  ((if (decide ((0 : Int) < (s2.length : Int))) = true then ix s2 (IntKind.i64.wrap ((s2.length : Int) - (1 : Int))) else some default)).bind fun _v3 =>
  ((if (decide ((0 : Int) < (s2.length : Int))) = true then ix s2 (IntKind.i64.wrap ((s2.length : Int) - (1 : Int))) else some default)).bind fun v4 =>
  if ((decide ((0 : Int) < (s2.length : Int))) && (decide (v4 = (0 : Int)))) = true then
    (slc s2 (0 : Int) (IntKind.i64.wrap ((s2.length : Int) - (1 : Int)))).bind fun v5 =>
    some (.inl v5)
  else
  some (.inr s2)

/-- bookplate/nat.trimmed -/
def m_nat_trimmed (n : Nat) (c1 : (List Int)) : Option (List Int) :=
  (iter n (fun s => m_nat_trimmed_L1 n s) c1).bind fun t2 =>
  some t2

def m_nat_times_L2 (_n : Nat) (a2 : (List Int)) (s4 : Int) (v6 : Int) (s7 : Int) (s8 : Int) (s9 : (List Int)) : Option ((Int × Int × (List Int)) ⊕ (Int × (List Int))) :=
  if (decide (s8 < (a2.length : Int))) = true then
    (ix s9 (IntKind.i64.wrap (s4 + s8))).bind fun _v10 =>
    (ix s9 (IntKind.i64.wrap (s4 + s8))).bind fun v11 =>
    (ix a2 s8).bind fun v12 =>
    (rem (IntKind.i64.wrap (s7 + (IntKind.i64.wrap (v11 + (IntKind.i64.wrap (v6 * v12)))))) (65536 : Int)).bind fun v13 =>
    (ix s9 (IntKind.i64.wrap (s4 + s8))).bind fun _v14 =>
    (setI s9 (IntKind.i64.wrap (s4 + s8)) v13).bind fun v15 =>
    (quo .i64 (IntKind.i64.wrap (s7 + (IntKind.i64.wrap (v11 + (IntKind.i64.wrap (v6 * v12)))))) (65536 : Int)).bind fun v16 =>
    some (.inl (v16, (IntKind.i64.wrap (s8 + (1 : Int))), v15))
  else
  some (.inr (s7, s9))

def m_nat_times_L1 (n : Nat) (a1 : (List Int)) (a2 : (List Int)) (s4 : Int) (s5 : (List Int)) : Option ((Int × (List Int)) ⊕ (List Int)) :=
  if (decide (s4 < (a1.length : Int))) = true then
    (ix a1 s4).bind fun v6 =>
    (iter n (fun s => m_nat_times_L2 n a2 s4 v6 s.1 s.2.1 s.2.2) ((0 : Int), (0 : Int), s5)).bind fun t7 =>
    (ix t7.2 (IntKind.i64.wrap (s4 + (a2.length : Int)))).bind fun _v8 =>
    (setI t7.2 (IntKind.i64.wrap (s4 + (a2.length : Int))) t7.1).bind fun v9 =>
    some (.inl ((IntKind.i64.wrap (s4 + (1 : Int))), v9))
  else
  some (.inr s5)

/-- bookplate/nat.times -/
def m_nat_times (n : Nat) (a1 : (List Int)) (a2 : (List Int)) : Option (List Int) :=
  (mkL 8 (IntKind.i64.wrap ((a1.length : Int) + (a2.length : Int))) ((0 : Int) : Int)).bind fun v3 =>
  (iter n (fun s => m_nat_times_L1 n a1 a2 s.1 s.2) ((0 : Int), v3)).bind fun t4 =>
  (m_nat_trimmed n t4).bind fun v5 =>
  some v5

def m_nat_trimmed_f2_L1 (_n : Nat) (s2 : (List Int)) : Option ((List Int) ⊕ (List Int)) :=
  ((if (decide ((0 : Int) < (s2.length : Int))) = true then ix s2 (IntKind.i64.wrap ((s2.length : Int) - (1 : Int))) else some default)).bind fun v3 =>
  if ((decide ((0 : Int) < (s2.length : Int))) && (decide (v3 = (0 : Int)))) = true then
    (slc s2 (0 : Int) (IntKind.i64.wrap ((s2.length : Int) - (1 : Int)))).bind fun v4 =>
    some (.inl v4)
  else
  some (.inr s2)

/-- bookplate/nat.trimmed -/
def m_nat_trimmed_f2 (n : Nat) (a1 : (List Int)) : Option (List Int) :=
  (iter n (fun s => m_nat_trimmed_f2_L1 n s) a1).bind fun t2 =>
  some t2

/-- bookplate/nat.limited -/
def m_nat_limited (n : Nat) (a1 : (List Int)) : Option ((List Int) × Int) :=
  (m_nat_trimmed_f2 n a1).bind fun v2 =>
  if (decide ((128 : Int) < (v2.length : Int))) = true then
    some ([], (3 : Int))
  else
  some (v2, (0 : Int))

/-- bookplate/nat.Mul -/
def m_nat_Mul (n : Nat) (a1 : (List Int)) (a2 : (List Int)) : Option ((List Int) × Int) :=
  (m_nat_Valid n a1).bind fun v3 =>
  ((if (!(!v3)) = true then m_nat_Valid n a2 else some default)).bind fun v4 =>
  if ((!v3) || (!v4)) = true then
    some ([], (1 : Int))
  else
  (m_nat_times n a1 a2).bind fun v5 =>
  (m_nat_limited n v5).bind fun v6 =>
  some (v6.1, v6.2)

/-- bookplate/odds.times -/
def m_odds_times (n : Nat) (a1 : (List Int)) (a2 : (List Int)) : Option (List Int) :=
  (m_nat_Mul n a1 a2).bind fun v3 =>
  some v3.1

def m_odds_parts_L1 (n : Nat) (a1 : (List SRatio)) (s4 : (List Int)) (s5 : (List Int)) (s6 : Int) : Option (((List Int) × (List Int) × Int) ⊕ ((List Int) × (List Int))) :=
  if (decide (s6 < (a1.length : Int))) = true then
    (ix a1 s6).bind fun v7 =>
    (m_odds_number n v7.fNum).bind fun v8 =>
    (m_odds_times n s4 v8).bind fun v9 =>
    (m_odds_number n v7.fDen).bind fun v10 =>
    (m_odds_times n s5 v10).bind fun v11 =>
    some (.inl (v9, v11, (IntKind.i64.wrap (s6 + (1 : Int)))))
  else
  some (.inr (s4, s5))

/-- bookplate/odds.parts -/
def m_odds_parts (n : Nat) (a1 : (List SRatio)) : Option ((List Int) × (List Int)) :=
  (m_odds_number n (1 : Int)).bind fun v2 =>
  (m_odds_number n (1 : Int)).bind fun v3 =>
  (iter n (fun s => m_odds_parts_L1 n a1 s.1 s.2.1 s.2.2) (v2, v3, (0 : Int))).bind fun t4 =>
  some (t4.1, t4.2)

def m_nat_Power_L1 (n : Nat) (a1 : (List Int)) (a2 : Int) (s4 : (List Int)) (s5 : Int) : Option (((List Int) × Int) ⊕ (((List Int) × Int) ⊕ (List Int))) :=
  if (decide (s5 < a2)) = true then
    (m_nat_times n s4 a1).bind fun v6 =>
    if (decide ((128 : Int) < (v6.length : Int))) = true then
      some (.inr (.inl ([], (3 : Int))))
    else
    some (.inl (v6, (IntKind.i64.wrap (s5 + (1 : Int)))))
  else
  some (.inr (.inr s4))

/-- bookplate/nat.Power -/
def m_nat_Power (n : Nat) (a1 : (List Int)) (a2 : Int) : Option ((List Int) × Int) :=
  (m_nat_Valid n a1).bind fun v3 =>
  if (!v3) = true then
    some ([], (1 : Int))
  else
  if ((decide (a2 < (0 : Int))) || (decide ((1000 : Int) < a2))) = true then
    some ([], (2 : Int))
  else
  (iter n (fun s => m_nat_Power_L1 n a1 a2 s.1 s.2) (([(1 : Int)] : List Int), (0 : Int))).bind fun t4 => match t4 with
  | (.inl u5) =>
    some u5
  | (.inr u6) =>
    some (u6, (0 : Int))

/-- bookplate/odds.eighth -/
def m_odds_eighth (n : Nat) (a1 : (List Int)) : Option (List Int) :=
  (m_nat_Power n a1 (8 : Int)).bind fun v2 =>
  some v2.1

/-- math/bits.Len64 -/
def m_math_bits_Len64 (_n : Nat) (a1 : Int) : Option Int :=
  (
    if (decide ((4294967296 : Int) ≤ a1)) = true then
      (shrM .u64 a1 (32 : Int)).bind fun v2 =>
      some (v2, (32 : Int))
    else
    some (a1, (0 : Int)) : Option (Int × Int)).bind fun t3 =>
  (
    if (decide ((65536 : Int) ≤ t3.1)) = true then
      (shrM .u64 t3.1 (16 : Int)).bind fun v4 =>
      some (v4, (IntKind.i64.wrap (t3.2 + (16 : Int))))
    else
    some (t3.1, t3.2) : Option (Int × Int)).bind fun t5 =>
  (
    if (decide ((256 : Int) ≤ t5.1)) = true then
      (shrM .u64 t5.1 (8 : Int)).bind fun v6 =>
      some (v6, (IntKind.i64.wrap (t5.2 + (8 : Int))))
    else
    some (t5.1, t5.2) : Option (Int × Int)).bind fun t7 =>
  (ixS ([0, 1, 2, 2, 3, 3, 3, 3, 4, 4, 4, 4, 4, 4, 4, 4, 5, 5, 5, 5, 5, 5, 5, 5, 5, 5, 5, 5, 5, 5, 5, 5, 6, 6, 6, 6, 6, 6, 6, 6, 6, 6, 6, 6, 6, 6, 6, 6, 6, 6, 6, 6, 6, 6, 6, 6, 6, 6, 6, 6, 6, 6, 6, 6, 7, 7, 7, 7, 7, 7, 7, 7, 7, 7, 7, 7, 7, 7, 7, 7, 7, 7, 7, 7, 7, 7, 7, 7, 7, 7, 7, 7, 7, 7, 7, 7, 7, 7, 7, 7, 7, 7, 7, 7, 7, 7, 7, 7, 7, 7, 7, 7, 7, 7, 7, 7, 7, 7, 7, 7, 7, 7, 7, 7, 7, 7, 7, 7, 8, 8, 8, 8, 8, 8, 8, 8, 8, 8, 8, 8, 8, 8, 8, 8, 8, 8, 8, 8, 8, 8, 8, 8, 8, 8, 8, 8, 8, 8, 8, 8, 8, 8, 8, 8, 8, 8, 8, 8, 8, 8, 8, 8, 8, 8, 8, 8, 8, 8, 8, 8, 8, 8, 8, 8, 8, 8, 8, 8, 8, 8, 8, 8, 8, 8, 8, 8, 8, 8, 8, 8, 8, 8, 8, 8, 8, 8, 8, 8, 8, 8, 8, 8, 8, 8, 8, 8, 8, 8, 8, 8, 8, 8, 8, 8, 8, 8, 8, 8, 8, 8, 8, 8, 8, 8, 8, 8, 8, 8, 8, 8, 8, 8, 8, 8, 8, 8, 8, 8, 8, 8, 8, 8, 8, 8, 8, 8] : List UInt8) (IntKind.u8.wrap t7.1)).bind fun v8 =>
  some (IntKind.i64.wrap (t7.2 + (IntKind.i64.wrap v8)))

/-- math/bits.Len -/
def m_math_bits_Len (n : Nat) (a1 : Int) : Option Int :=
  (m_math_bits_Len64 n a1).bind fun v2 =>
  some v2

/-- bookplate/nat.Bits -/
def m_nat_Bits (n : Nat) (a1 : (List Int)) : Option Int :=
  (m_nat_Valid n a1).bind fun v2 =>
  if ((!v2) || (decide ((a1.length : Int) = (0 : Int)))) = true then
    some (0 : Int)
  else
  (ix a1 (IntKind.i64.wrap ((a1.length : Int) - (1 : Int)))).bind fun v3 =>
  (m_math_bits_Len n (IntKind.u64.wrap v3)).bind fun v4 =>
  some (IntKind.i64.wrap ((IntKind.i64.wrap ((16 : Int) * (IntKind.i64.wrap ((a1.length : Int) - (1 : Int))))) + v4))

/-- bookplate/nat.Shift -/
def m_nat_Shift (n : Nat) (a1 : (List Int)) (a2 : Int) : Option ((List Int) × Int) :=
  (m_nat_Valid n a1).bind fun v3 =>
  if (!v3) = true then
    some ([], (1 : Int))
  else
  if ((decide (a2 < (0 : Int))) || (decide ((2047 : Int) < a2))) = true then
    some ([], (2 : Int))
  else
  if (decide ((a1.length : Int) = (0 : Int))) = true then
    some ([], (0 : Int))
  else
  (quo .i64 a2 (16 : Int)).bind fun v4 =>
  (mkL 8 v4 ((0 : Int) : Int)).bind fun v5 =>
  (rem a2 (16 : Int)).bind fun v6 =>
  (shlM .i64 (1 : Int) v6).bind fun v7 =>
  (m_nat_times n a1 ([v7] : List Int)).bind fun v8 =>
  (app 8 v5 v8).bind fun v9 =>
  (m_nat_limited n v9).bind fun v10 =>
  some (v10.1, v10.2)

/-- cmp.isNaN[int] -/
def m_cmp_isNaN_int (_n : Nat) (a1 : Int) : Option Bool :=
  some (!decide (a1 = a1))

/-- cmp.Compare[int] -/
def m_cmp_Compare_int (n : Nat) (a1 : Int) (a2 : Int) : Option Int :=
  (m_cmp_isNaN_int n a1).bind fun v3 =>
  (m_cmp_isNaN_int n a2).bind fun v4 =>
  if v3 = true then
    if v4 = true then
      some (0 : Int)
    else
    some (-1 : Int)
  else
  if v4 = true then
    some (1 : Int)
  else
  if (decide (a1 < a2)) = true then
    some (-1 : Int)
  else
  if (decide (a2 < a1)) = true then
    some (1 : Int)
  else
  some (0 : Int)

def m_nat_compare_L1 (n : Nat) (a1 : (List Int)) (a2 : (List Int)) (s4 : Int) : Option (Int ⊕ (Int ⊕ Unit)) :=
  if (decide (s4 < (a1.length : Int))) = true then
    (ix a1 (IntKind.i64.wrap ((IntKind.i64.wrap ((a1.length : Int) - (1 : Int))) - s4))).bind fun v5 =>
    (ix a2 (IntKind.i64.wrap ((IntKind.i64.wrap ((a1.length : Int) - (1 : Int))) - s4))).bind fun v6 =>
    if (!decide (v5 = v6)) = true then
      (ix a1 (IntKind.i64.wrap ((IntKind.i64.wrap ((a1.length : Int) - (1 : Int))) - s4))).bind fun v7 =>
      (ix a2 (IntKind.i64.wrap ((IntKind.i64.wrap ((a1.length : Int) - (1 : Int))) - s4))).bind fun v8 =>
      (m_cmp_Compare_int n v7 v8).bind fun v9 =>
      some (.inr (.inl v9))
    else
    some (.inl (IntKind.i64.wrap (s4 + (1 : Int))))
  else
  some (.inr (.inr ()))

/-- bookplate/nat.compare -/
def m_nat_compare (n : Nat) (a1 : (List Int)) (a2 : (List Int)) : Option Int :=
  if (!decide ((a1.length : Int) = (a2.length : Int))) = true then
    (m_cmp_Compare_int n (a1.length : Int) (a2.length : Int)).bind fun v3 =>
    some v3
  else
  (iter n (fun s => m_nat_compare_L1 n a1 a2 s) (0 : Int)).bind fun t4 => match t4 with
  | (.inl u5) =>
    some u5
  | (.inr _u6) =>
    some (0 : Int)

/-- bookplate/nat.Compare -/
def m_nat_Compare (n : Nat) (a1 : (List Int)) (a2 : (List Int)) : Option Int :=
  (m_nat_Valid n a1).bind fun v3 =>
  ((if (!(!v3)) = true then m_nat_Valid n a2 else some default)).bind fun v4 =>
  if ((!v3) || (!v4)) = true then
    some (0 : Int)
  else
  (m_nat_compare n a1 a2).bind fun v5 =>
  some v5

/-- bookplate/odds.floor -/
def m_odds_floor (n : Nat) (a1 : (List Int)) (a2 : (List Int)) : Option Int :=
  (m_nat_Bits n a1).bind fun v3 =>
  (m_nat_Bits n a2).bind fun v4 =>
  (m_nat_Shift n a2 (max (IntKind.i64.wrap (v3 - v4)) (0 : Int))).bind fun v5 =>
  (m_nat_Shift n a1 (max (IntKind.i64.wrap (-(IntKind.i64.wrap (v3 - v4)))) (0 : Int))).bind fun v6 =>
  (
    (m_nat_Compare n v5.1 v6.1).bind fun v7 =>
    if (decide ((0 : Int) < v7)) = true then
      some (IntKind.i64.wrap ((IntKind.i64.wrap (v3 - v4)) - (1 : Int)))
    else
    some (IntKind.i64.wrap (v3 - v4)) : Option Int).bind fun t8 =>
  some t8

/-- bookplate/odds.Weight -/
def m_odds_Weight (n : Nat) (a1 : (List SRatio)) : Option (Int × Int) :=
  (m_odds_Valid n a1).bind fun v2 =>
  if (!v2) = true then
    some ((0 : Int), (1 : Int))
  else
  (m_odds_parts n a1).bind fun v3 =>
  (m_odds_eighth n v3.1).bind fun v4 =>
  (m_odds_eighth n v3.2).bind fun v5 =>
  (m_odds_floor n v4 v5).bind fun v6 =>
  some (v6, (0 : Int))

/-- bookplate/match.Weight -/
def m_match_Weight (n : Nat) (a1 : A72) (a2 : A7) : Option (Int × Int) :=
  (m_match_Factors n a1 a2).bind fun v3 =>
  if (!decide (v3.2 = (0 : Int))) = true then
    some ((0 : Int), v3.2)
  else
  (m_odds_Weight n v3.1).bind fun v4 =>
  some (v4.1, v4.2)

/-- bookplate/match.Editions -/
def m_match_Editions (n : Nat) : Option A72 :=
  (m_match_model n (⟨(⟨(8 : Int), (1 : Int), (3 : Int), (1 : Int), (1 : Int), (16 : Int)⟩ : A6), (⟨(4 : Int), (1 : Int), (2 : Int), (1 : Int), (1 : Int), (16 : Int)⟩ : A6), (⟨(6 : Int), (1 : Int), (1 : Int), (4 : Int), (1 : Int), (20 : Int)⟩ : A6), (⟨(400 : Int), (1 : Int), (1 : Int), (1 : Int), (1 : Int), (8 : Int)⟩ : A6), (⟨(2 : Int), (1 : Int), (1 : Int), (1 : Int), (1 : Int), (100 : Int)⟩ : A6), (⟨(3 : Int), (1 : Int), (3 : Int), (2 : Int), (1 : Int), (6 : Int)⟩ : A6), (⟨(5 : Int), (1 : Int), (1 : Int), (1 : Int), (1 : Int), (30 : Int)⟩ : A6)⟩ : A73)).bind fun v1 =>
  some v1

/-- bookplate/bookplatelaw31.awake -/
def m_law31_awake (n : Nat) : Option Bool :=
  (m_match_Compare n (⟨(1 : Int), ([([102, 97, 117, 115, 116] : List UInt8)] : List (List UInt8)), ([103, 111, 101, 116, 104, 101, 47, 47, 47] : List UInt8), [], [], [], [], []⟩ : SFeatures) (⟨(2 : Int), ([([102, 97, 117, 115, 116] : List UInt8)] : List (List UInt8)), ([103, 111, 101, 116, 104, 101, 47, 47, 47] : List UInt8), [], [], [], [], []⟩ : SFeatures)).bind fun v1 =>
  (m_match_Works n).bind fun v2 =>
  (m_match_Weight n v2 v1.1).bind fun v3 =>
  ((if ((((decide (v1.2 = (0 : Int))) && (decide (v3.2 = (0 : Int)))) && (decide (v3.1 = (63 : Int)))) && (decide (v1.1 = (⟨(1 : Int), (1 : Int), (0 : Int), (0 : Int), (0 : Int), (0 : Int), (0 : Int)⟩ : A7)))) = true then m_match_Editions n else some default)).bind fun v4 =>
  ((if ((((decide (v1.2 = (0 : Int))) && (decide (v3.2 = (0 : Int)))) && (decide (v3.1 = (63 : Int)))) && (decide (v1.1 = (⟨(1 : Int), (1 : Int), (0 : Int), (0 : Int), (0 : Int), (0 : Int), (0 : Int)⟩ : A7)))) = true then m_match_Valid n v4 else some default)).bind fun v5 =>
  some (((((decide (v1.2 = (0 : Int))) && (decide (v3.2 = (0 : Int)))) && (decide (v3.1 = (63 : Int)))) && (decide (v1.1 = (⟨(1 : Int), (1 : Int), (0 : Int), (0 : Int), (0 : Int), (0 : Int), (0 : Int)⟩ : A7)))) && v5)

def m_ref29_Few_L1 (_n : Nat) (v6 : (List (List UInt8))) (s7 : Int) (s8 : Int) : Option ((Int × Int) ⊕ (Bool ⊕ Int)) :=
  if ((decide (s8 < (v6.length : Int))) && (decide (s8 < (300 : Int)))) = true then
    (ix v6 s8).bind fun v9 =>
    if (decide ((110 : Int) < (v9.length : Int))) = true then
      some (.inr (.inl false))
    else
    (ix v6 s8).bind fun v10 =>
    some (.inl ((IntKind.i64.wrap (s7 + (v10.length : Int))), (IntKind.i64.wrap (s8 + (1 : Int)))))
  else
  some (.inr (.inr s7))

/-- bookplate/bookplateref29.Few -/
def m_ref29_Few (n : Nat) (a1 : SFeatures) : Option Bool :=
  (app 16 (([a1.fAuthor] : List (List UInt8)) : List (List UInt8)) a1.fTitle).bind fun v2 =>
  (app 16 v2 a1.fIsbns).bind fun v3 =>
  (app 16 v3 a1.fLangs).bind fun v4 =>
  (app 16 v4 a1.fPublisher).bind fun v5 =>
  (app 16 v5 a1.fEdition).bind fun v6 =>
  (iter n (fun s => m_ref29_Few_L1 n v6 s.1 s.2) ((0 : Int), (0 : Int))).bind fun t7 => match t7 with
  | (.inl u8) =>
    some u8
  | (.inr u9) =>
    some ((((decide ((v6.length : Int) ≤ (80 : Int))) || ((decide ((200 : Int) ≤ (v6.length : Int))) && (decide ((v6.length : Int) ≤ (220 : Int))))) && (decide (u9 ≤ (2000 : Int)))) && (decide ((a1.fYears.length : Int) ≤ (25 : Int))))

/-- bookplate/bookplatelaw29.Own -/
def m_law29_Own (_n : Nat) (a1 : SFeatures) : Option SFeatures :=
  some a1

def m_ref29_made_L1 (_n : Nat) (a1 : (List UInt8)) (a3 : Int) (a4 : Int) (s5 : Int) : Option (Int ⊕ (Bool ⊕ Unit)) :=
  if (decide (s5 < (a1.length : Int))) = true then
    (ixS a1 s5).bind fun v6 =>
    ((if (!(decide (v6 < a3))) = true then ixS a1 s5 else some default)).bind fun v7 =>
    if ((decide (v6 < a3)) || (decide (a4 < v7))) = true then
      some (.inr (.inl false))
    else
    some (.inl (IntKind.i64.wrap (s5 + (1 : Int))))
  else
  some (.inr (.inr ()))

/-- bookplate/bookplateref29.made -/
def m_ref29_made (n : Nat) (a1 : (List UInt8)) (a2 : Int) (a3 : Int) (a4 : Int) : Option Bool :=
  (iter n (fun s => m_ref29_made_L1 n a1 a3 a4 s) (0 : Int)).bind fun t5 => match t5 with
  | (.inl u6) =>
    some u6
  | (.inr _u7) =>
    some (decide ((a1.length : Int) = a2))

def m_ref29_word_L1 (_n : Nat) (a1 : (List UInt8)) (s2 : Int) : Option (Int ⊕ (Bool ⊕ Unit)) :=
  if (decide (s2 < (a1.length : Int))) = true then
    (ixS a1 s2).bind fun v3 =>
    if (decide (v3 ≤ (32 : Int))) = true then
      some (.inr (.inl false))
    else
    some (.inl (IntKind.i64.wrap (s2 + (1 : Int))))
  else
  some (.inr (.inr ()))

/-- bookplate/bookplateref29.word -/
def m_ref29_word (n : Nat) (a1 : (List UInt8)) : Option Bool :=
  (iter n (fun s => m_ref29_word_L1 n a1 s) (0 : Int)).bind fun t2 => match t2 with
  | (.inl u3) =>
    some u3
  | (.inr _u4) =>
    some ((decide ((1 : Int) ≤ (a1.length : Int))) && (decide ((a1.length : Int) ≤ (400 : Int))))

def m_ref29_Words_L1 (n : Nat) (a1 : (List (List UInt8))) (s2 : Int) : Option (Int ⊕ (Bool ⊕ Unit)) :=
  if (decide (s2 < (a1.length : Int))) = true then
    (ix a1 s2).bind fun v3 =>
    (m_ref29_word n v3).bind fun v4 =>
    if (!v4) = true then
      some (.inr (.inl false))
    else
    some (.inl (IntKind.i64.wrap (s2 + (1 : Int))))
  else
  some (.inr (.inr ()))

/-- bookplate/bookplateref29.Words -/
def m_ref29_Words (n : Nat) (a1 : (List (List UInt8))) : Option Bool :=
  (iter n (fun s => m_ref29_Words_L1 n a1 s) (0 : Int)).bind fun t2 => match t2 with
  | (.inl u3) =>
    some u3
  | (.inr _u4) =>
    some (decide ((a1.length : Int) ≤ (200 : Int)))

def m_ref29_key_L1 (_n : Nat) (a1 : (List UInt8)) (s2 : Int) : Option (Int ⊕ (Bool ⊕ Unit)) :=
  if (decide (s2 < (a1.length : Int))) = true then
    (ixS a1 s2).bind fun v3 =>
    if (decide (v3 < (32 : Int))) = true then
      some (.inr (.inl false))
    else
    some (.inl (IntKind.i64.wrap (s2 + (1 : Int))))
  else
  some (.inr (.inr ()))

/-- bookplate/bookplateref29.key -/
def m_ref29_key (n : Nat) (a1 : (List UInt8)) : Option Bool :=
  (iter n (fun s => m_ref29_key_L1 n a1 s) (0 : Int)).bind fun t2 => match t2 with
  | (.inl u3) =>
    some u3
  | (.inr _u4) =>
    ((if ((decide ((a1.length : Int) ≤ (420 : Int))) && (!(decide (a1 = ([] : List UInt8))))) = true then ixS a1 (0 : Int) else some default)).bind fun v5 =>
    ((if (((decide ((a1.length : Int) ≤ (420 : Int))) && (!(decide (a1 = ([] : List UInt8))))) && (!decide (v5 = (32 : Int)))) = true then ixS a1 (IntKind.i64.wrap ((a1.length : Int) - (1 : Int))) else some default)).bind fun v6 =>
    some ((decide ((a1.length : Int) ≤ (420 : Int))) && ((decide (a1 = ([] : List UInt8))) || ((!decide (v5 = (32 : Int))) && (!decide (v6 = (32 : Int))))))

def m_ref29_Ascending_L1 (_n : Nat) (a1 : (List (List UInt8))) (s2 : Int) : Option (Int ⊕ (Bool ⊕ Unit)) :=
  if (decide (s2 < (a1.length : Int))) = true then
    (ix a1 (IntKind.i64.wrap (s2 - (1 : Int)))).bind fun v3 =>
    (ix a1 s2).bind fun v4 =>
    if (!ltS v3 v4) = true then
      some (.inr (.inl false))
    else
    some (.inl (IntKind.i64.wrap (s2 + (1 : Int))))
  else
  some (.inr (.inr ()))

/-- bookplate/bookplateref29.Ascending -/
def m_ref29_Ascending (n : Nat) (a1 : (List (List UInt8))) : Option Bool :=
  (iter n (fun s => m_ref29_Ascending_L1 n a1 s) (1 : Int)).bind fun t2 => match t2 with
  | (.inl u3) =>
    some u3
  | (.inr _u4) =>
    some true

def m_ref29_Valid_L1 (_n : Nat) (a1 : SFeatures) (s2 : Int) : Option (Int ⊕ (Bool ⊕ Unit)) :=
  if (decide (s2 < (a1.fYears.length : Int))) = true then
    (ix a1.fYears s2).bind fun v3 =>
    ((if (!(decide (v3 < (1000 : Int)))) = true then ix a1.fYears s2 else some default)).bind fun v4 =>
    ((if ((!((decide (v3 < (1000 : Int))) || (decide ((2999 : Int) < v4)))) && (decide ((0 : Int) < s2))) = true then ix a1.fYears (IntKind.i64.wrap (s2 - (1 : Int))) else some default)).bind fun v5 =>
    ((if ((!((decide (v3 < (1000 : Int))) || (decide ((2999 : Int) < v4)))) && (decide ((0 : Int) < s2))) = true then ix a1.fYears s2 else some default)).bind fun v6 =>
    if (((decide (v3 < (1000 : Int))) || (decide ((2999 : Int) < v4))) || ((decide ((0 : Int) < s2)) && (decide (v6 ≤ v5)))) = true then
      some (.inr (.inl false))
    else
    some (.inl (IntKind.i64.wrap (s2 + (1 : Int))))
  else
  some (.inr (.inr ()))

def m_ref29_Valid_L2 (n : Nat) (a1 : SFeatures) (s5 : Int) : Option (Int ⊕ (Bool ⊕ Unit)) :=
  if (decide (s5 < (a1.fIsbns.length : Int))) = true then
    (ix a1.fIsbns s5).bind fun v6 =>
    (m_ref29_made n v6 (13 : Int) (48 : Int) (57 : Int)).bind fun v7 =>
    if (!v7) = true then
      some (.inr (.inl false))
    else
    some (.inl (IntKind.i64.wrap (s5 + (1 : Int))))
  else
  some (.inr (.inr ()))

def m_ref29_Valid_L3 (n : Nat) (a1 : SFeatures) (s8 : Int) : Option (Int ⊕ (Bool ⊕ Unit)) :=
  if (decide (s8 < (a1.fLangs.length : Int))) = true then
    (ix a1.fLangs s8).bind fun v9 =>
    (m_ref29_made n v9 (3 : Int) (97 : Int) (122 : Int)).bind fun v10 =>
    if (!v10) = true then
      some (.inr (.inl false))
    else
    some (.inl (IntKind.i64.wrap (s8 + (1 : Int))))
  else
  some (.inr (.inr ()))

/-- bookplate/bookplateref29.Valid -/
def m_ref29_Valid (n : Nat) (a1 : SFeatures) : Option Bool :=
  (iter n (fun s => m_ref29_Valid_L1 n a1 s) (0 : Int)).bind fun t2 => match t2 with
  | (.inl u3) =>
    some u3
  | (.inr _u4) =>
    (iter n (fun s => m_ref29_Valid_L2 n a1 s) (0 : Int)).bind fun t5 => match t5 with
    | (.inl u6) =>
      some u6
    | (.inr _u7) =>
      (iter n (fun s => m_ref29_Valid_L3 n a1 s) (0 : Int)).bind fun t8 => match t8 with
      | (.inl u9) =>
        some u9
      | (.inr _u10) =>
        if (((((decide ((20 : Int) < (a1.fYears.length : Int))) || (decide ((20 : Int) < (a1.fIsbns.length : Int)))) || (decide ((20 : Int) < (a1.fLangs.length : Int)))) || (decide (a1.fID < (1 : Int)))) || (decide ((1000000000 : Int) < a1.fID))) = true then
          some false
        else
        (m_ref29_Words n a1.fTitle).bind fun v11 =>
        ((if v11 = true then m_ref29_Words n a1.fPublisher else some default)).bind fun v12 =>
        ((if (v11 && v12) = true then m_ref29_Words n a1.fEdition else some default)).bind fun v13 =>
        ((if ((v11 && v12) && v13) = true then m_ref29_key n a1.fAuthor else some default)).bind fun v14 =>
        ((if (((v11 && v12) && v13) && v14) = true then m_ref29_Ascending n a1.fIsbns else some default)).bind fun v15 =>
        ((if ((((v11 && v12) && v13) && v14) && v15) = true then m_ref29_Ascending n a1.fLangs else some default)).bind fun v16 =>
        ((if (((((v11 && v12) && v13) && v14) && v15) && v16) = true then m_ref29_Ascending n a1.fPublisher else some default)).bind fun v17 =>
        ((if ((((((v11 && v12) && v13) && v14) && v15) && v16) && v17) = true then m_ref29_Ascending n a1.fEdition else some default)).bind fun v18 =>
        some (((((((v11 && v12) && v13) && v14) && v15) && v16) && v17) && v18)

def m_ref31_in_L1 (_n : Nat) (a1 : (List (List UInt8))) (a2 : (List UInt8)) (s3 : Int) : Option (Int ⊕ (Bool ⊕ Unit)) :=
  if (decide (s3 < (a1.length : Int))) = true then
    (ix a1 s3).bind fun v4 =>
    if (decide (v4 = a2)) = true then
      some (.inr (.inl true))
    else
    some (.inl (IntKind.i64.wrap (s3 + (1 : Int))))
  else
  some (.inr (.inr ()))

/-- bookplate/bookplateref31.in -/
def m_ref31_in (n : Nat) (a1 : (List (List UInt8))) (a2 : (List UInt8)) : Option Bool :=
  (iter n (fun s => m_ref31_in_L1 n a1 a2 s) (0 : Int)).bind fun t3 => match t3 with
  | (.inl u4) =>
    some u4
  | (.inr _u5) =>
    some false

def m_ref31_common_L1 (n : Nat) (a1 : (List (List UInt8))) (a2 : (List (List UInt8))) (s3 : Int) (s4 : Int) : Option ((Int × Int) ⊕ Int) :=
  if (decide (s4 < (a1.length : Int))) = true then
    (
      (ix a1 s4).bind fun v5 =>
      (m_ref31_in n a2 v5).bind fun v6 =>
      ((if v6 = true then slc a1 (0 : Int) s4 else some default)).bind fun v7 =>
      ((if v6 = true then ix a1 s4 else some default)).bind fun v8 =>
      ((if v6 = true then m_ref31_in n v7 v8 else some default)).bind fun v9 =>
      if (v6 && (!v9)) = true then
        some (IntKind.i64.wrap (s3 + (1 : Int)))
      else
      some s3 : Option Int).bind fun t10 =>
    some (.inl (t10, (IntKind.i64.wrap (s4 + (1 : Int)))))
  else
  some (.inr s3)

/-- bookplate/bookplateref31.common -/
def m_ref31_common (n : Nat) (a1 : (List (List UInt8))) (a2 : (List (List UInt8))) : Option Int :=
  (iter n (fun s => m_ref31_common_L1 n a1 a2 s.1 s.2) ((0 : Int), (0 : Int))).bind fun t3 =>
  some t3

def m_ref29_SameTexts_L1 (_n : Nat) (a1 : (List (List UInt8))) (a2 : (List (List UInt8))) (s3 : Int) : Option (Int ⊕ (Bool ⊕ Unit)) :=
  if (decide (s3 < (a1.length : Int))) = true then
    (ix a1 s3).bind fun v4 =>
    (ix a2 s3).bind fun v5 =>
    if (!decide (v4 = v5)) = true then
      some (.inr (.inl false))
    else
    some (.inl (IntKind.i64.wrap (s3 + (1 : Int))))
  else
  some (.inr (.inr ()))

/-- bookplate/bookplateref29.SameTexts -/
def m_ref29_SameTexts (n : Nat) (a1 : (List (List UInt8))) (a2 : (List (List UInt8))) : Option Bool :=
  if (!decide ((a1.length : Int) = (a2.length : Int))) = true then
    some false
  else
  (iter n (fun s => m_ref29_SameTexts_L1 n a1 a2 s) (0 : Int)).bind fun t3 => match t3 with
  | (.inl u4) =>
    some u4
  | (.inr _u5) =>
    some true

def m_ref31_joined_L1 (_n : Nat) (a1 : (List (List UInt8))) (s2 : (List UInt8)) (s3 : Int) : Option (((List UInt8) × Int) ⊕ (List UInt8)) :=
  if (decide (s3 < (a1.length : Int))) = true then
    (
      if (decide ((0 : Int) < s3)) = true then
        (appS s2 ([32] : List UInt8)).bind fun v4 =>
        some v4
      else
      some s2 : Option (List UInt8)).bind fun t5 =>
    (ix a1 s3).bind fun v6 =>
    (appS t5 v6).bind fun v7 =>
    some (.inl (v7, (IntKind.i64.wrap (s3 + (1 : Int)))))
  else
  some (.inr s2)

/-- bookplate/bookplateref31.joined -/
def m_ref31_joined (n : Nat) (a1 : (List (List UInt8))) : Option (List UInt8) :=
  (iter n (fun s => m_ref31_joined_L1 n a1 s.1 s.2) (([] : List UInt8), (0 : Int))).bind fun t2 =>
  some t2

def m_ref11_Chars_L1 (_n : Nat) (a1 : (List UInt8)) (s2 : (List Int)) (s3 : Nat) : Option (((List Int) × Nat) ⊕ ((List Int) × Nat)) :=
  (some (siN a1 s3)).bind fun v4 =>
  if v4.1 = true then
    (app 8 s2 ([(IntKind.i64.wrap v4.2.2.1)] : List Int)).bind fun v5 =>
    some (.inl (v5, v4.2.2.2))
  else
  some (.inr (s2, v4.2.2.2))

/-- bookplate/bookplateref11.Chars -/
def m_ref11_Chars (n : Nat) (a1 : (List UInt8)) : Option (List Int) :=
  (iter n (fun s => m_ref11_Chars_L1 n a1 s.1 s.2) ([], 0)).bind fun t2 =>
  some t2.1

def m_ref11_table_L2 (_n : Nat) (a1 : (List Int)) (a2 : (List Int)) (s5 : Int) (s10 : Int) (s11 : (List (Bool × (List Int)))) : Option ((Int × (List (Bool × (List Int)))) ⊕ (List (Bool × (List Int)))) :=
  if (decide ((0 : Int) ≤ s10)) = true then
    (
      if (decide (s5 = (a1.length : Int))) = true then
        (ix s11 s5).bind fun _v12 =>
        (ix s11 s5).bind fun _v13 =>
        (nlGet s11 s5 s10).bind fun _v14 =>
        (nlPut s11 s5 s10 (IntKind.i64.wrap ((a2.length : Int) - s10))).bind fun v15 =>
        some v15
      else
      if (decide (s10 = (a2.length : Int))) = true then
        (ix s11 s5).bind fun _v16 =>
        (ix s11 s5).bind fun _v17 =>
        (nlGet s11 s5 s10).bind fun _v18 =>
        (nlPut s11 s5 s10 (IntKind.i64.wrap ((a1.length : Int) - s5))).bind fun v19 =>
        some v19
      else
      (ix a1 s5).bind fun v20 =>
      (ix a2 s10).bind fun v21 =>
      if (decide (v20 = v21)) = true then
        (ix s11 s5).bind fun _v22 =>
        (ix s11 s5).bind fun _v23 =>
        (ix s11 (IntKind.i64.wrap (s5 + (1 : Int)))).bind fun _v24 =>
        (ix s11 (IntKind.i64.wrap (s5 + (1 : Int)))).bind fun _v25 =>
        (nlGet s11 (IntKind.i64.wrap (s5 + (1 : Int))) (IntKind.i64.wrap (s10 + (1 : Int)))).bind fun _v26 =>
        (nlGet s11 (IntKind.i64.wrap (s5 + (1 : Int))) (IntKind.i64.wrap (s10 + (1 : Int)))).bind fun v27 =>
        (nlGet s11 s5 s10).bind fun _v28 =>
        (nlPut s11 s5 s10 v27).bind fun v29 =>
        some v29
      else
      (ix s11 s5).bind fun _v30 =>
      (ix s11 s5).bind fun _v31 =>
      (ix s11 (IntKind.i64.wrap (s5 + (1 : Int)))).bind fun _v32 =>
      (ix s11 (IntKind.i64.wrap (s5 + (1 : Int)))).bind fun _v33 =>
      (nlGet s11 (IntKind.i64.wrap (s5 + (1 : Int))) (IntKind.i64.wrap (s10 + (1 : Int)))).bind fun _v34 =>
      (nlGet s11 (IntKind.i64.wrap (s5 + (1 : Int))) (IntKind.i64.wrap (s10 + (1 : Int)))).bind fun v35 =>
      (ix s11 (IntKind.i64.wrap (s5 + (1 : Int)))).bind fun _v36 =>
      (ix s11 (IntKind.i64.wrap (s5 + (1 : Int)))).bind fun _v37 =>
      (nlGet s11 (IntKind.i64.wrap (s5 + (1 : Int))) s10).bind fun _v38 =>
      (nlGet s11 (IntKind.i64.wrap (s5 + (1 : Int))) s10).bind fun v39 =>
      (ix s11 s5).bind fun _v40 =>
      (ix s11 s5).bind fun _v41 =>
      (nlGet s11 s5 (IntKind.i64.wrap (s10 + (1 : Int)))).bind fun _v42 =>
      (nlGet s11 s5 (IntKind.i64.wrap (s10 + (1 : Int)))).bind fun v43 =>
      (nlGet s11 s5 s10).bind fun _v44 =>
      (nlPut s11 s5 s10 (IntKind.i64.wrap ((1 : Int) + (min (min v35 v39) v43)))).bind fun v45 =>
      some v45 : Option (List (Bool × (List Int)))).bind fun t46 =>
    some (.inl ((IntKind.i64.wrap (s10 - (1 : Int))), t46))
  else
  some (.inr s11)

def m_ref11_table_L1 (n : Nat) (a1 : (List Int)) (a2 : (List Int)) (s5 : Int) (s6 : (List (Bool × (List Int)))) : Option ((Int × (List (Bool × (List Int)))) ⊕ (List (Bool × (List Int)))) :=
  if (decide ((0 : Int) ≤ s5)) = true then
    (mkL 8 (IntKind.i64.wrap ((a2.length : Int) + (1 : Int))) ((0 : Int) : Int)).bind fun v7 =>
    (ix s6 s5).bind fun _v8 =>
    (nlRow s6 s5 v7).bind fun v9 =>
    (iter n (fun s => m_ref11_table_L2 n a1 a2 s5 s.1 s.2) ((a2.length : Int), v9)).bind fun t10 =>
    some (.inl ((IntKind.i64.wrap (s5 - (1 : Int))), t10))
  else
  some (.inr s6)

/-- bookplate/bookplateref11.table -/
def m_ref11_table (n : Nat) (a1 : (List Int)) (a2 : (List Int)) : Option (List (List Int)) :=
  (mkL 24 (IntKind.i64.wrap ((a1.length : Int) + (1 : Int))) ([] : (List Int))).bind fun v3 =>
  (toNl v3).bind fun v4 =>
  (iter n (fun s => m_ref11_table_L1 n a1 a2 s.1 s.2) ((a1.length : Int), v4)).bind fun t5 =>
  some (t5.map Prod.snd)

/-- bookplate/bookplateref11.Distance -/
def m_ref11_Distance (n : Nat) (a1 : (List Int)) (a2 : (List Int)) : Option Int :=
  (m_ref11_table n a1 a2).bind fun v3 =>
  (ix v3 (0 : Int)).bind fun v4 =>
  (ix v4 (0 : Int)).bind fun v5 =>
  some v5

/-- bookplate/bookplateref11.Text -/
def m_ref11_Text (n : Nat) (a1 : (List UInt8)) (a2 : (List UInt8)) : Option Int :=
  (m_ref11_Chars n a1).bind fun v3 =>
  (m_ref11_Chars n a2).bind fun v4 =>
  (m_ref11_Distance n v3 v4).bind fun v5 =>
  some v5

/-- bookplate/bookplateref31.title -/
def m_ref31_title (n : Nat) (a1 : (List (List UInt8))) (a2 : (List (List UInt8))) : Option Int :=
  (m_ref31_common n a1 a2).bind fun v3 =>
  (m_ref31_common n a1 a1).bind fun v4 =>
  (m_ref31_common n a2 a2).bind fun v5 =>
  if ((decide ((a1.length : Int) = (0 : Int))) || (decide ((a2.length : Int) = (0 : Int)))) = true then
    some (0 : Int)
  else
  (m_ref29_SameTexts n a1 a2).bind fun v6 =>
  if v6 = true then
    some (1 : Int)
  else
  ((if (!(decide ((IntKind.i64.wrap ((3 : Int) * (IntKind.i64.wrap ((IntKind.i64.wrap (v4 + v5)) - v3)))) ≤ (IntKind.i64.wrap ((4 : Int) * v3))))) = true then m_ref31_joined n a1 else some default)).bind fun v7 =>
  ((if (!(decide ((IntKind.i64.wrap ((3 : Int) * (IntKind.i64.wrap ((IntKind.i64.wrap (v4 + v5)) - v3)))) ≤ (IntKind.i64.wrap ((4 : Int) * v3))))) = true then m_ref31_joined n a2 else some default)).bind fun v8 =>
  ((if (!(decide ((IntKind.i64.wrap ((3 : Int) * (IntKind.i64.wrap ((IntKind.i64.wrap (v4 + v5)) - v3)))) ≤ (IntKind.i64.wrap ((4 : Int) * v3))))) = true then m_ref11_Text n v7 v8 else some default)).bind fun v9 =>
  if ((decide ((IntKind.i64.wrap ((3 : Int) * (IntKind.i64.wrap ((IntKind.i64.wrap (v4 + v5)) - v3)))) ≤ (IntKind.i64.wrap ((4 : Int) * v3)))) || (decide (v9 ≤ (2 : Int)))) = true then
    some (2 : Int)
  else
  some (3 : Int)

/-- bookplate/bookplateref31.author -/
def m_ref31_author (n : Nat) (a1 : (List UInt8)) (a2 : (List UInt8)) : Option Int :=
  if ((decide (a1 = ([] : List UInt8))) || (decide (a2 = ([] : List UInt8)))) = true then
    some (0 : Int)
  else
  if (decide (a1 = a2)) = true then
    some (1 : Int)
  else
  (m_ref11_Text n a1 a2).bind fun v3 =>
  if (decide (v3 ≤ (2 : Int))) = true then
    some (2 : Int)
  else
  some (3 : Int)

def m_ref31_years_L2 (_n : Nat) (a1 : (List Int)) (a2 : (List Int)) (s4 : Int) (s5 : Int) (s6 : Int) : Option ((Int × Int) ⊕ (Int ⊕ Int)) :=
  if (decide (s6 < (a2.length : Int))) = true then
    (
      (ix a1 s4).bind fun v7 =>
      (ix a2 s6).bind fun v8 =>
      if (decide ((IntKind.i64.wrap (v7 - v8)) = (0 : Int))) = true then
        some (.inl (1 : Int))
      else
      if ((decide ((IntKind.i64.wrap (v7 - v8)) = (1 : Int))) || (decide ((IntKind.i64.wrap (v7 - v8)) = (-1 : Int)))) = true then
        some (.inr (2 : Int))
      else
      some (.inr s5) : Option (Int ⊕ Int)).bind fun t9 => match t9 with
    | (.inl u10) =>
      some (.inr (.inl u10))
    | (.inr u11) =>
      some (.inl (u11, (IntKind.i64.wrap (s6 + (1 : Int)))))
  else
  some (.inr (.inr s5))

def m_ref31_years_L1 (n : Nat) (a1 : (List Int)) (a2 : (List Int)) (s3 : Int) (s4 : Int) : Option ((Int × Int) ⊕ (Int ⊕ Int)) :=
  if (decide (s4 < (a1.length : Int))) = true then
    (iter n (fun s => m_ref31_years_L2 n a1 a2 s4 s.1 s.2) (s3, (0 : Int))).bind fun t5 => match t5 with
    | (.inl u6) =>
      some (.inr (.inl u6))
    | (.inr u7) =>
      some (.inl (u7, (IntKind.i64.wrap (s4 + (1 : Int)))))
  else
  some (.inr (.inr s3))

/-- bookplate/bookplateref31.years -/
def m_ref31_years (n : Nat) (a1 : (List Int)) (a2 : (List Int)) : Option Int :=
  if ((decide ((a1.length : Int) = (0 : Int))) || (decide ((a2.length : Int) = (0 : Int)))) = true then
    some (0 : Int)
  else
  (iter n (fun s => m_ref31_years_L1 n a1 a2 s.1 s.2) ((3 : Int), (0 : Int))).bind fun t3 => match t3 with
  | (.inl u4) =>
    some u4
  | (.inr u5) =>
    some u5

/-- bookplate/bookplateref31.sets -/
def m_ref31_sets (n : Nat) (a1 : (List (List UInt8))) (a2 : (List (List UInt8))) (a3 : Bool) (a4 : Int) : Option Int :=
  if ((decide ((a1.length : Int) = (0 : Int))) || (decide ((a2.length : Int) = (0 : Int)))) = true then
    some (0 : Int)
  else
  ((if a3 = true then m_ref29_SameTexts n a1 a2 else some default)).bind fun v5 =>
  ((if ((!(a3 && v5)) && (!a3)) = true then m_ref31_common n a1 a2 else some default)).bind fun v6 =>
  if ((a3 && v5) || ((!a3) && (decide ((0 : Int) < v6)))) = true then
    some (1 : Int)
  else
  (m_ref31_common n a1 a2).bind fun v7 =>
  if (decide ((0 : Int) < v7)) = true then
    some a4
  else
  some (3 : Int)

/-- bookplate/bookplateref31.compare -/
def m_ref31_compare (n : Nat) (a1 : SFeatures) (a2 : SFeatures) : Option A7 :=
  (m_ref31_title n a1.fTitle a2.fTitle).bind fun v3 =>
  (m_ref31_author n a1.fAuthor a2.fAuthor).bind fun v4 =>
  (m_ref31_years n a1.fYears a2.fYears).bind fun v5 =>
  (m_ref31_sets n a1.fIsbns a2.fIsbns false (1 : Int)).bind fun v6 =>
  (m_ref31_sets n a1.fLangs a2.fLangs false (1 : Int)).bind fun v7 =>
  (m_ref31_sets n a1.fPublisher a2.fPublisher true (2 : Int)).bind fun v8 =>
  (m_ref31_sets n a1.fEdition a2.fEdition true (3 : Int)).bind fun v9 =>
  some (⟨v3, v4, v5, v6, v7, v8, v9⟩ : A7)

def m_law31_Own_L2 (_n : Nat) (a1 : A72) (s2 : Int) (s4 : Int) (s5 : A72) : Option ((Int × A72) ⊕ A72) :=
  if (decide (s4 < (3 : Int))) = true then
    (ix a1.l s2).bind fun v6 =>
    (ix v6.l s4).bind fun v7 =>
    (ix s5.l s2).bind fun v8 =>
    (ix v8.l s4).bind fun _v9 =>
    (A3.put v8 s4 v7).bind fun v10 =>
    (A72.put s5 s2 v10).bind fun v11 =>
    some (.inl ((IntKind.i64.wrap (s4 + (1 : Int))), v11))
  else
  some (.inr s5)

def m_law31_Own_L1 (n : Nat) (a1 : A72) (s2 : Int) (s3 : A72) : Option ((Int × A72) ⊕ A72) :=
  if (decide (s2 < (7 : Int))) = true then
    (iter n (fun s => m_law31_Own_L2 n a1 s2 s.1 s.2) ((0 : Int), s3)).bind fun t4 =>
    some (.inl ((IntKind.i64.wrap (s2 + (1 : Int))), t4))
  else
  some (.inr s3)

/-- bookplate/bookplatelaw31.Own -/
def m_law31_Own (n : Nat) (a1 : A72) : Option A72 :=
  (iter n (fun s => m_law31_Own_L1 n a1 s.1 s.2) ((0 : Int), (⟨(⟨(⟨(0 : Int), (0 : Int)⟩ : SRatio), (⟨(0 : Int), (0 : Int)⟩ : SRatio), (⟨(0 : Int), (0 : Int)⟩ : SRatio)⟩ : A3), (⟨(⟨(0 : Int), (0 : Int)⟩ : SRatio), (⟨(0 : Int), (0 : Int)⟩ : SRatio), (⟨(0 : Int), (0 : Int)⟩ : SRatio)⟩ : A3), (⟨(⟨(0 : Int), (0 : Int)⟩ : SRatio), (⟨(0 : Int), (0 : Int)⟩ : SRatio), (⟨(0 : Int), (0 : Int)⟩ : SRatio)⟩ : A3), (⟨(⟨(0 : Int), (0 : Int)⟩ : SRatio), (⟨(0 : Int), (0 : Int)⟩ : SRatio), (⟨(0 : Int), (0 : Int)⟩ : SRatio)⟩ : A3), (⟨(⟨(0 : Int), (0 : Int)⟩ : SRatio), (⟨(0 : Int), (0 : Int)⟩ : SRatio), (⟨(0 : Int), (0 : Int)⟩ : SRatio)⟩ : A3), (⟨(⟨(0 : Int), (0 : Int)⟩ : SRatio), (⟨(0 : Int), (0 : Int)⟩ : SRatio), (⟨(0 : Int), (0 : Int)⟩ : SRatio)⟩ : A3), (⟨(⟨(0 : Int), (0 : Int)⟩ : SRatio), (⟨(0 : Int), (0 : Int)⟩ : SRatio), (⟨(0 : Int), (0 : Int)⟩ : SRatio)⟩ : A3)⟩ : A72))).bind fun t2 =>
  some t2

def m_law29_Owns_L1 (n : Nat) (a1 : (List SFeatures)) (s2 : (List SFeatures)) (s3 : Int) : Option (((List SFeatures) × Int) ⊕ (List SFeatures)) :=
  if (decide (s3 < (a1.length : Int))) = true then
    (ix a1 s3).bind fun v4 =>
    (m_law29_Own n v4).bind fun v5 =>
    (app 168 s2 ([v5] : List SFeatures)).bind fun v6 =>
    some (.inl (v6, (IntKind.i64.wrap (s3 + (1 : Int)))))
  else
  some (.inr s2)

/-- bookplate/bookplatelaw29.Owns -/
def m_law29_Owns (n : Nat) (a1 : (List SFeatures)) : Option (List SFeatures) :=
  (iter n (fun s => m_law29_Owns_L1 n a1 s.1 s.2) ([], (0 : Int))).bind fun t2 =>
  some t2

def m_slices_IndexFunc_feature_Features_feature_Features_L1 (_n : Nat) (a1 : (List SFeatures)) (p2 : SFeatures → Option Bool) (s3 : Int) : Option (Int ⊕ (Int ⊕ Unit)) :=
  if (decide (s3 < (a1.length : Int))) = true then
    (ix a1 s3).bind fun v4 =>
    (p2 v4).bind fun v5 =>
    if v5 = true then
      some (.inr (.inl s3))
    else
    some (.inl (IntKind.i64.wrap (s3 + (1 : Int))))
  else
  some (.inr (.inr ()))

/-- slices.IndexFunc[[]bookplate/feature.Features,bookplate/feature.Features] -/
def m_slices_IndexFunc_feature_Features_feature_Features (n : Nat) (a1 : (List SFeatures)) (p2 : SFeatures → Option Bool) : Option Int :=
  (iter n (fun s => m_slices_IndexFunc_feature_Features_feature_Features_L1 n a1 p2 s) (0 : Int)).bind fun t3 => match t3 with
  | (.inl u4) =>
    some u4
  | (.inr _u5) =>
    some (-1 : Int)

/-- slices.ContainsFunc[[]bookplate/feature.Features,bookplate/feature.Features] -/
def m_slices_ContainsFunc_feature_Features_feature_Features (n : Nat) (a1 : (List SFeatures)) (p2 : SFeatures → Option Bool) : Option Bool :=
  (m_slices_IndexFunc_feature_Features_feature_Features n a1 p2).bind fun v3 =>
  some (decide ((0 : Int) ≤ v3))

/-- bookplate/match.All$1 -/
def m_match_All_1 (n : Nat) (a1 : SFeatures) : Option Bool :=
  (m_feature_Valid n a1).bind fun v2 =>
  some (!v2)

def m_match_All_L1 (_n : Nat) (a2 : (List SFeatures)) (s6 : Int) (s7 : (List (Int × Int))) : Option ((Int × (List (Int × Int))) ⊕ (((List SWeighted) × Int) ⊕ (List (Int × Int)))) :=
  if (decide (s6 < (a2.length : Int))) = true then
    (ix a2 s6).bind fun v8 =>
    if (mget s7 v8.fID).isSome = true then
      some (.inr (.inl ([], (10 : Int))))
    else
    (some (mput s7 v8.fID s6)).bind fun v9 =>
    some (.inl ((IntKind.i64.wrap (s6 + (1 : Int))), v9))
  else
  some (.inr (.inr s7))

def m_match_All_L2 (_n : Nat) (a3 : (List SPair)) (u8 : (List (Int × Int))) (s9 : Int) : Option (Int ⊕ (((List SWeighted) × Int) ⊕ Unit)) :=
  if (decide (s9 < (a3.length : Int))) = true then
    (ix a3 s9).bind fun v10 =>
    if ((!(mget u8 v10.fA).isSome) || (!(mget u8 v10.fB).isSome)) = true then
      some (.inr (.inl ([], (9 : Int))))
    else
    some (.inl (IntKind.i64.wrap (s9 + (1 : Int))))
  else
  some (.inr (.inr ()))

def m_match_All_L3 (_n : Nat) (a3 : (List SPair)) (s12 : Int) : Option (Int ⊕ (((List SWeighted) × Int) ⊕ Unit)) :=
  if (decide (s12 < (a3.length : Int))) = true then
    (ix a3 s12).bind fun v13 =>
    ((if ((!(decide (v13.fB ≤ v13.fA))) && (decide ((0 : Int) < s12))) = true then ix a3 (IntKind.i64.wrap (s12 - (1 : Int))) else some default)).bind fun v14 =>
    ((if (((!(decide (v13.fB ≤ v13.fA))) && (decide ((0 : Int) < s12))) && (!(decide (v13.fA < v14.fA)))) = true then ix a3 (IntKind.i64.wrap (s12 - (1 : Int))) else some default)).bind fun v15 =>
    ((if ((((!(decide (v13.fB ≤ v13.fA))) && (decide ((0 : Int) < s12))) && (!(decide (v13.fA < v14.fA)))) && (decide (v13.fA = v15.fA))) = true then ix a3 (IntKind.i64.wrap (s12 - (1 : Int))) else some default)).bind fun v16 =>
    if ((decide (v13.fB ≤ v13.fA)) || ((decide ((0 : Int) < s12)) && ((decide (v13.fA < v14.fA)) || ((decide (v13.fA = v15.fA)) && (decide (v13.fB ≤ v16.fB)))))) = true then
      some (.inr (.inl ([], (19 : Int))))
    else
    some (.inl (IntKind.i64.wrap (s12 + (1 : Int))))
  else
  some (.inr (.inr ()))

def m_match_All_L4 (n : Nat) (a1 : A72) (a2 : (List SFeatures)) (a3 : (List SPair)) (u8 : (List (Int × Int))) (s15 : (List SWeighted)) (s16 : Int) : Option (((List SWeighted) × Int) ⊕ (List SWeighted)) :=
  if (decide (s16 < (a3.length : Int))) = true then
    (ix a3 s16).bind fun v17 =>
    (ix a2 ((mget u8 v17.fA).getD ((0 : Int) : Int))).bind fun v18 =>
    (ix a2 ((mget u8 v17.fB).getD ((0 : Int) : Int))).bind fun v19 =>
    (m_match_Compare n v18 v19).bind fun v20 =>
    (m_match_Weight n a1 v20.1).bind fun v21 =>
    (app 24 s15 ([(⟨v17, v21.1⟩ : SWeighted)] : List SWeighted)).bind fun v22 =>
    some (.inl (v22, (IntKind.i64.wrap (s16 + (1 : Int)))))
  else
  some (.inr s15)

/-- bookplate/match.All -/
def m_match_All (n : Nat) (a1 : A72) (a2 : (List SFeatures)) (a3 : (List SPair)) : Option ((List SWeighted) × Int) :=
  (m_match_Valid n a1).bind fun v4 =>
  ((if (!(!v4)) = true then m_slices_ContainsFunc_feature_Features_feature_Features n a2 (fun y1 => m_match_All_1 n y1) else some default)).bind fun v5 =>
  if ((!v4) || v5) = true then
    some ([], (1 : Int))
  else
  (iter n (fun s => m_match_All_L1 n a2 s.1 s.2) ((0 : Int), [])).bind fun t6 => match t6 with
  | (.inl u7) =>
    some u7
  | (.inr u8) =>
    (iter n (fun s => m_match_All_L2 n a3 u8 s) (0 : Int)).bind fun t9 => match t9 with
    | (.inl u10) =>
      some u10
    | (.inr _u11) =>
      (iter n (fun s => m_match_All_L3 n a3 s) (0 : Int)).bind fun t12 => match t12 with
      | (.inl u13) =>
        some u13
      | (.inr _u14) =>
        (iter n (fun s => m_match_All_L4 n a1 a2 a3 u8 s.1 s.2) ([], (0 : Int))).bind fun t15 =>
        some (t15, (0 : Int))

def m_ref28_Valid_L1 (_n : Nat) (a1 : (List SRatio)) (s2 : Int) : Option (Int ⊕ (Bool ⊕ Unit)) :=
  if (decide (s2 < (a1.length : Int))) = true then
    (ix a1 s2).bind fun v3 =>
    ((if (!(decide (v3.fNum < (1 : Int)))) = true then ix a1 s2 else some default)).bind fun v4 =>
    ((if (!((decide (v3.fNum < (1 : Int))) || (decide ((1000 : Int) < v4.fNum)))) = true then ix a1 s2 else some default)).bind fun v5 =>
    ((if (!(((decide (v3.fNum < (1 : Int))) || (decide ((1000 : Int) < v4.fNum))) || (decide (v5.fDen < (1 : Int))))) = true then ix a1 s2 else some default)).bind fun v6 =>
    if ((((decide (v3.fNum < (1 : Int))) || (decide ((1000 : Int) < v4.fNum))) || (decide (v5.fDen < (1 : Int)))) || (decide ((1000 : Int) < v6.fDen))) = true then
      some (.inr (.inl false))
    else
    some (.inl (IntKind.i64.wrap (s2 + (1 : Int))))
  else
  some (.inr (.inr ()))

/-- bookplate/bookplateref28.Valid -/
def m_ref28_Valid (n : Nat) (a1 : (List SRatio)) : Option Bool :=
  (iter n (fun s => m_ref28_Valid_L1 n a1 s) (0 : Int)).bind fun t2 => match t2 with
  | (.inl u3) =>
    some u3
  | (.inr _u4) =>
    some (decide ((a1.length : Int) ≤ (12 : Int)))

def m_ref31_Valid_L2 (n : Nat) (a1 : A72) (s2 : Int) (s3 : Int) : Option (Int ⊕ (Bool ⊕ Unit)) :=
  if (decide (s3 < (3 : Int))) = true then
    (ix a1.l s2).bind fun v4 =>
    (ix v4.l s3).bind fun v5 =>
    (m_ref28_Valid n ([v5] : List SRatio)).bind fun v6 =>
    if (!v6) = true then
      some (.inr (.inl false))
    else
    some (.inl (IntKind.i64.wrap (s3 + (1 : Int))))
  else
  some (.inr (.inr ()))

def m_ref31_Valid_L1 (n : Nat) (a1 : A72) (s2 : Int) : Option (Int ⊕ (Bool ⊕ Unit)) :=
  if (decide (s2 < (7 : Int))) = true then
    (iter n (fun s => m_ref31_Valid_L2 n a1 s2 s) (0 : Int)).bind fun t3 => match t3 with
    | (.inl u4) =>
      some (.inr (.inl u4))
    | (.inr _u5) =>
      some (.inl (IntKind.i64.wrap (s2 + (1 : Int))))
  else
  some (.inr (.inr ()))

/-- bookplate/bookplateref31.Valid -/
def m_ref31_Valid (n : Nat) (a1 : A72) : Option Bool :=
  (iter n (fun s => m_ref31_Valid_L1 n a1 s) (0 : Int)).bind fun t2 => match t2 with
  | (.inl u3) =>
    some u3
  | (.inr _u4) =>
    some true

def m_ref31_find_L1 (_n : Nat) (a1 : (List SFeatures)) (a2 : Int) (s3 : Int) : Option (Int ⊕ (Int ⊕ Unit)) :=
  if (decide (s3 < (a1.length : Int))) = true then
    (ix a1 s3).bind fun v4 =>
    if (decide (v4.fID = a2)) = true then
      some (.inr (.inl s3))
    else
    some (.inl (IntKind.i64.wrap (s3 + (1 : Int))))
  else
  some (.inr (.inr ()))

/-- bookplate/bookplateref31.find -/
def m_ref31_find (n : Nat) (a1 : (List SFeatures)) (a2 : Int) : Option Int :=
  (iter n (fun s => m_ref31_find_L1 n a1 a2 s) (0 : Int)).bind fun t3 => match t3 with
  | (.inl u4) =>
    some u4
  | (.inr _u5) =>
    some (-1 : Int)

def m_ref31_Factors_L1 (_n : Nat) (a1 : A72) (a2 : A7) (s4 : (List SRatio)) (s5 : Int) : Option (((List SRatio) × Int) ⊕ (((List SRatio) × Int) ⊕ (List SRatio))) :=
  if (decide (s5 < (7 : Int))) = true then
    (
      (ix a2.l s5).bind fun v6 =>
      ((if (!(decide (v6 < (0 : Int)))) = true then ix a2.l s5 else some default)).bind fun v7 =>
      if ((decide (v6 < (0 : Int))) || (decide ((3 : Int) < v7))) = true then
        some (.inl ([], (1 : Int)))
      else
      (ix a2.l s5).bind fun v8 =>
      if (!decide (v8 = (0 : Int))) = true then
        (ix a2.l s5).bind fun v9 =>
        (ix a1.l s5).bind fun v10 =>
        (ix v10.l (IntKind.i64.wrap (v9 - (1 : Int)))).bind fun v11 =>
        (app 16 s4 ([v11] : List SRatio)).bind fun v12 =>
        some (.inr v12)
      else
      some (.inr s4) : Option (((List SRatio) × Int) ⊕ (List SRatio))).bind fun t13 => match t13 with
    | (.inl u14) =>
      some (.inr (.inl u14))
    | (.inr u15) =>
      some (.inl (u15, (IntKind.i64.wrap (s5 + (1 : Int)))))
  else
  some (.inr (.inr s4))

/-- bookplate/bookplateref31.Factors -/
def m_ref31_Factors (n : Nat) (a1 : A72) (a2 : A7) : Option ((List SRatio) × Int) :=
  (m_ref31_Valid n a1).bind fun v3 =>
  if (!v3) = true then
    some ([], (1 : Int))
  else
  (iter n (fun s => m_ref31_Factors_L1 n a1 a2 s.1 s.2) ([], (0 : Int))).bind fun t4 => match t4 with
  | (.inl u5) =>
    some u5
  | (.inr u6) =>
    some (u6, (0 : Int))

def m_ref03_Valid_L1 (_n : Nat) (a1 : (List Int)) (s2 : Int) : Option (Int ⊕ (Bool ⊕ Unit)) :=
  if (decide (s2 < (a1.length : Int))) = true then
    (ix a1 s2).bind fun v3 =>
    ((if (!(decide (v3 < (0 : Int)))) = true then ix a1 s2 else some default)).bind fun v4 =>
    if ((decide (v3 < (0 : Int))) || (decide ((65536 : Int) ≤ v4))) = true then
      some (.inr (.inl false))
    else
    some (.inl (IntKind.i64.wrap (s2 + (1 : Int))))
  else
  some (.inr (.inr ()))

/-- bookplate/bookplateref03.Valid -/
def m_ref03_Valid (n : Nat) (a1 : (List Int)) : Option Bool :=
  (iter n (fun s => m_ref03_Valid_L1 n a1 s) (0 : Int)).bind fun t2 => match t2 with
  | (.inl u3) =>
    some u3
  | (.inr _u4) =>
    ((if ((decide ((a1.length : Int) ≤ (128 : Int))) && (!(decide ((a1.length : Int) = (0 : Int))))) = true then ix a1 (IntKind.i64.wrap ((a1.length : Int) - (1 : Int))) else some default)).bind fun v5 =>
    some ((decide ((a1.length : Int) ≤ (128 : Int))) && ((decide ((a1.length : Int) = (0 : Int))) || (!decide (v5 = (0 : Int)))))

def m_ref03_trim_L1 (_n : Nat) (a1 : (List Int)) (s2 : Int) : Option (Int ⊕ Int) :=
  ((if (decide ((0 : Int) < s2)) = true then ix a1 (IntKind.i64.wrap (s2 - (1 : Int))) else some default)).bind fun v3 =>
  if ((decide ((0 : Int) < s2)) && (decide (v3 = (0 : Int)))) = true then
    some (.inl (IntKind.i64.wrap (s2 - (1 : Int))))
  else
  some (.inr s2)

/-- bookplate/bookplateref03.trim -/
def m_ref03_trim (n : Nat) (a1 : (List Int)) : Option (List Int) :=
  (iter n (fun s => m_ref03_trim_L1 n a1 s) (a1.length : Int)).bind fun t2 =>
  (slc a1 (0 : Int) t2).bind fun v3 =>
  (app 8 (([] : List Int) : List Int) v3).bind fun v4 =>
  some v4

def m_ref03_times_L2 (_n : Nat) (a1 : (List Int)) (a2 : (List Int)) (s4 : Int) (s6 : Int) (s7 : Int) (s8 : (List Int)) : Option ((Int × Int × (List Int)) ⊕ (Int × (List Int))) :=
  if (decide (s7 < (a2.length : Int))) = true then
    (ix s8 (IntKind.i64.wrap (s4 + s7))).bind fun _v9 =>
    (ix s8 (IntKind.i64.wrap (s4 + s7))).bind fun v10 =>
    (ix a1 s4).bind fun v11 =>
    (ix a2 s7).bind fun v12 =>
    (rem (IntKind.i64.wrap (s6 + (IntKind.i64.wrap (v10 + (IntKind.i64.wrap (v11 * v12)))))) (65536 : Int)).bind fun v13 =>
    (ix s8 (IntKind.i64.wrap (s4 + s7))).bind fun _v14 =>
    (setI s8 (IntKind.i64.wrap (s4 + s7)) v13).bind fun v15 =>
    (quo .i64 (IntKind.i64.wrap (s6 + (IntKind.i64.wrap (v10 + (IntKind.i64.wrap (v11 * v12)))))) (65536 : Int)).bind fun v16 =>
    some (.inl (v16, (IntKind.i64.wrap (s7 + (1 : Int))), v15))
  else
  some (.inr (s6, s8))

def m_ref03_times_L1 (n : Nat) (a1 : (List Int)) (a2 : (List Int)) (s4 : Int) (s5 : (List Int)) : Option ((Int × (List Int)) ⊕ (List Int)) :=
  if (decide (s4 < (a1.length : Int))) = true then
    (iter n (fun s => m_ref03_times_L2 n a1 a2 s4 s.1 s.2.1 s.2.2) ((0 : Int), (0 : Int), s5)).bind fun t6 =>
    (ix t6.2 (IntKind.i64.wrap (s4 + (a2.length : Int)))).bind fun _v7 =>
    (setI t6.2 (IntKind.i64.wrap (s4 + (a2.length : Int))) t6.1).bind fun v8 =>
    some (.inl ((IntKind.i64.wrap (s4 + (1 : Int))), v8))
  else
  some (.inr s5)

/-- bookplate/bookplateref03.times -/
def m_ref03_times (n : Nat) (a1 : (List Int)) (a2 : (List Int)) : Option (List Int) :=
  (mkL 8 (IntKind.i64.wrap ((a1.length : Int) + (a2.length : Int))) ((0 : Int) : Int)).bind fun v3 =>
  (iter n (fun s => m_ref03_times_L1 n a1 a2 s.1 s.2) ((0 : Int), v3)).bind fun t4 =>
  (m_ref03_trim n t4).bind fun v5 =>
  some v5

/-- bookplate/bookplateref03.limited -/
def m_ref03_limited (n : Nat) (a1 : (List Int)) : Option ((List Int) × Int) :=
  (m_ref03_trim n a1).bind fun v2 =>
  if (decide ((128 : Int) < (v2.length : Int))) = true then
    some ([], (3 : Int))
  else
  some (v2, (0 : Int))

/-- bookplate/bookplateref03.Mul -/
def m_ref03_Mul (n : Nat) (a1 : (List Int)) (a2 : (List Int)) : Option ((List Int) × Int) :=
  (m_ref03_Valid n a1).bind fun v3 =>
  ((if (!(!v3)) = true then m_ref03_Valid n a2 else some default)).bind fun v4 =>
  if ((!v3) || (!v4)) = true then
    some ([], (1 : Int))
  else
  (m_ref03_times n a1 a2).bind fun v5 =>
  (m_ref03_limited n v5).bind fun v6 =>
  some (v6.1, v6.2)

def m_ref03_compare_L1 (_n : Nat) (a1 : (List Int)) (a2 : (List Int)) (s3 : Int) : Option (Int ⊕ (Int ⊕ Unit)) :=
  if (decide ((0 : Int) ≤ s3)) = true then
    (ix a1 s3).bind fun v4 =>
    (ix a2 s3).bind fun v5 =>
    if (decide (v4 < v5)) = true then
      some (.inr (.inl (-1 : Int)))
    else
    (ix a1 s3).bind fun v6 =>
    (ix a2 s3).bind fun v7 =>
    if (decide (v7 < v6)) = true then
      some (.inr (.inl (1 : Int)))
    else
    some (.inl (IntKind.i64.wrap (s3 - (1 : Int))))
  else
  some (.inr (.inr ()))

/-- bookplate/bookplateref03.compare -/
def m_ref03_compare (n : Nat) (a1 : (List Int)) (a2 : (List Int)) : Option Int :=
  if (!decide ((a1.length : Int) = (a2.length : Int))) = true then
    if (decide ((a1.length : Int) < (a2.length : Int))) = true then
      some (-1 : Int)
    else
    some (1 : Int)
  else
  (iter n (fun s => m_ref03_compare_L1 n a1 a2 s) (IntKind.i64.wrap ((a1.length : Int) - (1 : Int)))).bind fun t3 => match t3 with
  | (.inl u4) =>
    some u4
  | (.inr _u5) =>
    some (0 : Int)

def m_ref03_sum_L1 (_n : Nat) (a1 : (List Int)) (a2 : (List Int)) (s3 : (List Int)) (s4 : Int) (s5 : Int) : Option (((List Int) × Int × Int) ⊕ ((List Int) × Int)) :=
  if ((decide (s5 < (a1.length : Int))) || (decide (s5 < (a2.length : Int)))) = true then
    (
      if (decide (s5 < (a1.length : Int))) = true then
        (ix a1 s5).bind fun v6 =>
        some (IntKind.i64.wrap (s4 + v6))
      else
      some s4 : Option Int).bind fun t7 =>
    (
      if (decide (s5 < (a2.length : Int))) = true then
        (ix a2 s5).bind fun v8 =>
        some (IntKind.i64.wrap (t7 + v8))
      else
      some t7 : Option Int).bind fun t9 =>
    (rem t9 (65536 : Int)).bind fun v10 =>
    (app 8 s3 ([v10] : List Int)).bind fun v11 =>
    (quo .i64 t9 (65536 : Int)).bind fun v12 =>
    some (.inl (v11, v12, (IntKind.i64.wrap (s5 + (1 : Int)))))
  else
  some (.inr (s3, s4))

/-- bookplate/bookplateref03.sum -/
def m_ref03_sum (n : Nat) (a1 : (List Int)) (a2 : (List Int)) : Option (List Int) :=
  (iter n (fun s => m_ref03_sum_L1 n a1 a2 s.1 s.2.1 s.2.2) ([], (0 : Int), (0 : Int))).bind fun t3 =>
  (app 8 t3.1 ([t3.2] : List Int)).bind fun v4 =>
  (m_ref03_trim n v4).bind fun v5 =>
  some v5

def m_ref03_half_L1 (_n : Nat) (a1 : (List Int)) (s3 : Int) (s4 : (List Int)) : Option ((Int × (List Int)) ⊕ (List Int)) :=
  if (decide (s3 < (a1.length : Int))) = true then
    (
      (ix a1 s3).bind fun v5 =>
      (quo .i64 v5 (2 : Int)).bind fun v6 =>
      (ix s4 s3).bind fun _v7 =>
      (setI s4 s3 v6).bind fun v8 =>
      ((if (decide ((IntKind.i64.wrap (s3 + (1 : Int))) < (a1.length : Int))) = true then ix a1 (IntKind.i64.wrap (s3 + (1 : Int))) else some default)).bind fun v9 =>
      ((if (decide ((IntKind.i64.wrap (s3 + (1 : Int))) < (a1.length : Int))) = true then rem v9 (2 : Int) else some default)).bind fun v10 =>
      if ((decide ((IntKind.i64.wrap (s3 + (1 : Int))) < (a1.length : Int))) && (decide (v10 = (1 : Int)))) = true then
        (ix v8 s3).bind fun _v11 =>
        (ix v8 s3).bind fun v12 =>
        (ix v8 s3).bind fun _v13 =>
        (setI v8 s3 (IntKind.i64.wrap (v12 + (32768 : Int)))).bind fun v14 =>
        some v14
      else
      some v8 : Option (List Int)).bind fun t15 =>
    some (.inl ((IntKind.i64.wrap (s3 + (1 : Int))), t15))
  else
  some (.inr s4)

/-- bookplate/bookplateref03.half -/
def m_ref03_half (n : Nat) (a1 : (List Int)) : Option (List Int) :=
  (mkL 8 (a1.length : Int) ((0 : Int) : Int)).bind fun v2 =>
  (iter n (fun s => m_ref03_half_L1 n a1 s.1 s.2) ((0 : Int), v2)).bind fun t3 =>
  (m_ref03_trim n t3).bind fun v4 =>
  some v4

def m_ref03_less_L1 (_n : Nat) (a1 : (List Int)) (a2 : (List Int)) (s3 : (List Int)) (s4 : Int) (s5 : Int) : Option (((List Int) × Int × Int) ⊕ (List Int)) :=
  if (decide (s5 < (a1.length : Int))) = true then
    (ix a1 s5).bind fun v6 =>
    (
      if (decide (s5 < (a2.length : Int))) = true then
        (ix a2 s5).bind fun v7 =>
        some (IntKind.i64.wrap ((IntKind.i64.wrap (v6 - s4)) - v7))
      else
      some (IntKind.i64.wrap (v6 - s4)) : Option Int).bind fun t8 =>
    (
      if (decide (t8 < (0 : Int))) = true then
        some ((1 : Int), (IntKind.i64.wrap (t8 + (65536 : Int))))
      else
      some ((0 : Int), t8) : Option (Int × Int)).bind fun t9 =>
    (app 8 s3 ([t9.2] : List Int)).bind fun v10 =>
    some (.inl (v10, t9.1, (IntKind.i64.wrap (s5 + (1 : Int)))))
  else
  some (.inr s3)

/-- bookplate/bookplateref03.less -/
def m_ref03_less (n : Nat) (a1 : (List Int)) (a2 : (List Int)) : Option (List Int) :=
  (iter n (fun s => m_ref03_less_L1 n a1 a2 s.1 s.2.1 s.2.2) ([], (0 : Int), (0 : Int))).bind fun t3 =>
  (m_ref03_trim n t3).bind fun v4 =>
  some v4

def m_ref03_divide_L1 (n : Nat) (a1 : (List Int)) (s3 : (List Int)) (s4 : Int) : Option (((List Int) × Int) ⊕ ((List Int) × Int)) :=
  (m_ref03_compare n s3 a1).bind fun v5 =>
  if (decide (v5 ≤ (0 : Int))) = true then
    (m_ref03_sum n s3 s3).bind fun v6 =>
    some (.inl (v6, (IntKind.i64.wrap (s4 + (1 : Int)))))
  else
  some (.inr (s3, s4))

def m_ref03_divide_L2 (n : Nat) (t3 : ((List Int) × Int)) (s4 : (List Int)) (s5 : (List Int)) (s6 : (List Int)) (s7 : Int) : Option (((List Int) × (List Int) × (List Int) × Int) ⊕ ((List Int) × (List Int))) :=
  if (decide (s7 < t3.2)) = true then
    (
      (m_ref03_half n s5).bind fun v8 =>
      (m_ref03_sum n s6 s6).bind fun v9 =>
      (m_ref03_compare n v8 s4).bind fun v10 =>
      if (decide (v10 ≤ (0 : Int))) = true then
        (m_ref03_less n s4 v8).bind fun v11 =>
        (m_ref03_sum n v9 ([(1 : Int)] : List Int)).bind fun v12 =>
        some (v11, v8, v12)
      else
      some (s4, v8, v9) : Option ((List Int) × (List Int) × (List Int))).bind fun t13 =>
    some (.inl (t13.1, t13.2.1, t13.2.2, (IntKind.i64.wrap (s7 + (1 : Int)))))
  else
  some (.inr (s4, s6))

/-- bookplate/bookplateref03.divide -/
def m_ref03_divide (n : Nat) (a1 : (List Int)) (a2 : (List Int)) : Option ((List Int) × (List Int)) :=
  (iter n (fun s => m_ref03_divide_L1 n a1 s.1 s.2) (a2, (0 : Int))).bind fun t3 =>
  (iter n (fun s => m_ref03_divide_L2 n t3 s.1 s.2.1 s.2.2.1 s.2.2.2) (a1, t3.1, [], (0 : Int))).bind fun t4 =>
  some (t4.2, t4.1)

def m_ref03_Gcd_L1 (n : Nat) (s5 : (List Int)) (s6 : (List Int)) : Option (((List Int) × (List Int)) ⊕ (List Int)) :=
  if (decide ((0 : Int) < (s6.length : Int))) = true then
    (m_ref03_divide n s5 s6).bind fun v7 =>
    some (.inl (s6, v7.2))
  else
  some (.inr s5)

/-- bookplate/bookplateref03.Gcd -/
def m_ref03_Gcd (n : Nat) (a1 : (List Int)) (a2 : (List Int)) : Option ((List Int) × Int) :=
  (m_ref03_Valid n a1).bind fun v3 =>
  ((if (!(!v3)) = true then m_ref03_Valid n a2 else some default)).bind fun v4 =>
  if ((!v3) || (!v4)) = true then
    some ([], (1 : Int))
  else
  (iter n (fun s => m_ref03_Gcd_L1 n s.1 s.2) (a1, a2)).bind fun t5 =>
  (app 8 (([] : List Int) : List Int) t5).bind fun v6 =>
  some (v6, (0 : Int))

/-- bookplate/bookplateref03.Divide -/
def m_ref03_Divide (n : Nat) (a1 : (List Int)) (a2 : (List Int)) : Option ((List Int) × (List Int) × Int) :=
  (m_ref03_Valid n a1).bind fun v3 =>
  ((if (!(!v3)) = true then m_ref03_Valid n a2 else some default)).bind fun v4 =>
  if (((!v3) || (!v4)) || (decide ((a2.length : Int) = (0 : Int)))) = true then
    some ([], [], (1 : Int))
  else
  (m_ref03_divide n a1 a2).bind fun v5 =>
  some (v5.1, v5.2, (0 : Int))

def m_ref28_Product_L1 (n : Nat) (a1 : (List SRatio)) (s3 : (List Int)) (s4 : (List Int)) (s5 : Int) : Option (((List Int) × (List Int) × Int) ⊕ ((List Int) × (List Int))) :=
  if (decide (s5 < (a1.length : Int))) = true then
    (ix a1 s5).bind fun v6 =>
    (m_ref03_Mul n s3 ([v6.fNum] : List Int)).bind fun v7 =>
    (ix a1 s5).bind fun v8 =>
    (m_ref03_Mul n s4 ([v8.fDen] : List Int)).bind fun v9 =>
    some (.inl (v7.1, v9.1, (IntKind.i64.wrap (s5 + (1 : Int)))))
  else
  some (.inr (s3, s4))

/-- bookplate/bookplateref28.Product -/
def m_ref28_Product (n : Nat) (a1 : (List SRatio)) : Option ((List Int) × (List Int) × Int) :=
  (m_ref28_Valid n a1).bind fun v2 =>
  if (!v2) = true then
    some ([], [], (1 : Int))
  else
  (iter n (fun s => m_ref28_Product_L1 n a1 s.1 s.2.1 s.2.2) (([(1 : Int)] : List Int), ([(1 : Int)] : List Int), (0 : Int))).bind fun t3 =>
  (m_ref03_Gcd n t3.1 t3.2).bind fun v4 =>
  (m_ref03_Divide n t3.1 v4.1).bind fun v5 =>
  (m_ref03_Divide n t3.2 v4.1).bind fun v6 =>
  some (v5.1, v6.1, (0 : Int))

def m_ref03_Power_L1 (n : Nat) (a1 : (List Int)) (a2 : Int) (s4 : (List Int)) (s5 : Int) : Option (((List Int) × Int) ⊕ (((List Int) × Int) ⊕ (List Int))) :=
  if (decide (s5 < a2)) = true then
    (m_ref03_Mul n s4 a1).bind fun v6 =>
    if (!decide (v6.2 = (0 : Int))) = true then
      some (.inr (.inl ([], v6.2)))
    else
    some (.inl (v6.1, (IntKind.i64.wrap (s5 + (1 : Int)))))
  else
  some (.inr (.inr s4))

/-- bookplate/bookplateref03.Power -/
def m_ref03_Power (n : Nat) (a1 : (List Int)) (a2 : Int) : Option ((List Int) × Int) :=
  (m_ref03_Valid n a1).bind fun v3 =>
  if (!v3) = true then
    some ([], (1 : Int))
  else
  if ((decide (a2 < (0 : Int))) || (decide ((1000 : Int) < a2))) = true then
    some ([], (2 : Int))
  else
  (iter n (fun s => m_ref03_Power_L1 n a1 a2 s.1 s.2) (([(1 : Int)] : List Int), (0 : Int))).bind fun t4 => match t4 with
  | (.inl u5) =>
    some u5
  | (.inr u6) =>
    some (u6, (0 : Int))

def m_ref03_Bits_L1 (_n : Nat) (s4 : Int) (s5 : Int) : Option ((Int × Int) ⊕ Int) :=
  if (decide ((0 : Int) < s5)) = true then
    (quo .i64 s5 (2 : Int)).bind fun v6 =>
    some (.inl ((IntKind.i64.wrap (s4 + (1 : Int))), v6))
  else
  some (.inr s4)

/-- bookplate/bookplateref03.Bits -/
def m_ref03_Bits (n : Nat) (a1 : (List Int)) : Option Int :=
  (m_ref03_Valid n a1).bind fun v2 =>
  if ((!v2) || (decide ((a1.length : Int) = (0 : Int)))) = true then
    some (0 : Int)
  else
  (ix a1 (IntKind.i64.wrap ((a1.length : Int) - (1 : Int)))).bind fun v3 =>
  (iter n (fun s => m_ref03_Bits_L1 n s.1 s.2) ((IntKind.i64.wrap ((16 : Int) * (IntKind.i64.wrap ((a1.length : Int) - (1 : Int))))), v3)).bind fun t4 =>
  some t4

/-- bookplate/bookplateref03.Shift -/
def m_ref03_Shift (n : Nat) (a1 : (List Int)) (a2 : Int) : Option ((List Int) × Int) :=
  (m_ref03_Valid n a1).bind fun v3 =>
  if (!v3) = true then
    some ([], (1 : Int))
  else
  if ((decide (a2 < (0 : Int))) || (decide ((2047 : Int) < a2))) = true then
    some ([], (2 : Int))
  else
  (quo .i64 a2 (16 : Int)).bind fun v4 =>
  (mkL 8 v4 ((0 : Int) : Int)).bind fun v5 =>
  (rem a2 (16 : Int)).bind fun v6 =>
  (shlM .i64 (1 : Int) v6).bind fun v7 =>
  (m_ref03_times n a1 ([v7] : List Int)).bind fun v8 =>
  (app 8 v5 v8).bind fun v9 =>
  (m_ref03_limited n v9).bind fun v10 =>
  some (v10.1, v10.2)

/-- bookplate/bookplateref03.Compare -/
def m_ref03_Compare (n : Nat) (a1 : (List Int)) (a2 : (List Int)) : Option Int :=
  (m_ref03_Valid n a1).bind fun v3 =>
  ((if (!(!v3)) = true then m_ref03_Valid n a2 else some default)).bind fun v4 =>
  if ((!v3) || (!v4)) = true then
    some (0 : Int)
  else
  (m_ref03_compare n a1 a2).bind fun v5 =>
  some v5

/-- bookplate/bookplateref28.Weight -/
def m_ref28_Weight (n : Nat) (a1 : (List SRatio)) : Option (Int × Int) :=
  (m_ref28_Product n a1).bind fun v2 =>
  if (!decide (v2.2.2 = (0 : Int))) = true then
    some ((0 : Int), v2.2.2)
  else
  (m_ref03_Power n v2.1 (8 : Int)).bind fun v3 =>
  (m_ref03_Power n v2.2.1 (8 : Int)).bind fun v4 =>
  (m_ref03_Bits n v3.1).bind fun v5 =>
  (m_ref03_Bits n v4.1).bind fun v6 =>
  (
    if (decide ((0 : Int) < (IntKind.i64.wrap (v5 - v6)))) = true then
      (m_ref03_Shift n v4.1 (IntKind.i64.wrap (v5 - v6))).bind fun v7 =>
      some (v3.1, v7.1)
    else
    (m_ref03_Shift n v3.1 (IntKind.i64.wrap (-(IntKind.i64.wrap (v5 - v6))))).bind fun v8 =>
    some (v8.1, v4.1) : Option ((List Int) × (List Int))).bind fun t9 =>
  (
    (m_ref03_Compare n t9.1 t9.2).bind fun v10 =>
    if (decide (v10 < (0 : Int))) = true then
      some (IntKind.i64.wrap ((IntKind.i64.wrap (v5 - v6)) - (1 : Int)))
    else
    some (IntKind.i64.wrap (v5 - v6)) : Option Int).bind fun t11 =>
  some (t11, (0 : Int))

/-- bookplate/bookplateref31.Weight -/
def m_ref31_Weight (n : Nat) (a1 : A72) (a2 : A7) : Option (Int × Int) :=
  (m_ref31_Factors n a1 a2).bind fun v3 =>
  if (!decide (v3.2 = (0 : Int))) = true then
    some ((0 : Int), v3.2)
  else
  (m_ref28_Weight n v3.1).bind fun v4 =>
  some (v4.1, v4.2)

def m_ref31_All_L1 (n : Nat) (a2 : (List SFeatures)) (s5 : Int) : Option (Int ⊕ (((List SWeighted) × Int) ⊕ Unit)) :=
  if (decide (s5 < (a2.length : Int))) = true then
    (ix a2 s5).bind fun v6 =>
    (m_ref29_Valid n v6).bind fun v7 =>
    if (!v7) = true then
      some (.inr (.inl ([], (1 : Int))))
    else
    some (.inl (IntKind.i64.wrap (s5 + (1 : Int))))
  else
  some (.inr (.inr ()))

def m_ref31_All_L2 (n : Nat) (a2 : (List SFeatures)) (s8 : Int) : Option (Int ⊕ (((List SWeighted) × Int) ⊕ Unit)) :=
  if (decide (s8 < (a2.length : Int))) = true then
    (ix a2 s8).bind fun v9 =>
    (m_ref31_find n a2 v9.fID).bind fun v10 =>
    if (decide (v10 < s8)) = true then
      some (.inr (.inl ([], (10 : Int))))
    else
    some (.inl (IntKind.i64.wrap (s8 + (1 : Int))))
  else
  some (.inr (.inr ()))

def m_ref31_All_L3 (n : Nat) (a2 : (List SFeatures)) (a3 : (List SPair)) (s11 : Int) : Option (Int ⊕ (((List SWeighted) × Int) ⊕ Unit)) :=
  if (decide (s11 < (a3.length : Int))) = true then
    (ix a3 s11).bind fun v12 =>
    (m_ref31_find n a2 v12.fA).bind fun v13 =>
    ((if (!(decide (v13 < (0 : Int)))) = true then ix a3 s11 else some default)).bind fun v14 =>
    ((if (!(decide (v13 < (0 : Int)))) = true then m_ref31_find n a2 v14.fB else some default)).bind fun v15 =>
    if ((decide (v13 < (0 : Int))) || (decide (v15 < (0 : Int)))) = true then
      some (.inr (.inl ([], (9 : Int))))
    else
    some (.inl (IntKind.i64.wrap (s11 + (1 : Int))))
  else
  some (.inr (.inr ()))

def m_ref31_All_L4 (n : Nat) (a1 : A72) (a2 : (List SFeatures)) (a3 : (List SPair)) (s14 : (List SWeighted)) (s15 : Int) : Option (((List SWeighted) × Int) ⊕ (((List SWeighted) × Int) ⊕ (List SWeighted))) :=
  if (decide (s15 < (a3.length : Int))) = true then
    (ix a3 s15).bind fun v16 =>
    ((if ((!(decide (v16.fB ≤ v16.fA))) && (decide ((0 : Int) < s15))) = true then ix a3 (IntKind.i64.wrap (s15 - (1 : Int))) else some default)).bind fun v17 =>
    ((if (((!(decide (v16.fB ≤ v16.fA))) && (decide ((0 : Int) < s15))) && (!(decide (v16.fA < v17.fA)))) = true then ix a3 (IntKind.i64.wrap (s15 - (1 : Int))) else some default)).bind fun v18 =>
    ((if ((((!(decide (v16.fB ≤ v16.fA))) && (decide ((0 : Int) < s15))) && (!(decide (v16.fA < v17.fA)))) && (decide (v18.fA = v16.fA))) = true then ix a3 (IntKind.i64.wrap (s15 - (1 : Int))) else some default)).bind fun v19 =>
    if ((decide (v16.fB ≤ v16.fA)) || ((decide ((0 : Int) < s15)) && ((decide (v16.fA < v17.fA)) || ((decide (v18.fA = v16.fA)) && (decide (v16.fB ≤ v19.fB)))))) = true then
      some (.inr (.inl ([], (19 : Int))))
    else
    (m_ref31_find n a2 v16.fA).bind fun v20 =>
    (ix a2 v20).bind fun v21 =>
    (m_ref31_find n a2 v16.fB).bind fun v22 =>
    (ix a2 v22).bind fun v23 =>
    (m_ref31_compare n v21 v23).bind fun v24 =>
    (m_ref31_Weight n a1 v24).bind fun v25 =>
    (app 24 s14 ([(⟨v16, v25.1⟩ : SWeighted)] : List SWeighted)).bind fun v26 =>
    some (.inl (v26, (IntKind.i64.wrap (s15 + (1 : Int)))))
  else
  some (.inr (.inr s14))

/-- bookplate/bookplateref31.All -/
def m_ref31_All (n : Nat) (a1 : A72) (a2 : (List SFeatures)) (a3 : (List SPair)) : Option ((List SWeighted) × Int) :=
  (m_ref31_Valid n a1).bind fun v4 =>
  if (!v4) = true then
    some ([], (1 : Int))
  else
  (iter n (fun s => m_ref31_All_L1 n a2 s) (0 : Int)).bind fun t5 => match t5 with
  | (.inl u6) =>
    some u6
  | (.inr _u7) =>
    (iter n (fun s => m_ref31_All_L2 n a2 s) (0 : Int)).bind fun t8 => match t8 with
    | (.inl u9) =>
      some u9
    | (.inr _u10) =>
      (iter n (fun s => m_ref31_All_L3 n a2 a3 s) (0 : Int)).bind fun t11 => match t11 with
      | (.inl u12) =>
        some u12
      | (.inr _u13) =>
        (iter n (fun s => m_ref31_All_L4 n a1 a2 a3 s.1 s.2) ([], (0 : Int))).bind fun t14 => match t14 with
        | (.inl u15) =>
          some u15
        | (.inr u16) =>
          some (u16, (0 : Int))

def m_law31_MatchAll_L1 (n : Nat) (a2 : (List SFeatures)) (s6 : Int) : Option (Int ⊕ (Bool ⊕ Unit)) :=
  if (decide (s6 < (a2.length : Int))) = true then
    (ix a2 s6).bind fun v7 =>
    (m_ref29_Few n v7).bind fun v8 =>
    if (!v8) = true then
      some (.inr (.inl true))
    else
    some (.inl (IntKind.i64.wrap (s6 + (1 : Int))))
  else
  some (.inr (.inr ()))

def m_law31_MatchAll_L2 (_n : Nat) (v11 : ((List SWeighted) × Int)) (v12 : ((List SWeighted) × Int)) (s13 : Int) : Option (Int ⊕ (Bool ⊕ Unit)) :=
  if (decide (s13 < (v11.1.length : Int))) = true then
    (ix v11.1 s13).bind fun v14 =>
    (ix v12.1 s13).bind fun v15 =>
    if (!decide (v14 = v15)) = true then
      some (.inr (.inl false))
    else
    some (.inl (IntKind.i64.wrap (s13 + (1 : Int))))
  else
  some (.inr (.inr ()))

/-- bookplate/bookplatelaw31.MatchAll -/
def m_law31_MatchAll (n : Nat) (a1 : A72) (a2 : (List SFeatures)) (a3 : (List SPair)) : Option Bool :=
  (m_law31_awake n).bind fun v4 =>
  if (((!v4) || (decide ((6 : Int) < (a2.length : Int)))) || (decide ((15 : Int) < (a3.length : Int)))) = true then
    (m_law31_awake n).bind fun v5 =>
    some v5
  else
  (iter n (fun s => m_law31_MatchAll_L1 n a2 s) (0 : Int)).bind fun t6 => match t6 with
  | (.inl u7) =>
    some u7
  | (.inr _u8) =>
    (m_law31_Own n a1).bind fun v9 =>
    (m_law29_Owns n a2).bind fun v10 =>
    (m_match_All n v9 v10 a3).bind fun v11 =>
    (m_ref31_All n a1 a2 a3).bind fun v12 =>
    if ((!decide (v11.2 = v12.2)) || (!decide ((v11.1.length : Int) = (v12.1.length : Int)))) = true then
      some false
    else
    (iter n (fun s => m_law31_MatchAll_L2 n v11 v12 s) (0 : Int)).bind fun t13 => match t13 with
    | (.inl u14) =>
      some u14
    | (.inr _u15) =>
      some true

end
end Go.Proofs.YtgcmhhcopeiomaaGreat.Ab
