/- The functions in plain Lean. Conditions: none. -/
import Derived.Test.YtindppnanjcoaaaGreatDoorAb55
import Derived.Test.YtindppnanjcoaaaGreatDoorIj
set_option maxRecDepth 100000
namespace Go.Proofs.YtindppnanjcoaaaGreatDoor.Ab
open Go
attribute [local irreducible] AL AD AW nlO nlV nlD

noncomputable section
structure SRatio where
  fNum : Int
  fDen : Int
  deriving Inhabited, DecidableEq
def SRatio.e (x : SRatio) : D := .agg [(.int .i64 x.fNum), (.int .i64 x.fDen)]
theorem enSRatio : En SRatio.e 2 := ⟨fun _ => rfl, fun x y hy => by
  have hy' : y ∈ [((.int .i64 x.fNum) : D), ((.int .i64 x.fDen) : D)] := hy
  simp only [List.mem_cons, List.not_mem_nil, or_false] at hy'
  rcases hy' with rfl | rfl <;> rfl⟩
structure A3 where
  e0 : SRatio
  e1 : SRatio
  e2 : SRatio
  deriving Inhabited, DecidableEq
def A3.e (x : A3) : D := .agg [(.int .i64 x.e0.fNum), (.int .i64 x.e0.fDen), (.int .i64 x.e1.fNum), (.int .i64 x.e1.fDen), (.int .i64 x.e2.fNum), (.int .i64 x.e2.fDen)]
def A3.l (x : A3) : List SRatio := [x.e0, x.e1, x.e2]
def A3.put (x : A3) (k : Int) (v : SRatio) : Option A3 :=
  if k = 0 then some { x with e0 := v } else if k = 1 then some { x with e1 := v } else if k = 2 then some { x with e2 := v } else none
theorem A3.put_l {x y : A3} {k : Int} {v : SRatio} (h : A3.put x k v = some y) : setI x.l k v = some y.l := by
  unfold A3.put at h
  by_cases h0 : k = 0
  · subst h0; simp at h; subst h; rfl
  rw [if_neg h0] at h
  by_cases h1 : k = 1
  · subst h1; simp at h; subst h; rfl
  rw [if_neg h1] at h
  by_cases h2 : k = 2
  · subst h2; simp at h; subst h; rfl
  rw [if_neg h2] at h
  cases h
theorem enA3 : En A3.e 6 := ⟨fun _ => rfl, fun x y hy => by
  have hy' : y ∈ [((.int .i64 x.e0.fNum) : D), ((.int .i64 x.e0.fDen) : D), ((.int .i64 x.e1.fNum) : D), ((.int .i64 x.e1.fDen) : D), ((.int .i64 x.e2.fNum) : D), ((.int .i64 x.e2.fDen) : D)] := hy
  simp only [List.mem_cons, List.not_mem_nil, or_false] at hy'
  rcases hy' with rfl | rfl | rfl | rfl | rfl | rfl <;> rfl⟩
structure A7 where
  e0 : A3
  e1 : A3
  e2 : A3
  e3 : A3
  e4 : A3
  e5 : A3
  e6 : A3
  deriving Inhabited, DecidableEq
def A7.e (x : A7) : D := .agg [(.int .i64 x.e0.e0.fNum), (.int .i64 x.e0.e0.fDen), (.int .i64 x.e0.e1.fNum), (.int .i64 x.e0.e1.fDen), (.int .i64 x.e0.e2.fNum), (.int .i64 x.e0.e2.fDen), (.int .i64 x.e1.e0.fNum), (.int .i64 x.e1.e0.fDen), (.int .i64 x.e1.e1.fNum), (.int .i64 x.e1.e1.fDen), (.int .i64 x.e1.e2.fNum), (.int .i64 x.e1.e2.fDen), (.int .i64 x.e2.e0.fNum), (.int .i64 x.e2.e0.fDen), (.int .i64 x.e2.e1.fNum), (.int .i64 x.e2.e1.fDen), (.int .i64 x.e2.e2.fNum), (.int .i64 x.e2.e2.fDen), (.int .i64 x.e3.e0.fNum), (.int .i64 x.e3.e0.fDen), (.int .i64 x.e3.e1.fNum), (.int .i64 x.e3.e1.fDen), (.int .i64 x.e3.e2.fNum), (.int .i64 x.e3.e2.fDen), (.int .i64 x.e4.e0.fNum), (.int .i64 x.e4.e0.fDen), (.int .i64 x.e4.e1.fNum), (.int .i64 x.e4.e1.fDen), (.int .i64 x.e4.e2.fNum), (.int .i64 x.e4.e2.fDen), (.int .i64 x.e5.e0.fNum), (.int .i64 x.e5.e0.fDen), (.int .i64 x.e5.e1.fNum), (.int .i64 x.e5.e1.fDen), (.int .i64 x.e5.e2.fNum), (.int .i64 x.e5.e2.fDen), (.int .i64 x.e6.e0.fNum), (.int .i64 x.e6.e0.fDen), (.int .i64 x.e6.e1.fNum), (.int .i64 x.e6.e1.fDen), (.int .i64 x.e6.e2.fNum), (.int .i64 x.e6.e2.fDen)]
def A7.l (x : A7) : List A3 := [x.e0, x.e1, x.e2, x.e3, x.e4, x.e5, x.e6]
def A7.put (x : A7) (k : Int) (v : A3) : Option A7 :=
  if k = 0 then some { x with e0 := v } else if k = 1 then some { x with e1 := v } else if k = 2 then some { x with e2 := v } else if k = 3 then some { x with e3 := v } else if k = 4 then some { x with e4 := v } else if k = 5 then some { x with e5 := v } else if k = 6 then some { x with e6 := v } else none
theorem A7.put_l {x y : A7} {k : Int} {v : A3} (h : A7.put x k v = some y) : setI x.l k v = some y.l := by
  unfold A7.put at h
  by_cases h0 : k = 0
  · subst h0; simp at h; subst h; rfl
  rw [if_neg h0] at h
  by_cases h1 : k = 1
  · subst h1; simp at h; subst h; rfl
  rw [if_neg h1] at h
  by_cases h2 : k = 2
  · subst h2; simp at h; subst h; rfl
  rw [if_neg h2] at h
  by_cases h3 : k = 3
  · subst h3; simp at h; subst h; rfl
  rw [if_neg h3] at h
  by_cases h4 : k = 4
  · subst h4; simp at h; subst h; rfl
  rw [if_neg h4] at h
  by_cases h5 : k = 5
  · subst h5; simp at h; subst h; rfl
  rw [if_neg h5] at h
  by_cases h6 : k = 6
  · subst h6; simp at h; subst h; rfl
  rw [if_neg h6] at h
  cases h
structure A6 where
  e0 : Int
  e1 : Int
  e2 : Int
  e3 : Int
  e4 : Int
  e5 : Int
  deriving Inhabited, DecidableEq
def A6.e (x : A6) : D := .agg [(.int .i64 x.e0), (.int .i64 x.e1), (.int .i64 x.e2), (.int .i64 x.e3), (.int .i64 x.e4), (.int .i64 x.e5)]
def A6.l (x : A6) : List Int := [x.e0, x.e1, x.e2, x.e3, x.e4, x.e5]
def A6.put (x : A6) (k : Int) (v : Int) : Option A6 :=
  if k = 0 then some { x with e0 := v } else if k = 1 then some { x with e1 := v } else if k = 2 then some { x with e2 := v } else if k = 3 then some { x with e3 := v } else if k = 4 then some { x with e4 := v } else if k = 5 then some { x with e5 := v } else none
theorem A6.put_l {x y : A6} {k : Int} {v : Int} (h : A6.put x k v = some y) : setI x.l k v = some y.l := by
  unfold A6.put at h
  by_cases h0 : k = 0
  · subst h0; simp at h; subst h; rfl
  rw [if_neg h0] at h
  by_cases h1 : k = 1
  · subst h1; simp at h; subst h; rfl
  rw [if_neg h1] at h
  by_cases h2 : k = 2
  · subst h2; simp at h; subst h; rfl
  rw [if_neg h2] at h
  by_cases h3 : k = 3
  · subst h3; simp at h; subst h; rfl
  rw [if_neg h3] at h
  by_cases h4 : k = 4
  · subst h4; simp at h; subst h; rfl
  rw [if_neg h4] at h
  by_cases h5 : k = 5
  · subst h5; simp at h; subst h; rfl
  rw [if_neg h5] at h
  cases h
theorem enA6 : En A6.e 6 := ⟨fun _ => rfl, fun x y hy => by
  have hy' : y ∈ [((.int .i64 x.e0) : D), ((.int .i64 x.e1) : D), ((.int .i64 x.e2) : D), ((.int .i64 x.e3) : D), ((.int .i64 x.e4) : D), ((.int .i64 x.e5) : D)] := hy
  simp only [List.mem_cons, List.not_mem_nil, or_false] at hy'
  rcases hy' with rfl | rfl | rfl | rfl | rfl | rfl <;> rfl⟩
structure A72 where
  e0 : A6
  e1 : A6
  e2 : A6
  e3 : A6
  e4 : A6
  e5 : A6
  e6 : A6
  deriving Inhabited, DecidableEq
def A72.e (x : A72) : D := .agg [(.int .i64 x.e0.e0), (.int .i64 x.e0.e1), (.int .i64 x.e0.e2), (.int .i64 x.e0.e3), (.int .i64 x.e0.e4), (.int .i64 x.e0.e5), (.int .i64 x.e1.e0), (.int .i64 x.e1.e1), (.int .i64 x.e1.e2), (.int .i64 x.e1.e3), (.int .i64 x.e1.e4), (.int .i64 x.e1.e5), (.int .i64 x.e2.e0), (.int .i64 x.e2.e1), (.int .i64 x.e2.e2), (.int .i64 x.e2.e3), (.int .i64 x.e2.e4), (.int .i64 x.e2.e5), (.int .i64 x.e3.e0), (.int .i64 x.e3.e1), (.int .i64 x.e3.e2), (.int .i64 x.e3.e3), (.int .i64 x.e3.e4), (.int .i64 x.e3.e5), (.int .i64 x.e4.e0), (.int .i64 x.e4.e1), (.int .i64 x.e4.e2), (.int .i64 x.e4.e3), (.int .i64 x.e4.e4), (.int .i64 x.e4.e5), (.int .i64 x.e5.e0), (.int .i64 x.e5.e1), (.int .i64 x.e5.e2), (.int .i64 x.e5.e3), (.int .i64 x.e5.e4), (.int .i64 x.e5.e5), (.int .i64 x.e6.e0), (.int .i64 x.e6.e1), (.int .i64 x.e6.e2), (.int .i64 x.e6.e3), (.int .i64 x.e6.e4), (.int .i64 x.e6.e5)]
def A72.l (x : A72) : List A6 := [x.e0, x.e1, x.e2, x.e3, x.e4, x.e5, x.e6]
def A72.put (x : A72) (k : Int) (v : A6) : Option A72 :=
  if k = 0 then some { x with e0 := v } else if k = 1 then some { x with e1 := v } else if k = 2 then some { x with e2 := v } else if k = 3 then some { x with e3 := v } else if k = 4 then some { x with e4 := v } else if k = 5 then some { x with e5 := v } else if k = 6 then some { x with e6 := v } else none
theorem A72.put_l {x y : A72} {k : Int} {v : A6} (h : A72.put x k v = some y) : setI x.l k v = some y.l := by
  unfold A72.put at h
  by_cases h0 : k = 0
  · subst h0; simp at h; subst h; rfl
  rw [if_neg h0] at h
  by_cases h1 : k = 1
  · subst h1; simp at h; subst h; rfl
  rw [if_neg h1] at h
  by_cases h2 : k = 2
  · subst h2; simp at h; subst h; rfl
  rw [if_neg h2] at h
  by_cases h3 : k = 3
  · subst h3; simp at h; subst h; rfl
  rw [if_neg h3] at h
  by_cases h4 : k = 4
  · subst h4; simp at h; subst h; rfl
  rw [if_neg h4] at h
  by_cases h5 : k = 5
  · subst h5; simp at h; subst h; rfl
  rw [if_neg h5] at h
  by_cases h6 : k = 6
  · subst h6; simp at h; subst h; rfl
  rw [if_neg h6] at h
  cases h
structure A73 where
  e0 : Int
  e1 : Int
  e2 : Int
  e3 : Int
  e4 : Int
  e5 : Int
  e6 : Int
  deriving Inhabited, DecidableEq
def A73.e (x : A73) : D := .agg [(.int .i64 x.e0), (.int .i64 x.e1), (.int .i64 x.e2), (.int .i64 x.e3), (.int .i64 x.e4), (.int .i64 x.e5), (.int .i64 x.e6)]
def A73.l (x : A73) : List Int := [x.e0, x.e1, x.e2, x.e3, x.e4, x.e5, x.e6]
def A73.put (x : A73) (k : Int) (v : Int) : Option A73 :=
  if k = 0 then some { x with e0 := v } else if k = 1 then some { x with e1 := v } else if k = 2 then some { x with e2 := v } else if k = 3 then some { x with e3 := v } else if k = 4 then some { x with e4 := v } else if k = 5 then some { x with e5 := v } else if k = 6 then some { x with e6 := v } else none
theorem A73.put_l {x y : A73} {k : Int} {v : Int} (h : A73.put x k v = some y) : setI x.l k v = some y.l := by
  unfold A73.put at h
  by_cases h0 : k = 0
  · subst h0; simp at h; subst h; rfl
  rw [if_neg h0] at h
  by_cases h1 : k = 1
  · subst h1; simp at h; subst h; rfl
  rw [if_neg h1] at h
  by_cases h2 : k = 2
  · subst h2; simp at h; subst h; rfl
  rw [if_neg h2] at h
  by_cases h3 : k = 3
  · subst h3; simp at h; subst h; rfl
  rw [if_neg h3] at h
  by_cases h4 : k = 4
  · subst h4; simp at h; subst h; rfl
  rw [if_neg h4] at h
  by_cases h5 : k = 5
  · subst h5; simp at h; subst h; rfl
  rw [if_neg h5] at h
  by_cases h6 : k = 6
  · subst h6; simp at h; subst h; rfl
  rw [if_neg h6] at h
  cases h
structure A74 where
  e0 : (List UInt8)
  e1 : (List UInt8)
  e2 : (List UInt8)
  e3 : (List UInt8)
  e4 : (List UInt8)
  e5 : (List UInt8)
  e6 : (List UInt8)
  deriving Inhabited, DecidableEq
def A74.e (x : A74) : D := .agg [(.str x.e0), (.str x.e1), (.str x.e2), (.str x.e3), (.str x.e4), (.str x.e5), (.str x.e6)]
def A74.l (x : A74) : List (List UInt8) := [x.e0, x.e1, x.e2, x.e3, x.e4, x.e5, x.e6]
def A74.put (x : A74) (k : Int) (v : (List UInt8)) : Option A74 :=
  if k = 0 then some { x with e0 := v } else if k = 1 then some { x with e1 := v } else if k = 2 then some { x with e2 := v } else if k = 3 then some { x with e3 := v } else if k = 4 then some { x with e4 := v } else if k = 5 then some { x with e5 := v } else if k = 6 then some { x with e6 := v } else none
theorem A74.put_l {x y : A74} {k : Int} {v : (List UInt8)} (h : A74.put x k v = some y) : setI x.l k v = some y.l := by
  unfold A74.put at h
  by_cases h0 : k = 0
  · subst h0; simp at h; subst h; rfl
  rw [if_neg h0] at h
  by_cases h1 : k = 1
  · subst h1; simp at h; subst h; rfl
  rw [if_neg h1] at h
  by_cases h2 : k = 2
  · subst h2; simp at h; subst h; rfl
  rw [if_neg h2] at h
  by_cases h3 : k = 3
  · subst h3; simp at h; subst h; rfl
  rw [if_neg h3] at h
  by_cases h4 : k = 4
  · subst h4; simp at h; subst h; rfl
  rw [if_neg h4] at h
  by_cases h5 : k = 5
  · subst h5; simp at h; subst h; rfl
  rw [if_neg h5] at h
  by_cases h6 : k = 6
  · subst h6; simp at h; subst h; rfl
  rw [if_neg h6] at h
  cases h
structure A4 where
  e0 : (List UInt8)
  e1 : (List UInt8)
  e2 : (List UInt8)
  e3 : (List UInt8)
  deriving Inhabited, DecidableEq
def A4.e (x : A4) : D := .agg [(.str x.e0), (.str x.e1), (.str x.e2), (.str x.e3)]
def A4.l (x : A4) : List (List UInt8) := [x.e0, x.e1, x.e2, x.e3]
def A4.put (x : A4) (k : Int) (v : (List UInt8)) : Option A4 :=
  if k = 0 then some { x with e0 := v } else if k = 1 then some { x with e1 := v } else if k = 2 then some { x with e2 := v } else if k = 3 then some { x with e3 := v } else none
theorem A4.put_l {x y : A4} {k : Int} {v : (List UInt8)} (h : A4.put x k v = some y) : setI x.l k v = some y.l := by
  unfold A4.put at h
  by_cases h0 : k = 0
  · subst h0; simp at h; subst h; rfl
  rw [if_neg h0] at h
  by_cases h1 : k = 1
  · subst h1; simp at h; subst h; rfl
  rw [if_neg h1] at h
  by_cases h2 : k = 2
  · subst h2; simp at h; subst h; rfl
  rw [if_neg h2] at h
  by_cases h3 : k = 3
  · subst h3; simp at h; subst h; rfl
  rw [if_neg h3] at h
  cases h
structure SLink where
  fA : Int
  fB : Int
  fMust : Bool
  fOutcome : A73
  fWeight : Int
  deriving Inhabited, DecidableEq
def SLink.e (x : SLink) : D := .agg [(.int .i64 x.fA), (.int .i64 x.fB), (.bool x.fMust), (.int .i64 x.fOutcome.e0), (.int .i64 x.fOutcome.e1), (.int .i64 x.fOutcome.e2), (.int .i64 x.fOutcome.e3), (.int .i64 x.fOutcome.e4), (.int .i64 x.fOutcome.e5), (.int .i64 x.fOutcome.e6), (.int .i64 x.fWeight)]
theorem enSLink : En SLink.e 11 := ⟨fun _ => rfl, fun x y hy => by
  have hy' : y ∈ [((.int .i64 x.fA) : D), ((.int .i64 x.fB) : D), ((.bool x.fMust) : D), ((.int .i64 x.fOutcome.e0) : D), ((.int .i64 x.fOutcome.e1) : D), ((.int .i64 x.fOutcome.e2) : D), ((.int .i64 x.fOutcome.e3) : D), ((.int .i64 x.fOutcome.e4) : D), ((.int .i64 x.fOutcome.e5) : D), ((.int .i64 x.fOutcome.e6) : D), ((.int .i64 x.fWeight) : D)] := hy
  simp only [List.mem_cons, List.not_mem_nil, or_false] at hy'
  rcases hy' with rfl | rfl | rfl | rfl | rfl | rfl | rfl | rfl | rfl | rfl | rfl <;> rfl⟩

def m_match_model_L2 (n : Nat) (s2 : Int) (v4 : A6) (s5 : Int) (s6 : A7) : Option ((Int × A7) ⊕ A7) :=
  if (decide (s5 < (3 : Int))) = true then
    (ix v4.l (IntKind.i64.wrap ((2 : Int) * s5))).bind fun v7 =>
    (ix v4.l (IntKind.i64.wrap ((IntKind.i64.wrap ((2 : Int) * s5)) + (1 : Int)))).bind fun v8 =>
    (ix s6.l s2).bind fun v9 =>
    (ix v9.l s5).bind fun v10 =>
    (A3.put v9 s5 (⟨v7, v8⟩ : SRatio)).bind fun v11 =>
    (A7.put s6 s2 v11).bind fun v12 =>
    some (.inl ((IntKind.i64.wrap (s5 + (1 : Int))), v12))
  else
  some (.inr s6)

def m_match_model_L1 (n : Nat) (a1 : A72) (s2 : Int) (s3 : A7) : Option ((Int × A7) ⊕ A7) :=
  if (decide (s2 < (7 : Int))) = true then
    (ix a1.l s2).bind fun v4 =>
    (iter n (fun s => m_match_model_L2 n s2 v4 s.1 s.2) ((0 : Int), s3)).bind fun t5 =>
    some (.inl ((IntKind.i64.wrap (s2 + (1 : Int))), t5))
  else
  some (.inr s3)

/-- bookplate/match.model -/
def m_match_model (n : Nat) (a1 : A72) : Option A7 :=
  (iter n (fun s => m_match_model_L1 n a1 s.1 s.2) ((0 : Int), (⟨(⟨(⟨(0 : Int), (0 : Int)⟩ : SRatio), (⟨(0 : Int), (0 : Int)⟩ : SRatio), (⟨(0 : Int), (0 : Int)⟩ : SRatio)⟩ : A3), (⟨(⟨(0 : Int), (0 : Int)⟩ : SRatio), (⟨(0 : Int), (0 : Int)⟩ : SRatio), (⟨(0 : Int), (0 : Int)⟩ : SRatio)⟩ : A3), (⟨(⟨(0 : Int), (0 : Int)⟩ : SRatio), (⟨(0 : Int), (0 : Int)⟩ : SRatio), (⟨(0 : Int), (0 : Int)⟩ : SRatio)⟩ : A3), (⟨(⟨(0 : Int), (0 : Int)⟩ : SRatio), (⟨(0 : Int), (0 : Int)⟩ : SRatio), (⟨(0 : Int), (0 : Int)⟩ : SRatio)⟩ : A3), (⟨(⟨(0 : Int), (0 : Int)⟩ : SRatio), (⟨(0 : Int), (0 : Int)⟩ : SRatio), (⟨(0 : Int), (0 : Int)⟩ : SRatio)⟩ : A3), (⟨(⟨(0 : Int), (0 : Int)⟩ : SRatio), (⟨(0 : Int), (0 : Int)⟩ : SRatio), (⟨(0 : Int), (0 : Int)⟩ : SRatio)⟩ : A3), (⟨(⟨(0 : Int), (0 : Int)⟩ : SRatio), (⟨(0 : Int), (0 : Int)⟩ : SRatio), (⟨(0 : Int), (0 : Int)⟩ : SRatio)⟩ : A3)⟩ : A7))).bind fun t2 =>
  some t2

/-- bookplate/match.Works -/
def m_match_Works (n : Nat) : Option A7 :=
  (m_match_model n (⟨(⟨(20 : Int), (1 : Int), (6 : Int), (1 : Int), (1 : Int), (12 : Int)⟩ : A6), (⟨(12 : Int), (1 : Int), (4 : Int), (1 : Int), (1 : Int), (20 : Int)⟩ : A6), (⟨(2 : Int), (1 : Int), (3 : Int), (2 : Int), (4 : Int), (5 : Int)⟩ : A6), (⟨(100 : Int), (1 : Int), (1 : Int), (1 : Int), (3 : Int), (4 : Int)⟩ : A6), (⟨(3 : Int), (2 : Int), (1 : Int), (1 : Int), (1 : Int), (2 : Int)⟩ : A6), (⟨(6 : Int), (5 : Int), (1 : Int), (1 : Int), (9 : Int), (10 : Int)⟩ : A6), (⟨(1 : Int), (1 : Int), (1 : Int), (1 : Int), (1 : Int), (1 : Int)⟩ : A6)⟩ : A72)).bind fun v1 =>
  some v1

def m_slices_IndexFunc_3_odds_Ratio_3_odds_Ratio_L1 (n : Nat) (a1 : (List A3)) (p2 : A3 → Option Bool) (s3 : Int) : Option (Int ⊕ (Int ⊕ Unit)) :=
  if (decide (s3 < (a1.length : Int))) = true then
    (ix a1 s3).bind fun v4 =>
    (p2 v4).bind fun v5 =>
    if v5 = true then
      some (.inr (.inl s3))
    else
    some (.inl (IntKind.i64.wrap (s3 + (1 : Int))))
  else
  some (.inr (.inr ()))

/-- slices.IndexFunc[[][3]bookplate/odds.Ratio,[3]bookplate/odds.Ratio] -/
def m_slices_IndexFunc_3_odds_Ratio_3_odds_Ratio (n : Nat) (a1 : (List A3)) (p2 : A3 → Option Bool) : Option Int :=
  (iter n (fun s => m_slices_IndexFunc_3_odds_Ratio_3_odds_Ratio_L1 n a1 p2 s) (0 : Int)).bind fun t3 => match t3 with
  | (.inl u4) =>
    some u4
  | (.inr u5) =>
    some (-1 : Int)

/-- slices.ContainsFunc[[][3]bookplate/odds.Ratio,[3]bookplate/odds.Ratio] -/
def m_slices_ContainsFunc_3_odds_Ratio_3_odds_Ratio (n : Nat) (a1 : (List A3)) (p2 : A3 → Option Bool) : Option Bool :=
  (m_slices_IndexFunc_3_odds_Ratio_3_odds_Ratio n a1 p2).bind fun v3 =>
  some (decide ((0 : Int) ≤ v3))

def m_slices_IndexFunc_odds_Ratio_odds_Ratio_L1 (n : Nat) (a1 : (List SRatio)) (p2 : SRatio → Option Bool) (s3 : Int) : Option (Int ⊕ (Int ⊕ Unit)) :=
  if (decide (s3 < (a1.length : Int))) = true then
    (ix a1 s3).bind fun v4 =>
    (p2 v4).bind fun v5 =>
    if v5 = true then
      some (.inr (.inl s3))
    else
    some (.inl (IntKind.i64.wrap (s3 + (1 : Int))))
  else
  some (.inr (.inr ()))

/-- slices.IndexFunc[[]bookplate/odds.Ratio,bookplate/odds.Ratio] -/
def m_slices_IndexFunc_odds_Ratio_odds_Ratio (n : Nat) (a1 : (List SRatio)) (p2 : SRatio → Option Bool) : Option Int :=
  (iter n (fun s => m_slices_IndexFunc_odds_Ratio_odds_Ratio_L1 n a1 p2 s) (0 : Int)).bind fun t3 => match t3 with
  | (.inl u4) =>
    some u4
  | (.inr u5) =>
    some (-1 : Int)

/-- slices.ContainsFunc[[]bookplate/odds.Ratio,bookplate/odds.Ratio] -/
def m_slices_ContainsFunc_odds_Ratio_odds_Ratio (n : Nat) (a1 : (List SRatio)) (p2 : SRatio → Option Bool) : Option Bool :=
  (m_slices_IndexFunc_odds_Ratio_odds_Ratio n a1 p2).bind fun v3 =>
  some (decide ((0 : Int) ≤ v3))

/-- bookplate/odds.Valid$1 -/
def m_odds_Valid_1 (n : Nat) (a1 : SRatio) : Option Bool :=
  some ((((decide (a1.fNum < (1 : Int))) || (decide ((1000 : Int) < a1.fNum))) || (decide (a1.fDen < (1 : Int)))) || (decide ((1000 : Int) < a1.fDen)))

/-- bookplate/odds.Valid -/
def m_odds_Valid (n : Nat) (a1 : (List SRatio)) : Option Bool :=
  ((if (decide ((a1.length : Int) ≤ (12 : Int))) = true then m_slices_ContainsFunc_odds_Ratio_odds_Ratio n a1 (fun y1 => m_odds_Valid_1 n y1) else some default)).bind fun v2 =>
  some ((decide ((a1.length : Int) ≤ (12 : Int))) && (!v2))

/-- bookplate/match.Valid$1 -/
def m_match_Valid_1 (n : Nat) (a1 : A3) : Option Bool :=
  (m_odds_Valid n a1.l).bind fun v2 =>
  some (!v2)

/-- bookplate/match.Valid -/
def m_match_Valid (n : Nat) (a1 : A7) : Option Bool :=
  (m_slices_ContainsFunc_3_odds_Ratio_3_odds_Ratio n a1.l (fun y1 => m_match_Valid_1 n y1)).bind fun v2 =>
  some (!v2)

def m_slices_IndexFunc_int_int_L1 (n : Nat) (a1 : (List Int)) (p2 : Int → Option Bool) (s3 : Int) : Option (Int ⊕ (Int ⊕ Unit)) :=
  if (decide (s3 < (a1.length : Int))) = true then
    (ix a1 s3).bind fun v4 =>
    (p2 v4).bind fun v5 =>
    if v5 = true then
      some (.inr (.inl s3))
    else
    some (.inl (IntKind.i64.wrap (s3 + (1 : Int))))
  else
  some (.inr (.inr ()))

/-- slices.IndexFunc[[]int,int] -/
def m_slices_IndexFunc_int_int (n : Nat) (a1 : (List Int)) (p2 : Int → Option Bool) : Option Int :=
  (iter n (fun s => m_slices_IndexFunc_int_int_L1 n a1 p2 s) (0 : Int)).bind fun t3 => match t3 with
  | (.inl u4) =>
    some u4
  | (.inr u5) =>
    some (-1 : Int)

/-- slices.ContainsFunc[[]int,int] -/
def m_slices_ContainsFunc_int_int (n : Nat) (a1 : (List Int)) (p2 : Int → Option Bool) : Option Bool :=
  (m_slices_IndexFunc_int_int n a1 p2).bind fun v3 =>
  some (decide ((0 : Int) ≤ v3))

/-- bookplate/match.Factors$1 -/
def m_match_Factors_1 (n : Nat) (a1 : Int) : Option Bool :=
  some ((decide (a1 < (0 : Int))) || (decide ((3 : Int) < a1)))

def m_match_Factors_L1 (n : Nat) (a1 : A7) (a2 : A73) (s5 : (List SRatio)) (s6 : Int) : Option (((List SRatio) × Int) ⊕ (List SRatio)) :=
  if (decide (s6 < (7 : Int))) = true then
    (
      (ix a2.l s6).bind fun v7 =>
      if (!decide (v7 = (0 : Int))) = true then
        (ix a1.l s6).bind fun v8 =>
        (ix v8.l (IntKind.i64.wrap (v7 - (1 : Int)))).bind fun v9 =>
        (app 16 s5 ([v9] : List SRatio)).bind fun v10 =>
        some v10
      else
      some s5 : Option (List SRatio)).bind fun t11 =>
    some (.inl (t11, (IntKind.i64.wrap (s6 + (1 : Int)))))
  else
  some (.inr s5)

/-- bookplate/match.Factors -/
def m_match_Factors (n : Nat) (a1 : A7) (a2 : A73) : Option ((List SRatio) × Int) :=
  (m_match_Valid n a1).bind fun v3 =>
  ((if (!(!v3)) = true then m_slices_ContainsFunc_int_int n a2.l (fun y1 => m_match_Factors_1 n y1) else some default)).bind fun v4 =>
  if ((!v3) || v4) = true then
    some ([], (1 : Int))
  else
  (iter n (fun s => m_match_Factors_L1 n a1 a2 s.1 s.2) ([], (0 : Int))).bind fun t5 =>
  some (t5, (0 : Int))

def m_match_Explain_L1 (n : Nat) (a1 : A7) (a2 : A73) (s4 : (List (List UInt8))) (s5 : Int) : Option (((List (List UInt8)) × Int) ⊕ (List (List UInt8))) :=
  if (decide (s5 < (7 : Int))) = true then
    (
      (ix a2.l s5).bind fun v6 =>
      if (!decide (v6 = (0 : Int))) = true then
        (ix a1.l s5).bind fun v7 =>
        (ix v7.l (IntKind.i64.wrap (v6 - (1 : Int)))).bind fun v8 =>
        (ix (⟨([116, 105, 116, 108, 101] : List UInt8), ([97, 117, 116, 104, 111, 114] : List UInt8), ([121, 101, 97, 114] : List UInt8), ([105, 115, 98, 110] : List UInt8), ([108, 97, 110, 103, 117, 97, 103, 101] : List UInt8), ([112, 117, 98, 108, 105, 115, 104, 101, 114] : List UInt8), ([101, 100, 105, 116, 105, 111, 110] : List UInt8)⟩ : A74).l s5).bind fun v9 =>
        (appS v9 ([32] : List UInt8)).bind fun v10 =>
        (ix (⟨([] : List UInt8), ([97, 103, 114, 101, 101, 115] : List UInt8), ([110, 101, 97, 114] : List UInt8), ([100, 105, 102, 102, 101, 114, 115] : List UInt8)⟩ : A4).l v6).bind fun v11 =>
        (appS v10 v11).bind fun v12 =>
        (appS v12 ([32] : List UInt8)).bind fun v13 =>
        (itoaM v8.fNum).bind fun v14 =>
        (appS v13 v14).bind fun v15 =>
        (appS v15 ([47] : List UInt8)).bind fun v16 =>
        (itoaM v8.fDen).bind fun v17 =>
        (appS v16 v17).bind fun v18 =>
        (app 16 s4 ([v18] : List (List UInt8))).bind fun v19 =>
        some v19
      else
      some s4 : Option (List (List UInt8))).bind fun t20 =>
    some (.inl (t20, (IntKind.i64.wrap (s5 + (1 : Int)))))
  else
  some (.inr s4)

/-- bookplate/match.Explain -/
def m_match_Explain (n : Nat) (a1 : A7) (a2 : A73) : Option ((List (List UInt8)) × Int) :=
  (m_match_Factors n a1 a2).bind fun v3 =>
  if (!decide (v3.2 = (0 : Int))) = true then
    some ([], v3.2)
  else
  (iter n (fun s => m_match_Explain_L1 n a1 a2 s.1 s.2) ([], (0 : Int))).bind fun t4 =>
  some (t4, (0 : Int))

def m_evidence_Print_L1 (n : Nat) (a1 : (List SLink)) (s2 : (List (List UInt8))) (s3 : Int) : Option (((List (List UInt8)) × Int) ⊕ (((List (List UInt8)) × Int) ⊕ (List (List UInt8)))) :=
  if (decide (s3 < (a1.length : Int))) = true then
    (ix a1 s3).bind fun v4 =>
    (m_match_Works n).bind fun v5 =>
    (m_match_Explain n v5 v4.fOutcome).bind fun v6 =>
    if (!decide (v6.2 = (0 : Int))) = true then
      some (.inr (.inl ([], v6.2)))
    else
    (itoaM v4.fA).bind fun v7 =>
    (appS v7 ([32] : List UInt8)).bind fun v8 =>
    (itoaM v4.fB).bind fun v9 =>
    (appS v8 v9).bind fun v10 =>
    (
      if v4.fMust = true then
        (appS v10 ([32, 109, 117, 115, 116] : List UInt8)).bind fun v11 =>
        some v11
      else
      (itoaM v4.fWeight).bind fun v12 =>
      (appS ([32, 119, 101, 105, 103, 104, 116, 32] : List UInt8) v12).bind fun v13 =>
      (appS v13 ([58, 32] : List UInt8)).bind fun v14 =>
      (joinM v6.1 ([44, 32] : List UInt8)).bind fun v15 =>
      (appS v14 v15).bind fun v16 =>
      (appS v10 v16).bind fun v17 =>
      some v17 : Option (List UInt8)).bind fun t18 =>
    (app 16 s2 ([t18] : List (List UInt8))).bind fun v19 =>
    some (.inl (v19, (IntKind.i64.wrap (s3 + (1 : Int)))))
  else
  some (.inr (.inr s2))

/-- bookplate/evidence.Print -/
def m_evidence_Print (n : Nat) (a1 : (List SLink)) : Option ((List (List UInt8)) × Int) :=
  (iter n (fun s => m_evidence_Print_L1 n a1 s.1 s.2) ([], (0 : Int))).bind fun t2 => match t2 with
  | (.inl u3) =>
    some u3
  | (.inr u4) =>
    some (u4, (0 : Int))

def m_ref31_model_L2 (n : Nat) (a1 : A72) (s2 : Int) (s4 : Int) (s5 : A7) : Option ((Int × A7) ⊕ A7) :=
  if (decide (s4 < (3 : Int))) = true then
    (ix a1.l s2).bind fun v6 =>
    (ix v6.l (IntKind.i64.wrap ((2 : Int) * s4))).bind fun v7 =>
    (ix a1.l s2).bind fun v8 =>
    (ix v8.l (IntKind.i64.wrap ((IntKind.i64.wrap ((2 : Int) * s4)) + (1 : Int)))).bind fun v9 =>
    (ix s5.l s2).bind fun v10 =>
    (ix v10.l s4).bind fun v11 =>
    (A3.put v10 s4 (⟨v7, v9⟩ : SRatio)).bind fun v12 =>
    (A7.put s5 s2 v12).bind fun v13 =>
    some (.inl ((IntKind.i64.wrap (s4 + (1 : Int))), v13))
  else
  some (.inr s5)

def m_ref31_model_L1 (n : Nat) (a1 : A72) (s2 : Int) (s3 : A7) : Option ((Int × A7) ⊕ A7) :=
  if (decide (s2 < (7 : Int))) = true then
    (iter n (fun s => m_ref31_model_L2 n a1 s2 s.1 s.2) ((0 : Int), s3)).bind fun t4 =>
    some (.inl ((IntKind.i64.wrap (s2 + (1 : Int))), t4))
  else
  some (.inr s3)

/-- bookplate/bookplateref31.model -/
def m_ref31_model (n : Nat) (a1 : A72) : Option A7 :=
  (iter n (fun s => m_ref31_model_L1 n a1 s.1 s.2) ((0 : Int), (⟨(⟨(⟨(0 : Int), (0 : Int)⟩ : SRatio), (⟨(0 : Int), (0 : Int)⟩ : SRatio), (⟨(0 : Int), (0 : Int)⟩ : SRatio)⟩ : A3), (⟨(⟨(0 : Int), (0 : Int)⟩ : SRatio), (⟨(0 : Int), (0 : Int)⟩ : SRatio), (⟨(0 : Int), (0 : Int)⟩ : SRatio)⟩ : A3), (⟨(⟨(0 : Int), (0 : Int)⟩ : SRatio), (⟨(0 : Int), (0 : Int)⟩ : SRatio), (⟨(0 : Int), (0 : Int)⟩ : SRatio)⟩ : A3), (⟨(⟨(0 : Int), (0 : Int)⟩ : SRatio), (⟨(0 : Int), (0 : Int)⟩ : SRatio), (⟨(0 : Int), (0 : Int)⟩ : SRatio)⟩ : A3), (⟨(⟨(0 : Int), (0 : Int)⟩ : SRatio), (⟨(0 : Int), (0 : Int)⟩ : SRatio), (⟨(0 : Int), (0 : Int)⟩ : SRatio)⟩ : A3), (⟨(⟨(0 : Int), (0 : Int)⟩ : SRatio), (⟨(0 : Int), (0 : Int)⟩ : SRatio), (⟨(0 : Int), (0 : Int)⟩ : SRatio)⟩ : A3), (⟨(⟨(0 : Int), (0 : Int)⟩ : SRatio), (⟨(0 : Int), (0 : Int)⟩ : SRatio), (⟨(0 : Int), (0 : Int)⟩ : SRatio)⟩ : A3)⟩ : A7))).bind fun t2 =>
  some t2

/-- bookplate/bookplateref31.Works -/
def m_ref31_Works (n : Nat) : Option A7 :=
  (m_ref31_model n (⟨(⟨(20 : Int), (1 : Int), (6 : Int), (1 : Int), (1 : Int), (12 : Int)⟩ : A6), (⟨(12 : Int), (1 : Int), (4 : Int), (1 : Int), (1 : Int), (20 : Int)⟩ : A6), (⟨(2 : Int), (1 : Int), (3 : Int), (2 : Int), (4 : Int), (5 : Int)⟩ : A6), (⟨(100 : Int), (1 : Int), (1 : Int), (1 : Int), (3 : Int), (4 : Int)⟩ : A6), (⟨(3 : Int), (2 : Int), (1 : Int), (1 : Int), (1 : Int), (2 : Int)⟩ : A6), (⟨(6 : Int), (5 : Int), (1 : Int), (1 : Int), (9 : Int), (10 : Int)⟩ : A6), (⟨(1 : Int), (1 : Int), (1 : Int), (1 : Int), (1 : Int), (1 : Int)⟩ : A6)⟩ : A72)).bind fun v1 =>
  some v1

def m_ref28_Valid_L1 (n : Nat) (a1 : (List SRatio)) (s2 : Int) : Option (Int ⊕ (Bool ⊕ Unit)) :=
  if (decide (s2 < (a1.length : Int))) = true then
    (ix a1 s2).bind fun v3 =>
    ((if (!(decide (v3.fNum < (1 : Int)))) = true then ix a1 s2 else some default)).bind fun v4 =>
    ((if (!((decide (v3.fNum < (1 : Int))) || (decide ((1000 : Int) < v4.fNum)))) = true then ix a1 s2 else some default)).bind fun v5 =>
    ((if (!(((decide (v3.fNum < (1 : Int))) || (decide ((1000 : Int) < v4.fNum))) || (decide (v5.fDen < (1 : Int))))) = true then ix a1 s2 else some default)).bind fun v6 =>
    if ((((decide (v3.fNum < (1 : Int))) || (decide ((1000 : Int) < v4.fNum))) || (decide (v5.fDen < (1 : Int)))) || (decide ((1000 : Int) < v6.fDen))) = true then
      some (.inr (.inl false))
    else
    some (.inl (IntKind.i64.wrap (s2 + (1 : Int))))
  else
  some (.inr (.inr ()))

/-- bookplate/bookplateref28.Valid -/
def m_ref28_Valid (n : Nat) (a1 : (List SRatio)) : Option Bool :=
  (iter n (fun s => m_ref28_Valid_L1 n a1 s) (0 : Int)).bind fun t2 => match t2 with
  | (.inl u3) =>
    some u3
  | (.inr u4) =>
    some (decide ((a1.length : Int) ≤ (12 : Int)))

def m_ref31_Valid_L2 (n : Nat) (a1 : A7) (s2 : Int) (s3 : Int) : Option (Int ⊕ (Bool ⊕ Unit)) :=
  if (decide (s3 < (3 : Int))) = true then
    (ix a1.l s2).bind fun v4 =>
    (ix v4.l s3).bind fun v5 =>
    (m_ref28_Valid n ([v5] : List SRatio)).bind fun v6 =>
    if (!v6) = true then
      some (.inr (.inl false))
    else
    some (.inl (IntKind.i64.wrap (s3 + (1 : Int))))
  else
  some (.inr (.inr ()))

def m_ref31_Valid_L1 (n : Nat) (a1 : A7) (s2 : Int) : Option (Int ⊕ (Bool ⊕ Unit)) :=
  if (decide (s2 < (7 : Int))) = true then
    (iter n (fun s => m_ref31_Valid_L2 n a1 s2 s) (0 : Int)).bind fun t3 => match t3 with
    | (.inl u4) =>
      some (.inr (.inl u4))
    | (.inr u5) =>
      some (.inl (IntKind.i64.wrap (s2 + (1 : Int))))
  else
  some (.inr (.inr ()))

/-- bookplate/bookplateref31.Valid -/
def m_ref31_Valid (n : Nat) (a1 : A7) : Option Bool :=
  (iter n (fun s => m_ref31_Valid_L1 n a1 s) (0 : Int)).bind fun t2 => match t2 with
  | (.inl u3) =>
    some u3
  | (.inr u4) =>
    some true

def m_ref31_Factors_L1 (n : Nat) (a1 : A7) (a2 : A73) (s4 : (List SRatio)) (s5 : Int) : Option (((List SRatio) × Int) ⊕ (((List SRatio) × Int) ⊕ (List SRatio))) :=
  if (decide (s5 < (7 : Int))) = true then
    (
      (ix a2.l s5).bind fun v6 =>
      ((if (!(decide (v6 < (0 : Int)))) = true then ix a2.l s5 else some default)).bind fun v7 =>
      if ((decide (v6 < (0 : Int))) || (decide ((3 : Int) < v7))) = true then
        some (.inl ([], (1 : Int)))
      else
      (ix a2.l s5).bind fun v8 =>
      if (!decide (v8 = (0 : Int))) = true then
        (ix a2.l s5).bind fun v9 =>
        (ix a1.l s5).bind fun v10 =>
        (ix v10.l (IntKind.i64.wrap (v9 - (1 : Int)))).bind fun v11 =>
        (app 16 s4 ([v11] : List SRatio)).bind fun v12 =>
        some (.inr v12)
      else
      some (.inr s4) : Option (((List SRatio) × Int) ⊕ (List SRatio))).bind fun t13 => match t13 with
    | (.inl u14) =>
      some (.inr (.inl u14))
    | (.inr u15) =>
      some (.inl (u15, (IntKind.i64.wrap (s5 + (1 : Int)))))
  else
  some (.inr (.inr s4))

/-- bookplate/bookplateref31.Factors -/
def m_ref31_Factors (n : Nat) (a1 : A7) (a2 : A73) : Option ((List SRatio) × Int) :=
  (m_ref31_Valid n a1).bind fun v3 =>
  if (!v3) = true then
    some ([], (1 : Int))
  else
  (iter n (fun s => m_ref31_Factors_L1 n a1 a2 s.1 s.2) ([], (0 : Int))).bind fun t4 => match t4 with
  | (.inl u5) =>
    some u5
  | (.inr u6) =>
    some (u6, (0 : Int))

/-- bookplate/bookplateref31.name -/
def m_ref31_name (n : Nat) (a1 : Int) : Option (List UInt8) :=
  (ix ([([116, 105, 116, 108, 101] : List UInt8), ([97, 117, 116, 104, 111, 114] : List UInt8), ([121, 101, 97, 114] : List UInt8), ([105, 115, 98, 110] : List UInt8), ([108, 97, 110, 103, 117, 97, 103, 101] : List UInt8), ([112, 117, 98, 108, 105, 115, 104, 101, 114] : List UInt8), ([101, 100, 105, 116, 105, 111, 110] : List UInt8)] : List (List UInt8)) a1).bind fun v2 =>
  some v2

/-- bookplate/bookplateref31.verb -/
def m_ref31_verb (n : Nat) (a1 : Int) : Option (List UInt8) :=
  (ix ([([] : List UInt8), ([32, 97, 103, 114, 101, 101, 115, 32] : List UInt8), ([32, 110, 101, 97, 114, 32] : List UInt8), ([32, 100, 105, 102, 102, 101, 114, 115, 32] : List UInt8)] : List (List UInt8)) a1).bind fun v2 =>
  some v2

def m_ref31_decimal_L1 (n : Nat) (s4 : Int) (s5 : (List UInt8)) : Option ((Int × (List UInt8)) ⊕ (List UInt8)) :=
  if (decide ((0 : Int) < s4)) = true then
    (rem s4 (10 : Int)).bind fun v6 =>
    (appS (textL ([(IntKind.u8.wrap (IntKind.i64.wrap ((48 : Int) + v6)))] : List Int)) s5).bind fun v7 =>
    (quo .i64 s4 (10 : Int)).bind fun v8 =>
    some (.inl (v8, v7))
  else
  some (.inr s5)

/-- bookplate/bookplateref31.decimal -/
def m_ref31_decimal (n : Nat) (a1 : Int) : Option (List UInt8) :=
  (rem a1 (10 : Int)).bind fun v2 =>
  (quo .i64 a1 (10 : Int)).bind fun v3 =>
  (iter n (fun s => m_ref31_decimal_L1 n s.1 s.2) (v3, (textL ([(IntKind.u8.wrap (IntKind.i64.wrap ((48 : Int) + v2)))] : List Int)))).bind fun t4 =>
  some t4

def m_ref31_Explain_L1 (n : Nat) (a1 : A7) (a2 : A73) (s4 : (List (List UInt8))) (s5 : Int) : Option (((List (List UInt8)) × Int) ⊕ (List (List UInt8))) :=
  if (decide (s5 < (7 : Int))) = true then
    (
      (ix a2.l s5).bind fun v6 =>
      if (!decide (v6 = (0 : Int))) = true then
        (ix a2.l s5).bind fun v7 =>
        (ix a1.l s5).bind fun v8 =>
        (ix v8.l (IntKind.i64.wrap (v7 - (1 : Int)))).bind fun v9 =>
        (m_ref31_name n s5).bind fun v10 =>
        (ix a2.l s5).bind fun v11 =>
        (m_ref31_verb n v11).bind fun v12 =>
        (appS v10 v12).bind fun v13 =>
        (m_ref31_decimal n v9.fNum).bind fun v14 =>
        (appS v13 v14).bind fun v15 =>
        (appS v15 ([47] : List UInt8)).bind fun v16 =>
        (m_ref31_decimal n v9.fDen).bind fun v17 =>
        (appS v16 v17).bind fun v18 =>
        (app 16 s4 ([v18] : List (List UInt8))).bind fun v19 =>
        some v19
      else
      some s4 : Option (List (List UInt8))).bind fun t20 =>
    some (.inl (t20, (IntKind.i64.wrap (s5 + (1 : Int)))))
  else
  some (.inr s4)

/-- bookplate/bookplateref31.Explain -/
def m_ref31_Explain (n : Nat) (a1 : A7) (a2 : A73) : Option ((List (List UInt8)) × Int) :=
  (m_ref31_Factors n a1 a2).bind fun v3 =>
  if (!decide (v3.2 = (0 : Int))) = true then
    some ([], v3.2)
  else
  (iter n (fun s => m_ref31_Explain_L1 n a1 a2 s.1 s.2) ([], (0 : Int))).bind fun t4 =>
  some (t4, (0 : Int))

/-- bookplate/bookplateref36.decimal -/
def m_ref36_decimal_B (n : Nat) (rc : Int → Option (List UInt8)) (a1 : Int) : Option (List UInt8) :=
  if (decide (a1 < (0 : Int))) = true then
    if (decide (a1 < (-9 : Int))) = true then
      (quo .i64 a1 (10 : Int)).bind fun v2 =>
      (rc (IntKind.i64.wrap (-v2))).bind fun v3 =>
      (appS ([45] : List UInt8) v3).bind fun v4 =>
      (rem a1 (10 : Int)).bind fun v5 =>
      (rc (IntKind.i64.wrap (-v5))).bind fun v6 =>
      (appS v4 v6).bind fun v7 =>
      some v7
    else
    (rc (IntKind.i64.wrap (-a1))).bind fun v8 =>
    (appS ([45] : List UInt8) v8).bind fun v9 =>
    some v9
  else
  if (decide (a1 < (10 : Int))) = true then
    some (textL ([(IntKind.u8.wrap (IntKind.i64.wrap ((48 : Int) + a1)))] : List Int))
  else
  (quo .i64 a1 (10 : Int)).bind fun v10 =>
  (rc v10).bind fun v11 =>
  (rem a1 (10 : Int)).bind fun v12 =>
  (rc v12).bind fun v13 =>
  (appS v11 v13).bind fun v14 =>
  some v14

/-- by depth -/
def m_ref36_decimal_R (n : Nat) : Nat → Int → Option (List UInt8)
  | 0 => fun _ => none
  | k + 1 => fun a1 => m_ref36_decimal_B n (m_ref36_decimal_R n k) a1

/-- bookplate/bookplateref36.decimal -/
def m_ref36_decimal (n : Nat) (a1 : Int) : Option (List UInt8) := m_ref36_decimal_R n n a1

def m_ref36_Print_L2 (n : Nat) (v6 : ((List (List UInt8)) × Int)) (s17 : (List UInt8)) (s18 : Int) : Option (((List UInt8) × Int) ⊕ (List UInt8)) :=
  if (decide (s18 < (v6.1.length : Int))) = true then
    (
      if (decide ((0 : Int) < s18)) = true then
        (appS s17 ([44, 32] : List UInt8)).bind fun v19 =>
        some v19
      else
      some s17 : Option (List UInt8)).bind fun t20 =>
    (ix v6.1 s18).bind fun v21 =>
    (appS t20 v21).bind fun v22 =>
    some (.inl (v22, (IntKind.i64.wrap (s18 + (1 : Int)))))
  else
  some (.inr s17)

def m_ref36_Print_L1 (n : Nat) (a1 : (List SLink)) (s2 : (List (List UInt8))) (s3 : Int) : Option (((List (List UInt8)) × Int) ⊕ (((List (List UInt8)) × Int) ⊕ (List (List UInt8)))) :=
  if (decide (s3 < (a1.length : Int))) = true then
    (
      (ix a1 s3).bind fun v4 =>
      (m_ref31_Works n).bind fun v5 =>
      (m_ref31_Explain n v5 v4.fOutcome).bind fun v6 =>
      if (!decide (v6.2 = (0 : Int))) = true then
        some (.inl ([], (1 : Int)))
      else
      (m_ref36_decimal n v4.fA).bind fun v7 =>
      (appS v7 ([32] : List UInt8)).bind fun v8 =>
      (m_ref36_decimal n v4.fB).bind fun v9 =>
      (appS v8 v9).bind fun v10 =>
      if v4.fMust = true then
        (appS v10 ([32, 109, 117, 115, 116] : List UInt8)).bind fun v11 =>
        (app 16 s2 ([v11] : List (List UInt8))).bind fun v12 =>
        some (.inr v12)
      else
      (m_ref36_decimal n v4.fWeight).bind fun v13 =>
      (appS ([32, 119, 101, 105, 103, 104, 116, 32] : List UInt8) v13).bind fun v14 =>
      (appS v14 ([58, 32] : List UInt8)).bind fun v15 =>
      (appS v10 v15).bind fun v16 =>
      (iter n (fun s => m_ref36_Print_L2 n v6 s.1 s.2) (v16, (0 : Int))).bind fun t17 =>
      (app 16 s2 ([t17] : List (List UInt8))).bind fun v18 =>
      some (.inr v18) : Option (((List (List UInt8)) × Int) ⊕ (List (List UInt8)))).bind fun t19 => match t19 with
    | (.inl u20) =>
      some (.inr (.inl u20))
    | (.inr u21) =>
      some (.inl (u21, (IntKind.i64.wrap (s3 + (1 : Int)))))
  else
  some (.inr (.inr s2))

/-- bookplate/bookplateref36.Print -/
def m_ref36_Print (n : Nat) (a1 : (List SLink)) : Option ((List (List UInt8)) × Int) :=
  (iter n (fun s => m_ref36_Print_L1 n a1 s.1 s.2) ([], (0 : Int))).bind fun t2 => match t2 with
  | (.inl u3) =>
    some u3
  | (.inr u4) =>
    some (u4, (0 : Int))

def m_law36_own_L1 (n : Nat) (a1 : (List SLink)) (s2 : (List SLink)) (s3 : Int) : Option (((List SLink) × Int) ⊕ (List SLink)) :=
  if (decide (s3 < (a1.length : Int))) = true then
    (ix a1 s3).bind fun v4 =>
    (app 88 s2 ([v4] : List SLink)).bind fun v5 =>
    some (.inl (v5, (IntKind.i64.wrap (s3 + (1 : Int)))))
  else
  some (.inr s2)

/-- bookplate/bookplatelaw36.own -/
def m_law36_own (n : Nat) (a1 : (List SLink)) : Option (List SLink) :=
  (iter n (fun s => m_law36_own_L1 n a1 s.1 s.2) ([], (0 : Int))).bind fun t2 =>
  some t2

def m_ref29_SameTexts_L1 (n : Nat) (a1 : (List (List UInt8))) (a2 : (List (List UInt8))) (s3 : Int) : Option (Int ⊕ (Bool ⊕ Unit)) :=
  if (decide (s3 < (a1.length : Int))) = true then
    (ix a1 s3).bind fun v4 =>
    (ix a2 s3).bind fun v5 =>
    if (!decide (v4 = v5)) = true then
      some (.inr (.inl false))
    else
    some (.inl (IntKind.i64.wrap (s3 + (1 : Int))))
  else
  some (.inr (.inr ()))

/-- bookplate/bookplateref29.SameTexts -/
def m_ref29_SameTexts (n : Nat) (a1 : (List (List UInt8))) (a2 : (List (List UInt8))) : Option Bool :=
  if (!decide ((a1.length : Int) = (a2.length : Int))) = true then
    some false
  else
  (iter n (fun s => m_ref29_SameTexts_L1 n a1 a2 s) (0 : Int)).bind fun t3 => match t3 with
  | (.inl u4) =>
    some u4
  | (.inr u5) =>
    some true

/-- bookplate/bookplatelaw36.EvidencePrint -/
def m_law36_EvidencePrint (n : Nat) (a1 : (List SLink)) : Option Bool :=
  if ((!true) || (decide ((10 : Int) < (a1.length : Int)))) = true then
    some true
  else
  (m_law36_own n a1).bind fun v2 =>
  (m_evidence_Print n v2).bind fun v3 =>
  (m_ref36_Print n a1).bind fun v4 =>
  (m_ref29_SameTexts n v3.1 v4.1).bind fun v5 =>
  some (v5 && (decide (v3.2 = v4.2)))

end
end Go.Proofs.YtindppnanjcoaaaGreatDoor.Ab
