/- The laws RangeHistogram and RangeCounts. Conditions: none. -/
import Derived.Test.YtjinohfopjlgkaaRq
namespace Go.Proofs.Ytjinohfopjlgkaa.Ab
open Go
def cnt (F : List SItem) (lo hi : Int) : Nat := (F.filter (inR lo hi)).length
theorem cnt_split (lo mid hi : Int) (h1 : lo ≤ mid + 1) (h2 : mid ≤ hi) : ∀ F : List SItem, cnt F lo hi = cnt F lo mid + cnt F (mid + 1) hi
  | [] => rfl
  | x :: F => by
    have ih := cnt_split lo mid hi h1 h2 F
    unfold cnt at ih ⊢
    by_cases a : inR lo mid x = true
    · have b : ¬ inR (mid + 1) hi x = true := by simp [inR] at a ⊢; omega
      have c : inR lo hi x = true := by simp [inR] at a ⊢; omega
      rw [List.filter_cons_of_pos a, List.filter_cons_of_neg b, List.filter_cons_of_pos c, List.length_cons, List.length_cons]; omega
    · by_cases b : inR (mid + 1) hi x = true
      · have c : inR lo hi x = true := by simp [inR] at b ⊢; omega
        rw [List.filter_cons_of_neg a, List.filter_cons_of_pos b, List.filter_cons_of_pos c, List.length_cons, List.length_cons]; omega
      · have c : ¬ inR lo hi x = true := by simp [inR] at a b ⊢; omega
        rw [List.filter_cons_of_neg a, List.filter_cons_of_neg b, List.filter_cons_of_neg c]; omega
theorem cnt_rank (lo hi : Int) (h : lo ≤ hi + 1) : ∀ F : List SItem, (F.filter (belowN (hi + 1))).length = (F.filter (belowN lo)).length + cnt F lo hi
  | [] => rfl
  | x :: F => by
    have ih := cnt_rank lo hi h F
    unfold cnt at ih ⊢
    by_cases a : belowN lo x = true
    · have b : ¬ inR lo hi x = true := by simp [inR, belowN] at a ⊢; omega
      have c : belowN (hi + 1) x = true := by simp [belowN] at a ⊢; omega
      rw [List.filter_cons_of_pos a, List.filter_cons_of_neg b, List.filter_cons_of_pos c, List.length_cons, List.length_cons]; omega
    · by_cases b : inR lo hi x = true
      · have c : belowN (hi + 1) x = true := by simp [inR, belowN] at b ⊢; omega
        rw [List.filter_cons_of_neg a, List.filter_cons_of_pos b, List.filter_cons_of_pos c, List.length_cons, List.length_cons]; omega
      · have c : ¬ belowN (hi + 1) x = true := by simp [inR, belowN] at a b ⊢; omega
        rw [List.filter_cons_of_neg a, List.filter_cons_of_neg b, List.filter_cons_of_neg c]; omega
theorem cnt_le (F : List SItem) (lo hi : Int) : cnt F lo hi ≤ F.length := List.length_filter_le _ _
def hW (lo hi parts : Int) : Int := (hi - lo + parts) / parts
def hC (F : List SItem) (lo hi parts : Int) (j : Nat) : Int := (cnt F (lo + j * hW lo hi parts) (min hi (lo + j * hW lo hi parts + hW lo hi parts - 1)) : Int)
def hOk (lo hi parts : Int) : Prop := 0 ≤ lo ∧ lo ≤ hi ∧ hi ≤ 1000000000000 ∧ 1 ≤ parts ∧ parts ≤ 100
instance {lo hi parts : Int} : Decidable (hOk lo hi parts) := by unfold hOk; exact inferInstance
theorem plain_RangeCounts {l : List SOp} {a : A3} : m_law42_RangeCounts FU l a = some true := by
  have hf := fuL
  obtain ⟨lo, mid, hi⟩ := a
  unfold m_law42_RangeCounts
  rw [awake42, Option.bind_some, if_neg (by decide), small_l, Option.bind_some]
  dsimp only
  by_cases h : l.length ≤ 120 ∧ -10000000000000 ≤ lo ∧ lo ≤ mid ∧ mid ≤ hi ∧ hi ≤ 10000000000000
  · obtain ⟨h, h1, h2, h3, h4⟩ := h
    obtain ⟨B, e1, e2, e3, e4⟩ := play_ok h
    have hB := e3.len
    have c1 := cnt_rank lo hi (by omega) B.flatten
    have c2 := cnt_split lo mid hi (by omega) (by omega) B.flatten
    have c3 := cnt_le B.flatten lo hi
    have c4 := List.length_filter_le (belowN lo) B.flatten
    have hcn : ∀ lo hi, m_rangeindex_Count FU ⟨B⟩ lo hi = some (cnt B.flatten lo hi : Int) := fun lo hi => count_prog (by omega) (by omega) fuL
    have hrk : ∀ a, m_rangeindex_Rank FU ⟨B⟩ a = some ((B.flatten.filter (belowN a)).length : Int) := fun a => rank_prog (by omega) (by omega) fuL
    have a1 : m_law42_items FU ⟨B⟩ = some B.flatten := items_i (by omega) (by omega) fuL
    have hw1 : IntKind.i64.wrap (hi + 1) = hi + 1 := w64 (by omega) (by omega)
    have hw2 : IntKind.i64.wrap (mid + 1) = mid + 1 := w64 (by omega) (by omega)
    rw [if_neg (by simp; omega), e1, Option.bind_some]
    dsimp only
    rw [hcn, Option.bind_some, hw1, hrk, Option.bind_some, hrk, Option.bind_some, hw2, hcn, hcn, w64 (x := ((B.flatten.filter (belowN (hi + 1))).length : Int) - ((B.flatten.filter (belowN lo)).length : Int)) (by omega) (by omega)]
    have k1 : decide ((cnt B.flatten lo hi : Int) = ((B.flatten.filter (belowN (hi + 1))).length : Int) - ((B.flatten.filter (belowN lo)).length : Int)) = true := decide_eq_true (by omega)
    rw [k1, if_pos (by rfl), Option.bind_some, if_pos (by rfl), Option.bind_some, w64 (by omega) (by omega), decide_eq_true (show (cnt B.flatten lo hi : Int) = (cnt B.flatten lo mid : Int) + (cnt B.flatten (mid + 1) hi : Int) by omega), if_neg (by decide), a1, Option.bind_some]
    have hs := e3.2.2
    have hnth : ∀ i : Nat, i ≤ 1000000 → m_rangeindex_Nth FU ⟨B⟩ (i : Int) = some (nthF B.flatten (i : Int)) := fun i hi => nth_prog (by omega) (by omega) (by omega) (by omega) fuL
    have q : iter FU (fun s => m_law42_RangeCounts_L1 FU ⟨B⟩ B.flatten s) (0 : Int) = some (.inr ()) := by
      have := iter_any (f := fun s => m_law42_RangeCounts_L1 FU ⟨B⟩ B.flatten s) B.flatten.length FU (fun _ => false) (.inl false) (.inr ()) (fun j hj => by
        have hg : nthF B.flatten (j : Int) = (B.flatten.getD j default, true) := by unfold nthF; rw [if_pos ⟨by omega, by omega⟩]; rfl
        have ex : ∀ x : SItem, (⟨x.fN, x.fDoc⟩ : SItem) = x := fun _ => rfl
        simp only [m_law42_RangeCounts_L1]
        rw [if_pos (decide_eq_true (by omega)), hnth j (by omega), hg, Option.bind_some]
        dsimp only
        rw [ex, if_pos (by rfl), ix_get default hj, Option.bind_some, decide_eq_true rfl]
        by_cases hj0 : 0 < j
        · have e3' : IntKind.i64.wrap ((j : Int) - 1) = ((j - 1 : Nat) : Int) := by rw [w64 (by omega) (by omega)]; omega
          have hlt := pair_get hs (i := j - 1) (j := j) (by omega) hj
          rw [decide_eq_true (show (0 : Int) < (j : Int) by omega), if_pos (by rfl), e3', ix_get default (by omega), Option.bind_some, if_pos (by rfl), Option.bind_some, if_pos (by rfl), less_i, Option.bind_some, decide_eq_true hlt, if_neg (by decide), if_neg (by decide), wadd1 hj (by simp only [ML]; omega)]
        · obtain rfl : j = 0 := by omega
          rfl) (by simp [m_law42_RangeCounts_L1]) (by omega)
      rw [this, anyN_f.2 (fun _ _ => rfl)]; rfl
    rw [q, Option.bind_some]
    dsimp only
    have c5 := List.length_filter_le (belowN mid) B.flatten
    rw [hrk, Option.bind_some, hnth _ (by omega), Option.bind_some, hcn, Option.bind_some]
    congr 1
    rw [beq_iff_eq, Bool.eq_iff_iff]
    rw [← tw_filter hs]
    have hF := List.takeWhile_append_dropWhile (p := belowN mid) (l := B.flatten)
    have hP : ∀ y ∈ B.flatten.takeWhile (belowN mid), belowN mid y = true := fun y hy => tw_mem hy
    have hS : ∀ y S', B.flatten.dropWhile (belowN mid) = y :: S' → belowN mid y = false := fun y S' h => dw_head h
    generalize B.flatten.takeWhile (belowN mid) = P at *
    generalize B.flatten.dropWhile (belowN mid) = S at *
    clear q c1 c2 c3 c4 c5 hnth hrk hcn k1 a1 hw1 hw2
    rw [← hF] at hs ⊢
    rw [Bool.and_eq_true, decide_eq_true_eq, decide_eq_true_eq]
    cases S with
    | nil =>
      have hn0 : nthF (P ++ []) (P.length : Int) = (⟨0, 0⟩, false) := by unfold nthF; rw [if_neg (by simp)]
      rw [hn0]
      have : cnt (P ++ []) mid mid = 0 := by
        unfold cnt
        rw [List.length_eq_zero_iff, List.filter_eq_nil_iff]
        intro x hx
        have := hP x (by simpa using hx)
        simp [belowN] at this
        simp [inR]; omega
      rw [this]; simp
    | cons y S =>
      have hn1 : nthF (P ++ y :: S) (P.length : Int) = (y, true) := by
        unfold nthF; rw [if_pos ⟨by omega, by simp only [List.length_append, List.length_cons]; omega⟩]; simp
      have hy := hS y S rfl
      have hy' : mid ≤ y.fN := by simpa [belowN] using hy
      rw [hn1]
      constructor
      · rintro ⟨_, hm⟩
        have : y ∈ (P ++ y :: S).filter (inR mid mid) := by
          rw [List.mem_filter]; refine ⟨by simp, ?_⟩
          simp only [inR, Bool.and_eq_true, decide_eq_true_eq]; dsimp only at hm; omega
        have := List.length_pos_of_mem this
        unfold cnt; omega
      · intro hm
        refine ⟨rfl, ?_⟩
        have hm' : 0 < ((P ++ y :: S).filter (inR mid mid)).length := by unfold cnt at hm; omega
        obtain ⟨z, hz⟩ := List.exists_mem_of_length_pos hm'
        rw [List.mem_filter] at hz
        obtain ⟨hz1, hz2⟩ := hz
        simp only [inR, Bool.and_eq_true, decide_eq_true_eq] at hz2
        show y.fN = mid
        rcases List.mem_append.1 hz1 with hz1 | hz1
        · have := hP z hz1
          simp [belowN] at this; omega
        · rcases List.mem_cons.1 hz1 with e | e
          · rw [← e]; omega
          · have := (List.pairwise_cons.1 (List.pairwise_append.1 hs).2.1).1 z e
            unfold LtI at this; omega
  · rw [if_pos (by simp only [Bool.or_eq_true, Bool.not_eq_true', decide_eq_true_eq, decide_eq_false_iff_not]; omega)]
end Go.Proofs.Ytjinohfopjlgkaa.Ab
