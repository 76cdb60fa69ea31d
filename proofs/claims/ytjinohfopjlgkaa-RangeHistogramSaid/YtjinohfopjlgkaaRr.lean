/- The laws RangeHistogram and RangeCounts. Conditions: none. -/
import Derived.Test.YtjinohfopjlgkaaRq
namespace Go.Proofs.Ytjinohfopjlgkaa.Ab
open Go
def cnt (F : List SItem) (lo hi : Int) : Nat := (F.filter (inR lo hi)).length
theorem cnt_split (lo mid hi : Int) (h1 : lo ≤ mid + 1) (h2 : mid ≤ hi) : ∀ F : List SItem, cnt F lo hi = cnt F lo mid + cnt F (mid + 1) hi
  | [] => rfl
  | x :: F => by
    have ih := cnt_split lo mid hi h1 h2 F
    unfold cnt at ih ⊢
    by_cases a : inR lo mid x = true
    · have b : ¬ inR (mid + 1) hi x = true := by simp [inR] at a ⊢; omega
      have c : inR lo hi x = true := by simp [inR] at a ⊢; omega
      rw [List.filter_cons_of_pos a, List.filter_cons_of_neg b, List.filter_cons_of_pos c, List.length_cons, List.length_cons]; omega
    · by_cases b : inR (mid + 1) hi x = true
      · have c : inR lo hi x = true := by simp [inR] at b ⊢; omega
        rw [List.filter_cons_of_neg a, List.filter_cons_of_pos b, List.filter_cons_of_pos c, List.length_cons, List.length_cons]; omega
      · have c : ¬ inR lo hi x = true := by simp [inR] at a b ⊢; omega
        rw [List.filter_cons_of_neg a, List.filter_cons_of_neg b, List.filter_cons_of_neg c]; omega
theorem cnt_none (F : List SItem) (lo hi : Int) (h : hi < lo) : cnt F lo hi = 0 := by
  unfold cnt
  rw [List.length_eq_zero_iff, List.filter_eq_nil_iff]
  intro x _
  simp [inR]; omega
theorem cnt_le (F : List SItem) (lo hi : Int) : cnt F lo hi ≤ F.length := List.length_filter_le _ _
def hW (lo hi parts : Int) : Int := (hi - lo + parts) / parts
def hM (lo hi parts : Int) : Nat := ((hi - lo) / hW lo hi parts).toNat + 1
def hC (F : List SItem) (lo hi parts : Int) (j : Nat) : Int := (cnt F (lo + j * hW lo hi parts) (min hi (lo + j * hW lo hi parts + hW lo hi parts - 1)) : Int)
def hOk (lo hi parts : Int) : Prop := 0 ≤ lo ∧ lo ≤ hi ∧ hi ≤ 1000000000000 ∧ 1 ≤ parts ∧ parts ≤ 100
instance {lo hi parts : Int} : Decidable (hOk lo hi parts) := by unfold hOk; exact inferInstance
def histF (F : List SItem) (lo hi parts : Int) : List Int := if hOk lo hi parts then (List.range (hM lo hi parts)).map (hC F lo hi parts) else []
theorem hW_ok {lo hi parts : Int} (h : hOk lo hi parts) : 1 ≤ hW lo hi parts ∧ hW lo hi parts ≤ 1000000000100 ∧ hi - lo < hW lo hi parts * parts := by
  obtain ⟨h1, h2, h3, h4, h5⟩ := h
  unfold hW
  refine ⟨?_, ?_, ?_⟩
  · rw [Int.le_ediv_iff_mul_le (by omega)]; omega
  · have := Int.ediv_le_self (a := hi - lo + parts) parts (by omega); omega
  · have := Int.lt_ediv_add_one_mul_self (hi - lo + parts) (show 0 < parts by omega)
    rw [Int.add_mul, Int.one_mul] at this; omega
theorem hM_ok {lo hi parts : Int} (h : hOk lo hi parts) : (hM lo hi parts : Int) ≤ parts ∧ (∀ j : Nat, j < hM lo hi parts → lo + j * hW lo hi parts ≤ hi) ∧ hi < lo + hM lo hi parts * hW lo hi parts := by
  obtain ⟨w1, w2, w3⟩ := hW_ok h
  obtain ⟨h1, h2, h3, h4, h5⟩ := h
  unfold hM
  generalize hW lo hi parts = w at *
  have hd0 : 0 ≤ (hi - lo) / w := Int.ediv_nonneg (by omega) (by omega)
  have e : (((hi - lo) / w).toNat : Int) = (hi - lo) / w := Int.toNat_of_nonneg hd0
  refine ⟨?_, fun j hj => ?_, ?_⟩
  · have : (hi - lo) / w < parts := by
      rw [Int.ediv_lt_iff_lt_mul (by omega), Int.mul_comm]; exact w3
    omega
  · have h6 : (j : Int) ≤ (hi - lo) / w := by omega
    rw [Int.le_ediv_iff_mul_le (by omega)] at h6; omega
  · have := Int.lt_ediv_add_one_mul_self (hi - lo) (show 0 < w by omega)
    rw [show ((((hi - lo) / w).toNat + 1 : Nat) : Int) = (hi - lo) / w + 1 by omega]; omega
theorem hist_ref {n : Nat} {F : List SItem} {lo hi parts : Int} (h : F.length ≤ 1000000) (hn : 1000000 < n) : m_ref42_Histogram n F lo hi parts = some (histF F lo hi parts) := by
  unfold m_ref42_Histogram histF
  by_cases ho : hOk lo hi parts
  · obtain ⟨m1, m2, m3⟩ := hM_ok ho
    obtain ⟨w1, w2, w3⟩ := hW_ok ho
    have ho' := ho
    obtain ⟨h1, h2, h3, h4, h5⟩ := ho'
    have hq : quo .i64 (IntKind.i64.wrap (IntKind.i64.wrap (hi - lo) + parts)) parts = some (hW lo hi parts) := by
      unfold quo hW
      rw [if_neg (by omega), w64 (x := hi - lo) (by omega) (by omega), w64 (x := hi - lo + parts) (by omega) (by omega), quo64 (by omega) (by omega) (by omega)]
    rw [if_neg (by simp; omega), if_pos ho, hq, Option.bind_some]
    have q : iter n (fun s => m_ref42_Histogram_L1 n F hi (hW lo hi parts) s.1 s.2) (([] : List Int), lo) = some ((List.range (hM lo hi parts)).map (hC F lo hi parts)) := by
      refine iter_to (fun j => ((List.range j).map (hC F lo hi parts), lo + j * hW lo hi parts)) (hM lo hi parts) n _ (fun j hj => ?_) ?_ (by omega) (by simp)
      · have h6 := m2 j hj
        have h7 : 0 ≤ (j : Int) * hW lo hi parts := Int.mul_nonneg (by omega) (by omega)
        simp only [m_ref42_Histogram_L1]
        rw [if_pos (decide_eq_true h6), w64 (x := lo + (j : Int) * hW lo hi parts + hW lo hi parts) (by omega) (by omega), w64 (x := lo + (j : Int) * hW lo hi parts + hW lo hi parts - 1) (by omega) (by omega), between_ref h hn, Option.bind_some, app_one (by simp; omega) (by simp; omega), Option.bind_some, List.range_succ, List.map_append]
        have e : lo + ((j + 1 : Nat) : Int) * hW lo hi parts = lo + (j : Int) * hW lo hi parts + hW lo hi parts := by
          rw [show ((j + 1 : Nat) : Int) = (j : Int) + 1 from rfl, Int.add_mul, Int.one_mul]; omega
        rw [e]; rfl
      · simp only [m_ref42_Histogram_L1]
        rw [if_neg (by rw [decide_eq_true_eq]; omega)]
    rw [q]; rfl
  · rw [if_neg ho, if_pos]
    unfold hOk at ho
    simp only [Bool.or_eq_true, decide_eq_true_eq]; omega
theorem hist_prog {n : Nat} {B : List (List SItem)} {lo hi parts : Int} (h1 : B.length ≤ 1000000) (h2 : B.flatten.length ≤ 1000000) (hn : 1000000 < n) : m_rangeindex_Histogram n ⟨B⟩ lo hi parts = some (histF B.flatten lo hi parts) := by
  rw [← hist_ref h2 hn]
  unfold m_rangeindex_Histogram m_ref42_Histogram
  have e : ∀ v5 s6 s7, m_rangeindex_Histogram_L1 n ⟨B⟩ hi v5 s6 s7 = m_ref42_Histogram_L1 n B.flatten hi v5 s6 s7 := fun v5 s6 s7 => by
    unfold m_rangeindex_Histogram_L1 m_ref42_Histogram_L1
    dsimp only
    rw [count_prog h1 h2 hn, between_ref h2 hn]; rfl
  simp only [e]
theorem sum_loop {v : List Int} (S : Nat → Nat) (h0 : S 0 = 0) (hs : ∀ j, j < v.length → (S (j + 1) : Int) = S j + v.getD j default) (hb : ∀ j, j ≤ v.length → S j ≤ 1000000) (hl : v.length ≤ 1000) : iter FU (fun s => m_law42_RangeHistogram_L1 FU v s.1 s.2) ((0 : Int), (0 : Int)) = some (S v.length : Int) := by
  have hf := fuL
  refine iter_to (fun j => ((S j : Int), (j : Int))) v.length FU _ (fun j hj => ?_) ?_ (by omega) (by rw [h0]; rfl)
  · have h1 := hs j hj
    have h2 := hb (j + 1) (by omega)
    simp only [m_law42_RangeHistogram_L1]
    rw [if_pos (decide_eq_true (by omega)), ix_get default hj, Option.bind_some, ← h1, w64 (by omega) (by omega), wadd1 hj (by simp only [ML]; omega)]
  · simp [m_law42_RangeHistogram_L1]
theorem plain_RangeHistogram {l : List SOp} {a : A3} : m_law42_RangeHistogram FU l a = some true := by
  unfold m_law42_RangeHistogram
  rw [awake42, Option.bind_some, if_neg (by decide), small_l, Option.bind_some]
  by_cases h : l.length ≤ 120
  · obtain ⟨B, e1, e2, e3, e4⟩ := play_ok h
    have hB := e3.len
    rw [decide_eq_true (show (l.length : Int) ≤ 120 by omega), if_neg (by decide), e1, Option.bind_some]
    dsimp only
    rw [hist_prog (by omega) (by omega) fuL, Option.bind_some]
    obtain ⟨lo, hi, parts⟩ := a
    dsimp only
    by_cases ho : hOk lo hi parts
    · obtain ⟨m1, m2, m3⟩ := hM_ok ho
      obtain ⟨w1, w2, w3⟩ := hW_ok ho
      have ho' := ho
      obtain ⟨h1, h2, h3, h4, h5⟩ := ho'
      have hv : histF B.flatten lo hi parts = (List.range (hM lo hi parts)).map (hC B.flatten lo hi parts) := by unfold histF; rw [if_pos ho]
      have hlen : (histF B.flatten lo hi parts).length = hM lo hi parts := by rw [hv]; simp
      have hs := sum_loop (v := histF B.flatten lo hi parts) (fun j => cnt B.flatten lo (min hi (lo + j * hW lo hi parts - 1))) (cnt_none _ _ _ (by simp; omega)) (fun j hj => by
          have h6 := m2 j (by omega)
          have h7 : 0 ≤ (j : Int) * hW lo hi parts := Int.mul_nonneg (by omega) (by omega)
          have hg : (histF B.flatten lo hi parts).getD j default = hC B.flatten lo hi parts j := by
            rw [hv]; simp [show j < hM lo hi parts by omega]
          have e : lo + ((j + 1 : Nat) : Int) * hW lo hi parts - 1 = lo + (j : Int) * hW lo hi parts + hW lo hi parts - 1 := by
            rw [show ((j + 1 : Nat) : Int) = (j : Int) + 1 from rfl, Int.add_mul, Int.one_mul]; omega
          have hsp := cnt_split lo (lo + (j : Int) * hW lo hi parts - 1) (min hi (lo + (j : Int) * hW lo hi parts + hW lo hi parts - 1)) (by omega) (by omega) B.flatten
          rw [hg, e, hsp]
          unfold hC
          rw [show min hi (lo + (j : Int) * hW lo hi parts - 1) = lo + (j : Int) * hW lo hi parts - 1 by omega, show lo + (j : Int) * hW lo hi parts - 1 + 1 = lo + (j : Int) * hW lo hi parts by omega]
          rfl) (fun j _ => by have := cnt_le B.flatten lo (min hi (lo + j * hW lo hi parts - 1)); omega) (by omega)
      rw [hlen, show min hi (lo + (hM lo hi parts : Int) * hW lo hi parts - 1) = hi by omega] at hs
      have hse : m_ref01_SameInts FU (histF B.flatten lo hi parts) (histF B.flatten lo hi parts) = some true := by rw [sameInts (by omega) fuL]; simp
      have hne : ¬ ((histF B.flatten lo hi parts).length : Int) = 0 := by rw [hlen]; unfold hM; omega
      rw [hs, Option.bind_some, e2, Option.bind_some, hist_ref (by omega) fuL, Option.bind_some, hse, Option.bind_some, decide_eq_false hne, if_pos (by rfl), count_prog (by omega) (by omega) fuL, Option.bind_some]
      rw [decide_eq_true (show ((histF B.flatten lo hi parts).length : Int) ≤ parts by omega)]
      simp [cnt]
    · have hv : histF B.flatten lo hi parts = [] := by unfold histF; rw [if_neg ho]
      have hs := sum_loop (v := []) (fun _ => 0) rfl (fun j hj => by simp at hj) (fun _ _ => by omega) (by simp)
      have hse : m_ref01_SameInts FU [] [] = some true := by rw [sameInts (by simp) fuL]; simp
      rw [hv, hs, Option.bind_some, e2, Option.bind_some, hist_ref (by omega) fuL, hv, Option.bind_some, hse]
      rfl
  · rw [decide_eq_false (by omega)]; rfl
end Go.Proofs.Ytjinohfopjlgkaa.Ab
