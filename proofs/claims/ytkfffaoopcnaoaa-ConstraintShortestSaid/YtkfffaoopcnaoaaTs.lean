/- The law of shortest paths. Conditions: none. -/
import Derived.Test.YtkfffaoopcnaoaaTr
namespace Go.Proofs.Ytkfffaoopcnaoaa.Ab
open Go
section
variable {n : Nat} {l : List SConstraint} {a b : Int}
theorem ball_to {c : Int} (hbc : Lk l b c) : ∀ {k : Nat} {x : Int}, ball l b k x → ball l c (k + 1) x
  | 0, x, h => .inr ⟨c, by rw [show x = b from h]; exact hbc, rfl⟩
  | k + 1, x, h => by
    rcases h with h | ⟨y, h1, h2⟩
    · exact .inl (ball_to hbc h)
    · exact .inr ⟨y, h1, ball_to hbc h2⟩
theorem way_nth : ∀ {k : Nat} {x : Int} {p : List Int}, D_ l b x k → Way l b k x p → (∀ i (h : i < (x :: p).length), D_ l b (x :: p)[i] (k - i) ∧ i ≤ k) ∧ (∀ i (h : i + 1 < (x :: p).length), Lk l (x :: p)[i] (x :: p)[i + 1])
  | 0, x, _, hd, .nil => ⟨fun i h => by
      have : i = 0 := by simpa using h
      subst this; exact ⟨hd, Nat.le_refl _⟩, fun i h => by simp at h⟩
  | k + 1, x, _, hd, .cons (y := y) (p := p) hn hp => by
    obtain ⟨h1, h2⟩ := way_nth hn.2.1 hp
    refine ⟨fun i h => ?_, fun i h => ?_⟩
    · cases i with
      | zero => exact ⟨hd, by omega⟩
      | succ i =>
        obtain ⟨q1, q2⟩ := h1 i (by simpa using h)
        refine ⟨?_, by omega⟩
        rw [show k + 1 - (i + 1) = k - i by omega]
        exact q1
    · cases i with
      | zero => exact hn.1
      | succ i => exact h2 i (by simpa using h)
structure Good (l : List SConstraint) (a b : Int) (w : List Int) (k : Nat) : Prop where
  len : w.length = k + 1
  d : ∀ i (h : i < w.length), D_ l b w[i] (k - i)
  lk : ∀ i (h : i + 1 < w.length), Lk l w[i] w[i + 1]
  fst : ∃ t, w = a :: t
theorem pth_good {k : Nat} (hd : D_ l b a k) : Good l a b (pth l a b) k := by
  obtain ⟨p, hw⟩ := way_ex hd
  have hl := way_len hw
  obtain ⟨h1, h2⟩ := way_nth hd hw
  rw [pth_eq hd hw]
  exact ⟨by simp [hl], fun i h => (h1 i h).1, h2, p, rfl⟩
theorem Good.first {w : List Int} {k : Nat} (h : Good l a b w k) : ix w 0 = some a := by
  obtain ⟨t, rfl⟩ := h.fst; rfl
theorem Good.last {w : List Int} {k : Nat} (h : Good l a b w k) (hk : k ≤ 100000) : ix w (IntKind.i64.wrap ((w.length : Int) - 1)) = some b := by
  have hl := h.len
  rw [w64 (by omega) (by omega), show (w.length : Int) - 1 = (k : Int) by omega, ixL (show k < w.length by omega)]
  have := h.d k (by omega)
  rw [Nat.sub_self] at this
  rw [d_zero.1 this]
theorem Good.nodup {w : List Int} {k : Nat} (h : Good l a b w k) {i : Nat} (hi : i < w.length) : w[i] ∉ w.take i := fun hm => by
  obtain ⟨j, hj, he⟩ := List.getElem_of_mem hm
  rw [List.length_take] at hj
  rw [List.getElem_take] at he
  have h1 := h.d i hi
  have h2 := h.d j (by omega)
  rw [he] at h2
  have := d_unique h1 h2
  have := h.len
  omega
/-- Where a walk is after some steps. -/
theorem walk_ok {w : List Int} (hl : l.length ≤ 14) (hw : w.length ≤ 12) (hu : ∀ y ∈ w, 0 ≤ y ∧ y < 256) (hn : 1000000 < n) : ∃ c j, j ≤ w.length ∧ iter n (fun s => m_law32_ConstraintShortest_L1 n l w s.1 s.2) (a, (0 : Int)) = some c ∧ ball l c j a := by
  have key : ∀ (m i fuel : Nat) (x : Int) (j : Nat), i + m = w.length → m < fuel → j ≤ i → ball l x j a → ∃ c j, j ≤ w.length ∧ iter fuel (fun s => m_law32_ConstraintShortest_L1 n l w s.1 s.2) (x, (i : Int)) = some c ∧ ball l c j a := by
    intro m
    induction m with
    | zero =>
      intro i fuel x j hi hf hj hb
      obtain ⟨f, rfl⟩ : ∃ f, fuel = f + 1 := ⟨fuel - 1, by omega⟩
      obtain rfl : i = w.length := by omega
      exact ⟨x, j, hj, by rw [iter]; simp [m_law32_ConstraintShortest_L1], hb⟩
    | succ m ih =>
      intro i fuel x j hi hf hj hb
      obtain ⟨f, rfl⟩ : ∃ f, fuel = f + 1 := ⟨fuel - 1, by omega⟩
      have hil : i < w.length := by omega
      have hy := hu _ (List.getElem_mem hil)
      by_cases h0 : l.length = 0
      · refine ⟨x, j, by omega, ?_, hb⟩
        rw [iter]
        have hst : m_law32_ConstraintShortest_L1 n l w x (i : Int) = some (.inr x) := by
          simp only [m_law32_ConstraintShortest_L1]
          rw [if_pos (decide_eq_true (by omega)), ixL hil, Option.bind_some, if_pos (by simp [h0])]
          rfl
        dsimp only
        rw [hst]
        rfl
      · have hr : ∃ q, q < l.length ∧ rem (IntKind.i64.wrap w[i]) (l.length : Int) = some (q : Int) := by
          refine ⟨(w[i] % (l.length : Int)).toNat, ?_, ?_⟩
          · have h1 := Int.emod_nonneg w[i] (b := (l.length : Int)) (by omega)
            have h2 := Int.emod_lt_of_pos w[i] (b := (l.length : Int)) (by omega)
            omega
          · rw [w64 (by omega) (by omega)]
            unfold rem
            rw [if_neg (by omega), Int.tmod_eq_emod_of_nonneg hy.1, Int.toNat_of_nonneg (Int.emod_nonneg _ (by omega))]
        obtain ⟨q, hq, hq2⟩ := hr
        have hst : ∃ y j', j' ≤ i + 1 ∧ m_law32_ConstraintShortest_L1 n l w x (i : Int) = some (.inl (y, ((i + 1 : Nat) : Int))) ∧ ball l y j' a := by
          simp only [m_law32_ConstraintShortest_L1]
          rw [if_pos (decide_eq_true (by omega)), ixL hil, Option.bind_some, if_neg (by rw [decide_eq_true_eq]; omega), hq2, Option.bind_some, ixL hq, Option.bind_some, wadd1 hil (by simp only [ML]; omega)]
          have hm : l[q] ∈ l := List.getElem_mem hq
          generalize l[q] = c at *
          by_cases h1 : c.fKind = 1 ∧ c.fA = x
          · rw [if_pos (by simp [h1])]
            exact ⟨c.fB, j + 1, by omega, rfl, ball_to ⟨c, hm, h1.1, .inl ⟨h1.2, rfl⟩⟩ hb⟩
          · rw [if_neg (by simpa using h1)]
            by_cases h2 : c.fKind = 1 ∧ c.fB = x
            · rw [if_pos (by simp [h2])]
              exact ⟨c.fA, j + 1, by omega, rfl, ball_to ⟨c, hm, h2.1, .inr ⟨rfl, h2.2⟩⟩ hb⟩
            · rw [if_neg (by simpa using h2)]
              exact ⟨x, j, by omega, rfl, hb⟩
        obtain ⟨y, j', h1, h2, h3⟩ := hst
        rw [iter]
        dsimp only
        rw [h2]
        exact ih (i + 1) f y j' (by omega) (by omega) h1 h3
  exact key w.length 0 n a 0 (by omega) (by omega) (by omega) rfl
theorem short_l2 {w : List Int} {k : Nat} {e : Int} (hl : l.length ≤ 14) (hn : 1000000 < n) (hw : Good l a b w k) (hk : k ≤ 1000) : iter n (fun s => m_law32_ConstraintShortest_L2 n l (w, e) s) 0 = some (.inr ()) := by
  have hlen := hw.len
  refine iter_to (f := fun s => m_law32_ConstraintShortest_L2 n l (w, e) s) (fun j => (j : Int)) w.length n _ (fun j hj => ?_) (by simp [m_law32_ConstraintShortest_L2]) (by omega) rfl
  have hslc : slc w 0 (j : Int) = some (w.take j) := by unfold slc; rw [if_pos (by omega)]; simp
  have hnd := hw.nodup hj
  simp only [m_law32_ConstraintShortest_L2]
  rw [if_pos (decide_eq_true (by omega)), hslc, ixL hj, wadd1 hj (by simp only [ML]; omega)]
  cases j with
  | zero =>
    simp only [Int.natCast_zero, Int.lt_irrefl, decide_false, Bool.false_eq_true, if_false, Option.bind_some, Bool.false_and, Bool.not_false, if_true, Bool.false_or]
    rw [has_eq (by simp) hn, Option.bind_some, decide_eq_false hnd]
    rfl
  | succ j =>
    obtain ⟨r, e1, e2⟩ := linked_eq (n := n) (l := l) (by omega) hn w[j] w[j + 1]
    have hr : r = true := e2.2 (hw.lk j hj)
    subst hr
    rw [decide_eq_true (show (0 : Int) < ((j + 1 : Nat) : Int) by omega)]
    simp only [if_true, Bool.true_and]
    rw [w64 (by omega) (by omega), show (((j + 1 : Nat) : Int) - 1) = (j : Int) by omega, ixL (by omega), Option.bind_some, Option.bind_some, e1, Option.bind_some]
    simp only [Bool.not_true, Bool.not_false, if_true, Option.bind_some, Bool.false_or]
    rw [has_eq (by rw [List.length_take]; omega) hn, Option.bind_some, decide_eq_false hnd]
    rfl
theorem short_all {w : List Int} (hu : ∀ y ∈ w, 0 ≤ y ∧ y < 256) (hn : 1000000 < n) (haw : m_law32_awake n = some true) : m_law32_ConstraintShortest n l a w = some true := by
  unfold m_law32_ConstraintShortest
  rw [haw, Option.bind_some]
  by_cases hl : (14 : Int) < (l.length : Int)
  · rw [decide_eq_true hl]; rfl
  rw [decide_eq_false hl, if_pos (by decide), refvalid_eq (by omega) hn, Option.bind_some]
  cases hv : validB l with
  | false => rfl
  | true =>
    by_cases hw : (12 : Int) < (w.length : Int)
    · rw [decide_eq_true hw]; rfl
    rw [decide_eq_false hw, if_neg (by decide)]
    obtain ⟨c, j, hj, e1, hb⟩ := walk_ok (n := n) (l := l) (a := a) (by omega) (by omega) hu hn
    obtain ⟨k, hk, hd⟩ := d_of_ball hb
    have hr := d_root hd
    have hg := pth_good hd
    have hlen := hg.len
    rw [e1, Option.bind_some, Option.bind_some, Path_eq hn, hv, if_pos rfl, if_pos hr, Option.bind_some]
    have hc1 : decide (((pth l a c).length : Int) < 1) = false := decide_eq_false (by omega)
    have hc2 : decide (IntKind.i64.wrap ((w.length : Int) + 1) < ((pth l a c).length : Int)) = false := decide_eq_false (by rw [w64 (by omega) (by omega)]; omega)
    dsimp only
    rw [hg.first, hg.last (by omega), hc1, hc2]
    simp only [decide_true, Bool.not_true, Bool.or_self, Bool.not_false, if_true, Option.bind_some, Bool.false_eq_true, if_false]
    rw [short_l2 (by omega) hn hg (by omega), Option.bind_some]
    simp only []
    rw [conflicts_eq hv hn, Option.bind_some]
    obtain ⟨_, hvm⟩ := valid_mem hv
    have n1 := norm_len l
    have c1 := cons_len (l := l) (norm l)
    have q3 : iter n (fun s => m_law32_ConstraintShortest_L3 n l (cons l (norm l), 0) s) 0 = some (.inr ()) := by
      refine iter_to (f := fun s => m_law32_ConstraintShortest_L3 n l (cons l (norm l), 0) s) (fun j => (j : Int)) (cons l (norm l)).length n _ (fun j hj => ?_) (by simp [m_law32_ConstraintShortest_L3]) (by omega) rfl
      have hu := List.getElem_mem hj
      simp only [m_law32_ConstraintShortest_L3]
      rw [if_pos (decide_eq_true (by omega)), ixL hj, Option.bind_some, wadd1 hj (by simp only [ML]; omega)]
      generalize (cons l (norm l))[j] = u at *
      unfold cons at hu
      obtain ⟨x, hx, rfl⟩ := List.mem_map.1 hu
      obtain ⟨h1, h2⟩ := List.mem_filter.1 hx
      simp only [isCon, Bool.and_eq_true, decide_eq_true_eq] at h2
      obtain ⟨z, hz, rfl⟩ := norm_mem.1 h1
      have hzv := hvm z hz
      have hlt : (swp z).fA < (swp z).fB := by simp only [swp]; omega
      obtain ⟨k2, hd2⟩ := d_ex h2.2
      have hk2 : k2 ≠ 0 := fun h0 => by rw [h0] at hd2; have := d_zero.1 hd2; omega
      have hdl2 := d_len hd2
      have hg2 := pth_good hd2
      have hlen2 := hg2.len
      have hp : (conOf l (swp z)).fPath = pth l (swp z).fA (swp z).fB := rfl
      have hpa : (conOf l (swp z)).fPair.fA = (swp z).fA := rfl
      have hpb : (conOf l (swp z)).fPair.fB = (swp z).fB := rfl
      have hL4 : iter n (fun s => m_law32_ConstraintShortest_L4 n l (conOf l (swp z)) s.1 s.2) (false, (0 : Int)) = some true := by
        let P : SConstraint → Bool := fun y => (decide (y.fKind = 2)) && (((decide (y.fA = (swp z).fA)) && (decide (y.fB = (swp z).fB))) || ((decide (y.fA = (swp z).fB)) && (decide (y.fB = (swp z).fA))))
        have hany : l.any P = true := List.any_eq_true.2 ⟨z, hz, by
          simp only [P, Bool.and_eq_true, Bool.or_eq_true, decide_eq_true_eq]
          refine ⟨h2.1, ?_⟩
          rw [show (swp z).fA = min z.fA z.fB from rfl, show (swp z).fB = max z.fA z.fB from rfl]
          omega⟩
        rw [← hany]
        refine iter_to (f := fun s => m_law32_ConstraintShortest_L4 n l (conOf l (swp z)) s.1 s.2) (fun j => ((l.take j).any P, (j : Int))) l.length n _ (fun i hi => ?_) (by simp [m_law32_ConstraintShortest_L4]) (by omega) rfl
        simp only [m_law32_ConstraintShortest_L4]
        rw [if_pos (decide_eq_true (by omega)), ixL hi, Option.bind_some, wadd1 hi (by simp only [ML]; omega), take_snoc hi, List.any_append]
        simp [P, hpa, hpb]
      rw [hL4, hp, hpa, hpb, hg2.first, hg2.last (by omega), decide_eq_false (show ¬ ((pth l (swp z).fA (swp z).fB).length : Int) < 2 by omega), decide_eq_false (show ¬ (swp z).fB ≤ (swp z).fA by omega)]
      simp
    rw [q3]
    rfl
end
theorem u8_ok {x : Int} (h : (Lit.int .u8 x).wf = true) : 0 ≤ x ∧ x < 256 := by
  simp [Lit.wf, IntKind.min, IntKind.max, IntKind.signed, IntKind.bits] at h; omega
theorem plain_ConstraintShortest {l : List SConstraint} {a : Int} {w : List Int} (hu : ∀ y ∈ w, 0 ≤ y ∧ y < 256) : m_law32_ConstraintShortest FU l a w = some true := short_all hu fu_big awake32
end Go.Proofs.Ytkfffaoopcnaoaa.Ab
