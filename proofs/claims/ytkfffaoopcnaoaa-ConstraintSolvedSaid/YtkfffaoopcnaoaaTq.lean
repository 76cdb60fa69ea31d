/- Plain laws, joined. Conditions: none. -/
import Derived.Test.YtkfffaoopcnaoaaTi
namespace Go.Proofs.Ytkfffaoopcnaoaa.Ab
section
/- Distances between records. Conditions: none. -/
open Go
def Lk (l : List SConstraint) (x y : Int) : Prop := ∃ c ∈ l, c.fKind = 1 ∧ (c.fA = x ∧ c.fB = y ∨ c.fA = y ∧ c.fB = x)
theorem Lk.symm {l : List SConstraint} {x y : Int} (h : Lk l x y) : Lk l y x := by
  obtain ⟨c, h1, h2, h3⟩ := h
  exact ⟨c, h1, h2, h3.symm⟩
theorem Lk.root {l : List SConstraint} {x y : Int} (h : Lk l x y) : root l x = root l y := by
  obtain ⟨c, h1, h2, h3⟩ := h
  have := root_edge c h1 h2
  rcases h3 with ⟨rfl, rfl⟩ | ⟨rfl, rfl⟩
  · exact this
  · exact this.symm
theorem closed_of_lk {l : List SConstraint} {S : Int → Prop} (h : ∀ x y, Lk l x y → S x → S y) : Closed l S := fun c hc hk =>
  ⟨h _ _ ⟨c, hc, hk, .inl ⟨rfl, rfl⟩⟩, h _ _ ⟨c, hc, hk, .inr ⟨rfl, rfl⟩⟩⟩
def ball (l : List SConstraint) (b : Int) : Nat → Int → Prop
  | 0, x => x = b
  | k + 1, x => ball l b k x ∨ ∃ y, Lk l x y ∧ ball l b k y
theorem ball_mono {l : List SConstraint} {b x : Int} {j k : Nat} (h : j ≤ k) (hb : ball l b j x) : ball l b k x := by
  induction k with
  | zero => obtain rfl : j = 0 := by omega
            exact hb
  | succ k ih =>
    rcases Nat.lt_or_ge j (k + 1) with hj | hj
    · exact .inl (ih (by omega))
    · obtain rfl : j = k + 1 := by omega
      exact hb
theorem ball_root {l : List SConstraint} {b : Int} : ∀ {k : Nat} {x : Int}, ball l b k x → root l x = root l b
  | 0, x, h => by rw [show x = b from h]
  | k + 1, x, h => by
    rcases h with h | ⟨y, h1, h2⟩
    · exact ball_root h
    · rw [h1.root]; exact ball_root h2
/-- The distance to b. -/
def D_ (l : List SConstraint) (b x : Int) (k : Nat) : Prop := ball l b k x ∧ ∀ j, j < k → ¬ ball l b j x
theorem d_unique {l : List SConstraint} {b x : Int} {j k : Nat} (h1 : D_ l b x j) (h2 : D_ l b x k) : j = k := by
  rcases Nat.lt_trichotomy j k with h | h | h
  · exact absurd h1.1 (h2.2 j h)
  · exact h
  · exact absurd h2.1 (h1.2 k h)
theorem d_of_ball {l : List SConstraint} {b x : Int} : ∀ {k : Nat}, ball l b k x → ∃ j, j ≤ k ∧ D_ l b x j
  | 0, h => ⟨0, Nat.le_refl _, h, fun j hj => by omega⟩
  | k + 1, h => by
    by_cases hk : ball l b k x
    · obtain ⟨j, h1, h2⟩ := d_of_ball hk
      exact ⟨j, by omega, h2⟩
    · exact ⟨k + 1, Nat.le_refl _, h, fun j hj hb => hk (ball_mono (by omega) hb)⟩
theorem d_ex {l : List SConstraint} {b x : Int} (h : root l x = root l b) : ∃ k, D_ l b x k := by
  have hc : Closed l fun x => ∃ k, ball l b k x := closed_of_lk fun x y hxy ⟨k, hk⟩ => ⟨k + 1, .inr ⟨x, hxy.symm, hk⟩⟩
  obtain ⟨k, hk⟩ := (root_closed hc h).2 ⟨0, rfl⟩
  obtain ⟨j, _, hj⟩ := d_of_ball hk
  exact ⟨j, hj⟩
theorem d_zero {l : List SConstraint} {b x : Int} : D_ l b x 0 ↔ x = b := ⟨fun h => h.1, fun h => ⟨h, fun j hj => by omega⟩⟩
theorem d_next {l : List SConstraint} {b x : Int} {k : Nat} (h : D_ l b x (k + 1)) : ∃ y, Lk l x y ∧ D_ l b y k := by
  rcases h.1 with h1 | ⟨y, h1, h2⟩
  · exact absurd h1 (h.2 k (by omega))
  · obtain ⟨j, h3, h4⟩ := d_of_ball h2
    refine ⟨y, h1, ?_⟩
    rcases Nat.lt_or_ge j k with hj | hj
    · exact absurd (show ball l b (j + 1) x from .inr ⟨y, h1, h4.1⟩) (h.2 (j + 1) (by omega))
    · obtain rfl : j = k := by omega
      exact h4
theorem d_step {l : List SConstraint} {b x y : Int} {k : Nat} (h : D_ l b x k) (hxy : Lk l x y) : ∃ j, j ≤ k + 1 ∧ D_ l b y j :=
  d_of_ball (k := k + 1) (.inr ⟨x, hxy.symm, h.1⟩)
theorem d_root {l : List SConstraint} {b x : Int} {k : Nat} (h : D_ l b x k) : root l x = root l b := ball_root h.1
/-- A list without repetition within an ordered one is not longer. -/
theorem nodup_len {s t : List Int} (h : s.Nodup) (ht : AscI t) (hs : ∀ y ∈ s, y ∈ t) : s.length ≤ t.length := by
  have hp := isort_perm intLt s
  have h1 : AscI (isort intLt s) := by
    have h2 := isort_sorted intLt_swo s
    have h3 : (isort intLt s).Pairwise (· ≠ ·) := hp.nodup_iff.2 h
    exact (h2.and h3).imp fun {a b} ⟨q1, q2⟩ => by simp [intLt] at q1; omega
  rw [← hp.length_eq]
  exact ascI_sub_len h1 ht fun y hy => hs y (hp.mem_iff.1 hy)
theorem d_chain {l : List SConstraint} {b : Int} : ∀ {k : Nat} {x : Int}, D_ l b x k → ∃ w : List Int, w.length = k + 1 ∧ w.Nodup ∧ ∀ y ∈ w, ∃ j, j ≤ k ∧ D_ l b y j
  | 0, x, h => ⟨[x], rfl, by simp, fun y hy => ⟨0, Nat.le_refl _, by rw [List.mem_singleton.1 hy]; exact h⟩⟩
  | k + 1, x, h => by
    obtain ⟨y, _, h2⟩ := d_next h
    obtain ⟨w, e1, e2, e3⟩ := d_chain h2
    refine ⟨x :: w, by simp [e1], List.nodup_cons.2 ⟨fun hx => ?_, e2⟩, fun z hz => ?_⟩
    · obtain ⟨j, h3, h4⟩ := e3 x hx
      have := d_unique h h4; omega
    · rcases List.mem_cons.1 hz with rfl | hz
      · exact ⟨k + 1, Nat.le_refl _, h⟩
      · obtain ⟨j, h3, h4⟩ := e3 z hz; exact ⟨j, by omega, h4⟩
theorem d_bound {l : List SConstraint} {b x : Int} {k : Nat} (h : D_ l b x k) : k + 1 ≤ (grp l b).length := by
  obtain ⟨w, e1, e2, e3⟩ := d_chain h
  rw [← e1]
  refine nodup_len e2 (grp_asc l b) fun y hy => ?_
  obtain ⟨j, _, h2⟩ := e3 y hy
  exact grp_mem.2 (d_root h2)
theorem d_len {l : List SConstraint} {b x : Int} {k : Nat} (h : D_ l b x k) : k ≤ 2 * l.length := by
  have := d_bound h
  have := grp_len l b
  omega
/-- The next record on the way: the smallest of those that are one nearer. -/
def Nx (l : List SConstraint) (b : Int) (k : Nat) (x y : Int) : Prop := Lk l x y ∧ D_ l b y k ∧ ∀ z, Lk l x z → D_ l b z k → y ≤ z
theorem nx_unique {l : List SConstraint} {b : Int} {k : Nat} {x y z : Int} (h1 : Nx l b k x y) (h2 : Nx l b k x z) : y = z := by
  have := h1.2.2 z h2.1 h2.2.1
  have := h2.2.2 y h1.1 h1.2.1
  omega
/-- A way: after x, with k steps to go. -/
inductive Way (l : List SConstraint) (b : Int) : Nat → Int → List Int → Prop
  | nil {x : Int} : Way l b 0 x []
  | cons {k : Nat} {x y : Int} {p : List Int} (h : Nx l b k x y) (hp : Way l b k y p) : Way l b (k + 1) x (y :: p)
theorem way_unique {l : List SConstraint} {b : Int} : ∀ {k : Nat} {x : Int} {p q : List Int}, Way l b k x p → Way l b k x q → p = q
  | _, _, _, _, .nil, .nil => rfl
  | _, _, _, _, .cons h1 p1, .cons h2 p2 => by
    have := nx_unique h1 h2
    subst this
    rw [way_unique p1 p2]
theorem nx_ex {l : List SConstraint} {b x : Int} {k : Nat} {r : List Int} (hr : r.Pairwise (· ≤ ·)) (hm : ∀ y, y ∈ r ↔ Lk l x y) (h : D_ l b x (k + 1)) :
    ∃ i, ∃ h : i < r.length, Nx l b k x r[i] ∧ ∀ j, (hj : j < i) → ¬ D_ l b (r[j]'(by omega)) k := by
  obtain ⟨y, h1, h2⟩ := d_next h
  obtain ⟨i0, hi0, rfl⟩ := List.getElem_of_mem ((hm y).2 h1)
  have key : ∀ m, m ≤ i0 → (∀ j, j < m → ∀ hj : j < r.length, ¬ D_ l b r[j] k) → ∃ i, ∃ h : i < r.length, D_ l b r[i] k ∧ ∀ j, (hj : j < i) → ¬ D_ l b (r[j]'(by omega)) k := by
    intro m
    have : ∀ d m, m + d = i0 → (∀ j, j < m → ∀ hj : j < r.length, ¬ D_ l b r[j] k) → ∃ i, ∃ h : i < r.length, D_ l b r[i] k ∧ ∀ j, (hj : j < i) → ¬ D_ l b (r[j]'(by omega)) k := by
      intro d
      induction d with
      | zero =>
        intro m hm0 hno
        obtain rfl : m = i0 := by omega
        exact ⟨m, hi0, h2, fun j hj => hno j hj (by omega)⟩
      | succ d ih =>
        intro m hm0 hno
        by_cases hd : D_ l b (r[m]'(by omega)) k
        · exact ⟨m, by omega, hd, fun j hj => hno j hj (by omega)⟩
        · refine ih (m + 1) (by omega) fun j hj hjr => ?_
          by_cases e : j = m
          · subst e; exact hd
          · exact hno j (by omega) hjr
    exact fun h1 h2 => this (i0 - m) m (by omega) h2
  obtain ⟨i, hi, h3, h4⟩ := key 0 (by omega) (fun j hj => by omega)
  refine ⟨i, hi, ⟨(hm _).1 (List.getElem_mem hi), h3, fun z hz hdz => ?_⟩, h4⟩
  obtain ⟨j, hj, rfl⟩ := List.getElem_of_mem ((hm z).2 hz)
  rcases Nat.lt_trichotomy i j with q | q | q
  · exact List.pairwise_iff_getElem.1 hr i j hi hj q
  · subst q; exact Int.le_refl _
  · exact absurd hdz (h4 j q)
end
section
/- Neighbours. Conditions: none. -/
open Go
theorem mget_touch {m : List (Int × List Int)} (k k' : Int) : (mget (mtouch m k) k').getD [] = (mget m k').getD [] := by
  unfold mtouch
  cases hf : mfind m k with
  | some j => rfl
  | none =>
    simp only [Option.isSome_none, Bool.false_eq_true, if_false]
    have hk : mget m k = none := by simp [mget, hf]
    have : ∀ m : List (Int × List Int), mget (m ++ [(k, [])]) k' = (mget m k').orElse fun _ => if k' = k then some [] else none := by
      intro m
      induction m with
      | nil => simp [mget_cons, mget_nil]
      | cons x m ih =>
        rw [List.cons_append, mget_cons, mget_cons, ih]
        split <;> rfl
    rw [this]
    cases hk' : mget m k' with
    | some v => rfl
    | none => by_cases e : k' = k <;> simp [e]
theorem rowsM_mget {h : List Int → Option (List Int)} {g : List Int → List Int} : ∀ {l : List (Int × List Int)}, (∀ q ∈ l, h q.2 = some (g q.2)) → ∃ t, rowsM h l = some t ∧ ∀ k, mget t k = (mget l k).map g
  | [], _ => ⟨[], rfl, fun k => rfl⟩
  | q :: l, hq => by
    obtain ⟨t, h1, h2⟩ := rowsM_mget (l := l) (fun x hx => hq x (List.mem_cons_of_mem _ hx))
    refine ⟨(q.1, g q.2) :: t, ?_, fun k => ?_⟩
    · rw [rowsM, hq q List.mem_cons_self, Option.bind_some, h1]; rfl
    · rw [mget_cons, mget_cons, h2]
      dsimp only
      split <;> rfl
structure NbI (l : List SConstraint) (s : List (Int × List Int)) : Prop where
  mem : ∀ x y, y ∈ (mget s x).getD [] ↔ Lk l x y
  len : ∀ q ∈ s, q.2.length ≤ 2 * l.length
theorem row_len {l : List SConstraint} {s : List (Int × List Int)} (h : NbI l s) (x : Int) : ((mget s x).getD []).length ≤ 2 * l.length := by
  cases hg : mget s x with
  | none => simp
  | some v => exact h.len _ (mget_mem hg)
theorem mput_mem {κ ν : Type} [DecidableEq κ] {m : List (κ × ν)} {k : κ} {v : ν} {q : κ × ν} (h : q ∈ mput m k v) : q ∈ m ∨ q = (k, v) := by
  unfold mput at h
  split at h
  · exact List.mem_or_eq_of_mem_set h
  · rcases List.mem_append.1 h with h | h
    · exact .inl h
    · exact .inr (by simpa using h)
theorem mtouch_mem {m : List (Int × List Int)} {k : Int} {q : Int × List Int} (h : q ∈ mtouch m k) : q ∈ m ∨ q = (k, []) := by
  unfold mtouch at h
  split at h
  · exact .inl h
  · rcases List.mem_append.1 h with h | h
    · exact .inl h
    · exact .inr (by simpa using h)
theorem lk_snoc {l : List SConstraint} {c : SConstraint} {x y : Int} : Lk (l ++ [c]) x y ↔ Lk l x y ∨ (c.fKind = 1 ∧ (c.fA = x ∧ c.fB = y ∨ c.fA = y ∧ c.fB = x)) := by
  constructor
  · rintro ⟨d, h1, h2, h3⟩
    rcases List.mem_append.1 h1 with h1 | h1
    · exact .inl ⟨d, h1, h2, h3⟩
    · obtain rfl : d = c := by simpa using h1
      exact .inr ⟨h2, h3⟩
  · rintro (⟨d, h1, h2, h3⟩ | ⟨h2, h3⟩)
    · exact ⟨d, List.mem_append_left _ h1, h2, h3⟩
    · exact ⟨c, by simp, h2, h3⟩
theorem nb_step {n : Nat} {l : List SConstraint} {j : Nat} {s : List (Int × List Int)} (hv : validB l = true) (hj : j < l.length) (h : NbI (l.take j) s) :
    ∃ s', m_constraint_neighbours_L1 n l (j : Int) s = some (.inl (((j + 1 : Nat) : Int), s')) ∧ NbI (l.take (j + 1)) s' := by
  obtain ⟨hl, hm⟩ := valid_mem hv
  have hc := hm _ (List.getElem_mem hj)
  have hlt : (l.take j).length = j := by rw [List.length_take]; omega
  have hlt1 : (l.take (j + 1)).length = j + 1 := by rw [List.length_take]; omega
  have hrl := fun x => row_len h x
  have hsn : l.take (j + 1) = l.take j ++ [l[j]] := take_snoc hj
  simp only [m_constraint_neighbours_L1]
  rw [if_pos (decide_eq_true (by omega)), ixL hj, Option.bind_some, wadd1 hj (by simp only [ML]; omega)]
  generalize l[j] = c at *
  by_cases hk : c.fKind = 1
  · rw [if_pos (decide_eq_true hk), show neK c.fA c.fB = some () by unfold neK; rw [if_neg hc.2.2.2.2.2], Option.bind_some]
    have h1 := hrl c.fA
    have h2 := hrl c.fB
    rw [hlt] at h1 h2
    rw [app_eq (by simp; omega) (by simp; omega), Option.bind_some, app_eq (by simp; omega) (by simp; omega), Option.bind_some, Option.bind_some]
    refine ⟨_, rfl, fun x y => ?_, fun q hq => ?_⟩
    · rw [mget_mput, mget_mput, hsn, lk_snoc, ← h.mem x y]
      by_cases e1 : x = c.fB
      · subst e1
        rw [if_pos rfl]
        simp only [Option.getD_some, List.mem_append, List.mem_singleton, hk, true_and]
        have hne := hc.2.2.2.2.2
        constructor
        · rintro (h | h)
          · exact .inl h
          · exact .inr (.inr ⟨h.symm, trivial⟩)
        · rintro (h | ⟨h, _⟩ | ⟨h, _⟩)
          · exact .inl h
          · exact absurd h hne
          · exact .inr h.symm
      · rw [if_neg e1]
        by_cases e2 : x = c.fA
        · subst e2
          rw [if_pos rfl]
          simp only [Option.getD_some, List.mem_append, List.mem_singleton, hk, true_and]
          constructor
          · rintro (h | h)
            · exact .inl h
            · exact .inr (.inl h.symm)
          · rintro (h | h | ⟨_, h⟩)
            · exact .inl h
            · exact .inr h.symm
            · exact absurd h.symm e1
        · rw [if_neg e2, mget_touch, mget_touch]
          constructor
          · exact .inl
          · rintro (h | ⟨_, ⟨h, _⟩ | ⟨_, h⟩⟩)
            · exact h
            · exact absurd h.symm e2
            · exact absurd h.symm e1
    · rw [hlt1]
      rcases mput_mem hq with hq | rfl
      · rcases mput_mem hq with hq | rfl
        · rcases mtouch_mem hq with hq | rfl
          · rcases mtouch_mem hq with hq | rfl
            · have := h.len q hq; rw [hlt] at this; omega
            · simp
          · simp
        · simp; omega
      · simp; omega
  · rw [if_neg (by simpa using hk), Option.bind_some]
    refine ⟨_, rfl, fun x y => ?_, fun q hq => ?_⟩
    · rw [hsn, lk_snoc, ← h.mem x y]
      exact ⟨.inl, fun h => h.elim id fun ⟨h, _⟩ => absurd h hk⟩
    · have := h.len q hq; rw [hlt] at this; rw [hlt1]; omega
/-- The rows of neighbours, in order. -/
structure Nb (l : List SConstraint) (s : List (Int × List Int)) : Prop where
  mem : ∀ x y, y ∈ (mget s x).getD [] ↔ Lk l x y
  len : ∀ x, ((mget s x).getD []).length ≤ 2 * l.length
  ord : ∀ x, ((mget s x).getD []).Pairwise (· ≤ ·)
theorem neighbours_eq {n : Nat} {l : List SConstraint} (hv : validB l = true) (hn : 1000000 < n) : ∃ s, m_constraint_neighbours n l = some s ∧ Nb l s := by
  obtain ⟨hl, _⟩ := valid_mem hv
  have key : ∀ (k j fuel : Nat) (s : List (Int × List Int)), j + k = l.length → k < fuel → NbI (l.take j) s → ∃ t, iter fuel (fun s => m_constraint_neighbours_L1 n l s.1 s.2) ((j : Int), s) = some t ∧ NbI l t := by
    intro k
    induction k with
    | zero =>
      intro j fuel s hj hf hI
      obtain ⟨f, rfl⟩ : ∃ f, fuel = f + 1 := ⟨fuel - 1, by omega⟩
      obtain rfl : j = l.length := by omega
      rw [List.take_length] at hI
      refine ⟨s, ?_, hI⟩
      rw [iter]; simp [m_constraint_neighbours_L1]
    | succ k ih =>
      intro j fuel s hj hf hI
      obtain ⟨f, rfl⟩ : ∃ f, fuel = f + 1 := ⟨fuel - 1, by omega⟩
      obtain ⟨s', e, h2⟩ := nb_step (n := n) hv (by omega) hI
      rw [iter]
      dsimp only
      rw [e]
      exact ih (j + 1) f s' (by omega) (by omega) h2
  obtain ⟨t, e, hI⟩ := key l.length 0 n [] (by omega) (by omega) ⟨fun x y => by simp [mget_nil, Lk], fun q hq => by cases hq⟩
  obtain ⟨u, e2, h2⟩ := rowsM_mget (h := fun row => m_constraint_neighbours_L2 n row) (g := isort intLt) (l := t) (fun q hq => by
    have := hI.len q hq
    simp only [m_constraint_neighbours_L2, m_slices_Sort_int_int]
    rw [if_pos (by omega)]; rfl)
  refine ⟨u, ?_, fun x y => ?_, fun x => ?_, fun x => ?_⟩
  · unfold m_constraint_neighbours
    rw [show ((0 : Int), ([] : List (Int × List Int))) = (((0 : Nat) : Int), []) from rfl, e, Option.bind_some, e2]; rfl
  · rw [h2, ← hI.mem x y]
    cases mget t x with
    | none => simp
    | some v => simp [(isort_perm intLt v).mem_iff]
  · have := row_len hI x
    rw [h2]
    cases hg : mget t x with
    | none => simp
    | some v => rw [hg] at this; simpa [isort_len] using this
  · rw [h2]
    cases hg : mget t x with
    | none => simp
    | some v =>
      have := isort_sorted intLt_swo v
      simp only [Option.map_some, Option.getD_some]
      exact this.imp fun {a b} h => by simp [intLt] at h; omega
end
section
/- The search in the program. Conditions: none. -/
open Go
section
variable {n : Nat} {l : List SConstraint} {b : Int} {nb : List (Int × List Int)}
/-- How many of a class are not found yet. -/
def und (l : List SConstraint) (b : Int) (m : List (Int × Int)) : Nat := ((grp l b).filter fun x => (mget m x).isNone).length
theorem und_put {m : List (Int × Int)} {y v : Int} (hy : y ∈ grp l b) (hn : mget m y = none) : und l b (mput m y v) + 1 ≤ und l b m := by
  unfold und
  have e : ((grp l b).filter fun x => (mget (mput m y v) x).isNone) = ((grp l b).filter fun x => (mget m x).isNone).filter fun x => decide (x ≠ y) := by
    rw [List.filter_filter]
    congr 1
    funext x
    rw [mget_mput]
    by_cases h : x = y <;> simp [h]
  rw [e]
  exact List.length_filter_lt_length_iff_exists.2 ⟨y, List.mem_filter.2 ⟨hy, by simp [hn]⟩, by simp⟩
structure Bf (l : List SConstraint) (b : Int) (m : List (Int × Int)) (q q1 q2 : List Int) (d : Nat) (ex : Int → Prop) : Prop where
  val : ∀ x v, mget m x = some v → ∃ k : Nat, D_ l b x k ∧ v = (k : Int)
  q_ : q = q1 ++ q2
  h1 : ∀ x ∈ q1, D_ l b x d
  h2 : ∀ x ∈ q2, D_ l b x (d + 1)
  low : ∀ x k, D_ l b x k → k ≤ d → (mget m x).isSome = true
  done : ∀ x, (mget m x).isSome = true → x ∉ q → ¬ ex x → ∀ y, Lk l x y → (mget m y).isSome = true
theorem Bf.get {m : List (Int × Int)} {q q1 q2 : List Int} {d : Nat} {ex : Int → Prop} (h : Bf l b m q q1 q2 d ex) {x : Int} {k : Nat} (hd : D_ l b x k) (hk : k ≤ d) : mget m x = some (k : Int) := by
  have := h.low x k hd hk
  cases hg : mget m x with
  | none => rw [hg] at this; cases this
  | some v =>
    obtain ⟨j, h1, h2⟩ := h.val x v hg
    rw [h2, d_unique h1 hd]
theorem bfs_inner {cur : Int} {d : Nat} {q1 : List Int} (hv : validB l = true) (hnb : Nb l nb) (hn : 1000000 < n) (hcur : D_ l b cur d) :
    ∀ (k j fuel : Nat) (m : List (Int × Int)) (q q2 : List Int), j + k = ((mget nb cur).getD []).length → k < fuel → Bf l b m q q1 q2 d (fun x => x = cur) → (∀ i, (h : i < ((mget nb cur).getD []).length) → i < j → (mget m ((mget nb cur).getD [])[i]).isSome = true) → und l b m + q.length ≤ 1000 →
    ∃ m' q' q2', iter fuel (fun s => m_constraint_path_L2 n nb cur s.1 s.2.1 s.2.2) ((j : Int), m, q) = some (m', q') ∧ Bf l b m' q' q1 q2' d (fun _ => False) ∧ und l b m' + q'.length ≤ und l b m + q.length := by
  have hrl := hnb.len cur
  have hl := (valid_mem hv).1
  have hdl := d_len hcur
  have hmem := hnb.mem cur
  generalize hrow : (mget nb cur).getD [] = row at *
  intro k
  induction k with
  | zero =>
    intro j fuel m q q2 hj hf hB he hb
    obtain ⟨f, rfl⟩ : ∃ f, fuel = f + 1 := ⟨fuel - 1, by omega⟩
    obtain rfl : j = row.length := by omega
    refine ⟨m, q, q2, ?_, ⟨hB.val, hB.q_, hB.h1, hB.h2, hB.low, fun x hx hq _ y hy => ?_⟩, Nat.le_refl _⟩
    · rw [iter]; simp [m_constraint_path_L2, hrow]
    · by_cases hc : x = cur
      · subst hc
        obtain ⟨i, hi, rfl⟩ := List.getElem_of_mem ((hmem y).2 hy)
        exact he i hi hi
      · exact hB.done x hx hq hc y hy
  | succ k ih =>
    intro j fuel m q q2 hj hf hB he hb
    obtain ⟨f, rfl⟩ : ∃ f, fuel = f + 1 := ⟨fuel - 1, by omega⟩
    have hjl : j < row.length := by omega
    have hlk := (hmem _).1 (List.getElem_mem hjl)
    have hst : m_constraint_path_L2 n nb cur (j : Int) m q = ((if (!(mget m row[j]).isSome) = true then
        (some (mput m row[j] (IntKind.i64.wrap (((mget m cur).getD ((0 : Int) : Int)) + (1 : Int))))).bind fun v15 => (app 8 q ([row[j]] : List Int)).bind fun v16 => some (v15, v16)
      else some (m, q) : Option ((List (Int × Int)) × (List Int))).bind fun t17 => some (.inl (((j + 1 : Nat) : Int), t17.1, t17.2))) := by
      simp only [m_constraint_path_L2, hrow]
      rw [if_pos (decide_eq_true (by omega)), ixL hjl, Option.bind_some, wadd1 hjl (by simp only [ML]; omega)]
    rw [iter]
    dsimp only
    rw [hst]
    clear hst
    cases hg : mget m row[j] with
    | some v =>
      simp only [Option.isSome_some, Bool.not_true, Bool.false_eq_true, if_false, Option.bind_some]
      refine ih (j + 1) f m q q2 (by omega) (by omega) hB (fun i hi hij => ?_) hb
      by_cases e : i = j
      · subst e; rw [hg]; rfl
      · exact he i hi (by omega)
    | none =>
      have hy : D_ l b row[j] (d + 1) := by
        obtain ⟨i, hi, hd⟩ := d_step hcur hlk
        rcases Nat.lt_or_ge d i with h | h
        · obtain rfl : i = d + 1 := by omega
          exact hd
        · have := hB.low _ i hd h
          rw [hg] at this; cases this
      have hu := und_put (v := ((d : Int) + 1)) (grp_mem.2 (d_root hy)) hg
      rw [hB.get hcur (Nat.le_refl _)]
      simp only [Option.isSome_none, Bool.not_false, if_true, Option.bind_some, Option.getD_some]
      rw [w64 (by omega) (by omega), app_one (by omega) (by omega)]
      simp only [Option.bind_some]
      have hkeep : ∀ x, (mget m x).isSome = true → (mget (mput m row[j] ((d : Int) + 1)) x).isSome = true := fun x hx => by
        rw [mget_mput]; split
        · rfl
        · exact hx
      obtain ⟨m', q', q2', e1, e2, e3⟩ := ih (j + 1) f (mput m row[j] ((d : Int) + 1)) (q ++ [row[j]]) (q2 ++ [row[j]]) (by omega) (by omega) {
        val := fun x v hx => by
          rw [mget_mput] at hx
          split at hx
          · rename_i e; injection hx with hx; subst hx; subst e
            exact ⟨d + 1, hy, by omega⟩
          · exact hB.val x v hx
        q_ := by rw [hB.q_, List.append_assoc]
        h1 := hB.h1
        h2 := fun x hx => by
          rcases List.mem_append.1 hx with hx | hx
          · exact hB.h2 x hx
          · rw [List.mem_singleton.1 hx]; exact hy
        low := fun x k hd hk => hkeep x (hB.low x k hd hk)
        done := fun x hx hq hc y hxy => by
          simp only [List.mem_append, List.mem_singleton, not_or] at hq
          rw [mget_mput, if_neg hq.2] at hx
          exact hkeep y (hB.done x hx hq.1 hc y hxy) } (fun i hi hij => by
        by_cases e : i = j
        · subst e; rw [mget_mput, if_pos rfl]; rfl
        · exact hkeep _ (he i hi (by omega))) (by simp only [List.length_append, List.length_cons, List.length_nil]; omega)
      refine ⟨m', q', q2', e1, e2, ?_⟩
      simp only [List.length_append, List.length_cons, List.length_nil] at e3
      omega
structure FarOK (l : List SConstraint) (b : Int) (m : List (Int × Int)) : Prop where
  get : ∀ x k, D_ l b x k → mget m x = some (k : Int)
theorem bfs_end {m : List (Int × Int)} {q1 q2 : List Int} {d f : Nat} (hB : Bf l b m [] q1 q2 d (fun _ => False)) : iter (f + 1) (fun s => m_constraint_path_L1 n nb s.1 s.2) (m, ([] : List Int)) = some (m, []) ∧ FarOK l b m := by
  refine ⟨by rw [iter]; simp [m_constraint_path_L1], ⟨fun x k hd => ?_⟩⟩
  have hc : Closed l fun x => (mget m x).isSome = true := closed_of_lk fun x y hxy hx => hB.done x hx (by simp) (fun h => h) y hxy
  have := (root_closed hc (d_root hd)).2 (hB.low b 0 (d_zero.2 rfl) (by omega))
  cases hg : mget m x with
  | none => rw [hg] at this; cases this
  | some v =>
    obtain ⟨j, h1, h2⟩ := hB.val x v hg
    rw [h2, d_unique h1 hd]
theorem bfs_all (hv : validB l = true) (hnb : Nb l nb) (hn : 1000000 < n) : ∀ (k fuel : Nat) (m : List (Int × Int)) (q q1 q2 : List Int) (d : Nat), und l b m + q.length ≤ k → k ≤ 1000 → k < fuel → Bf l b m q q1 q2 d (fun _ => False) →
    ∃ m' q', iter fuel (fun s => m_constraint_path_L1 n nb s.1 s.2) (m, q) = some (m', q') ∧ FarOK l b m' := by
  intro k
  induction k with
  | zero =>
    intro fuel m q q1 q2 d hk _ hf hB
    obtain ⟨f, rfl⟩ : ∃ f, fuel = f + 1 := ⟨fuel - 1, by omega⟩
    obtain rfl : q = [] := List.eq_nil_of_length_eq_zero (by omega)
    exact ⟨m, [], bfs_end hB⟩
  | succ k ih =>
    intro fuel m q q1 q2 d hk hk2 hf hB
    obtain ⟨f, rfl⟩ : ∃ f, fuel = f + 1 := ⟨fuel - 1, by omega⟩
    cases q with
    | nil => exact ⟨m, [], bfs_end hB⟩
    | cons c rest =>
      -- the first of the list, with its distance
      obtain ⟨d', p1, p2, hd', hB'⟩ : ∃ (d' : Nat) (p1 p2 : List Int), D_ l b c d' ∧ Bf l b m rest p1 p2 d' (fun x => x = c) := by
        cases q1 with
        | cons c' q1' =>
          have hq := hB.q_
          rw [List.cons_append] at hq
          injection hq with e1 e2
          subst e1
          exact ⟨d, q1', q2, hB.h1 c List.mem_cons_self, hB.val, e2, fun x hx => hB.h1 x (List.mem_cons_of_mem _ hx), hB.h2, hB.low, fun x hx hq hc y hxy => hB.done x hx (by simp only [List.mem_cons, not_or]; exact ⟨hc, hq⟩) (fun h => h) y hxy⟩
        | nil =>
          have hq := hB.q_
          rw [List.nil_append] at hq
          have hq2 := hB.h2
          rw [← hq] at hq2
          refine ⟨d + 1, rest, [], hq2 c List.mem_cons_self, hB.val, by simp, fun x hx => hq2 x (List.mem_cons_of_mem _ hx), (fun x hx => by cases hx), fun x k hd hk => ?_, fun x hx hq hc y hxy => hB.done x hx (by simp only [List.mem_cons, not_or]; exact ⟨hc, hq⟩) (fun h => h) y hxy⟩
          rcases Nat.lt_or_ge d k with h | h
          · obtain rfl : k = d + 1 := by omega
            obtain ⟨y, h1, h2⟩ := d_next hd
            refine hB.done y (hB.low y d h2 (Nat.le_refl _)) (fun hy => ?_) (fun h => h) x h1.symm
            have := d_unique h2 (hq2 y hy); omega
          · exact hB.low x k hd h
      have hlen : und l b m + rest.length ≤ k := by simp only [List.length_cons] at hk; omega
      have hrl := hnb.len c
      have hl := (valid_mem hv).1
      obtain ⟨m', q', q2', e1, e2, e3⟩ := bfs_inner (n := n) hv hnb hn hd' ((mget nb c).getD []).length 0 n m rest p2 (by omega) (by omega) hB' (fun i hi hij => by omega) (by omega)
      have hst : m_constraint_path_L1 n nb m (c :: rest) = some (.inl (m', q')) := by
        simp only [m_constraint_path_L1]
        rw [if_pos (by simp), show ix (c :: rest) 0 = some c from rfl, Option.bind_some, Option.bind_some, show slc (c :: rest) 1 (((c :: rest).length : Nat) : Int) = some rest by unfold slc; rw [if_pos ⟨by omega, by simp only [List.length_cons]; omega, by omega⟩, Int.toNat_natCast, List.take_length]; rfl, Option.bind_some]
        rw [show (0 : Int) = ((0 : Nat) : Int) from rfl, e1]
        rfl
      rw [iter]
      dsimp only
      rw [hst]
      exact ih f m' q' p1 q2' d' (by omega) (by omega) (by omega) e2
/-- The search from b finds all distances. -/
theorem bfs_eq (hv : validB l = true) (hnb : Nb l nb) (hn : 1000000 < n) : ∃ m' q', iter n (fun s => m_constraint_path_L1 n nb s.1 s.2) (mput ([] : List (Int × Int)) b 0, [b]) = some (m', q') ∧ FarOK l b m' := by
  have hl := (valid_mem hv).1
  have hg := grp_len l b
  have hu : und l b (mput ([] : List (Int × Int)) b 0) ≤ (grp l b).length := List.length_filter_le _ _
  have hget : ∀ x, mget (mput ([] : List (Int × Int)) b 0) x = if x = b then some 0 else none := fun x => by rw [mget_mput]; rfl
  refine bfs_all (n := n) hv hnb hn 1000 n _ [b] [b] [] 0 (by simp only [List.length_cons, List.length_nil]; omega) (Nat.le_refl _) (by omega) {
    val := fun x v hx => by
      rw [hget] at hx
      split at hx
      · rename_i e; injection hx with hx; subst hx; subst e
        exact ⟨0, d_zero.2 rfl, rfl⟩
      · cases hx
    q_ := rfl
    h1 := fun x hx => by rw [List.mem_singleton.1 hx]; exact d_zero.2 rfl
    h2 := fun x hx => by cases hx
    low := fun x k hd hk => by
      obtain rfl : k = 0 := by omega
      rw [hget, if_pos (d_zero.1 hd)]; rfl
    done := fun x hx hq => by
      rw [hget, if_neg (fun e => hq (by rw [e]; simp))] at hx; cases hx }
/-- The way to b. -/
theorem way_eq {far : List (Int × Int)} {z : List Int} (hv : validB l = true) (hnb : Nb l nb) (hF : FarOK l b far) (hn : 1000000 < n) : ∀ (k : Nat) (x : Int) (out : List Int) (fuel : Nat), D_ l b x k → k < fuel → out.length + k ≤ 100000 →
    ∃ p, Way l b k x p ∧ iter fuel (fun s => m_constraint_path_L3 n b nb (far, z) s.1 s.2) (out, x) = some (out ++ p, b) := by
  classical
  have hl := (valid_mem hv).1
  intro k
  induction k with
  | zero =>
    intro x out fuel hd hf _
    obtain ⟨f, rfl⟩ : ∃ f, fuel = f + 1 := ⟨fuel - 1, by omega⟩
    obtain rfl : x = b := d_zero.1 hd
    exact ⟨[], .nil, by rw [iter]; simp [m_constraint_path_L3]⟩
  | succ k ih =>
    intro x out fuel hd hf hlen
    obtain ⟨f, rfl⟩ : ∃ f, fuel = f + 1 := ⟨fuel - 1, by omega⟩
    have hne : x ≠ b := fun e => by have := d_unique hd (d_zero.2 e); omega
    have hdl := d_len hd
    have hrl := hnb.len x
    obtain ⟨i, hi, hnx, hfst⟩ := nx_ex (hnb.ord x) (hnb.mem x) hd
    have hfar : ∀ j (h : j < ((mget nb x).getD []).length), m_constraint_path_1 n ((mget nb x).getD [])[j] far x = some (decide (D_ l b ((mget nb x).getD [])[j] k)) := fun j h => by
      obtain ⟨kj, _, hdj⟩ := d_step hd ((hnb.mem x _).1 (List.getElem_mem h))
      have hkl := d_len hdj
      unfold m_constraint_path_1
      rw [hF.get _ _ hdj, hF.get _ _ hd]
      congr 1
      refine decide_eq_decide.2 ?_
      simp only [Option.getD_some]
      rw [w64 (by omega) (by omega)]
      constructor
      · intro e
        obtain rfl : kj = k := by omega
        exact hdj
      · intro e
        rw [d_unique hdj e]; omega
    have hix : m_slices_IndexFunc_int_int_f2 n ((mget nb x).getD []) (fun y1 => m_constraint_path_1 n y1 far x) = some (i : Int) := by
      have q : iter n (fun s => m_slices_IndexFunc_int_int_f2_L1 n ((mget nb x).getD []) (fun y1 => m_constraint_path_1 n y1 far x) s) 0 = some (.inl (i : Int)) := by
       refine iter_to (f := fun s => m_slices_IndexFunc_int_int_f2_L1 n ((mget nb x).getD []) (fun y1 => m_constraint_path_1 n y1 far x) s) (fun j => (j : Int)) i n _ (fun j hj => ?_) ?_ (by omega) rfl
       · simp only [m_slices_IndexFunc_int_int_f2_L1]
         rw [if_pos (decide_eq_true (by omega)), ixL (by omega), Option.bind_some, hfar j (by omega), Option.bind_some, decide_eq_false (hfst j hj), wadd1 (show j < ((mget nb x).getD []).length by omega) (by simp only [ML]; omega)]
         rfl
       · simp only [m_slices_IndexFunc_int_int_f2_L1]
         rw [if_pos (decide_eq_true (by omega)), ixL hi, Option.bind_some, hfar i hi, Option.bind_some, decide_eq_true hnx.2.1]
         rfl
      unfold m_slices_IndexFunc_int_int_f2
      rw [q]; rfl
    have hst : m_constraint_path_L3 n b nb (far, z) out x = some (.inl (out ++ [((mget nb x).getD [])[i]], ((mget nb x).getD [])[i])) := by
      simp only [m_constraint_path_L3]
      rw [if_pos (by simpa using hne), hix, Option.bind_some, ixL hi, Option.bind_some, app_one (by omega) (by omega)]
      rfl
    obtain ⟨p, h1, h2⟩ := ih _ (out ++ [((mget nb x).getD [])[i]]) f hnx.2.1 (by omega) (by simp only [List.length_append, List.length_cons, List.length_nil]; omega)
    refine ⟨_ :: p, .cons hnx h1, ?_⟩
    rw [iter]
    dsimp only
    rw [hst]
    show iter f _ _ = _
    rw [h2, List.append_assoc]
    rfl
/-- The program's path. -/
theorem path_eq {a : Int} {k : Nat} (hv : validB l = true) (hn : 1000000 < n) (hd : D_ l b a k) : ∃ p, Way l b k a p ∧ m_constraint_path n l a b = some (a :: p) := by
  have hl := (valid_mem hv).1
  have hdl := d_len hd
  obtain ⟨nb, e1, hnb⟩ := neighbours_eq (n := n) hv hn
  obtain ⟨far, z, e2, hF⟩ := bfs_eq (n := n) (b := b) hv hnb hn
  obtain ⟨p, h1, h2⟩ := way_eq (n := n) (z := z) hv hnb hF hn k a [a] n hd (by omega) (by simp only [List.length_cons, List.length_nil]; omega)
  refine ⟨p, h1, ?_⟩
  unfold m_constraint_path
  rw [e1, Option.bind_some, Option.bind_some, e2, Option.bind_some, h2]
  rfl
end
end
section
/- The search in the reference. Conditions: none. -/
open Go
section
variable {n : Nat} {l : List SConstraint} {a b : Int}
/-- The distance, as a number. -/
noncomputable def dst (l : List SConstraint) (b x : Int) : Nat := Classical.epsilon fun k => D_ l b x k
variable {g : List Int}
end
end
section
/- The path in the reference. Conditions: none. -/
open Go
section
variable {n : Nat} {l : List SConstraint} {a b : Int} {g : List Int}
end
end
section
/- Paths and conflicts. Conditions: none. -/
open Go
section
variable {n : Nat} {l : List SConstraint} {a b : Int}
noncomputable def pth (l : List SConstraint) (a b : Int) : List Int := Classical.epsilon fun p => ∃ k q, D_ l b a k ∧ Way l b k a q ∧ p = a :: q
theorem pth_eq {k : Nat} {q : List Int} (hd : D_ l b a k) (hw : Way l b k a q) : pth l a b = a :: q := by
  obtain ⟨k', q', h1, h2, h3⟩ := Classical.epsilon_spec (p := fun p => ∃ k q, D_ l b a k ∧ Way l b k a q ∧ p = a :: q) ⟨_, k, q, hd, hw, rfl⟩
  unfold pth
  rw [h3]
  obtain rfl := d_unique h1 hd
  rw [way_unique h2 hw]
theorem ppath_eq (hv : validB l = true) (hn : 1000000 < n) (h : root l a = root l b) : m_constraint_path n l a b = some (pth l a b) := by
  obtain ⟨k, hd⟩ := d_ex h
  obtain ⟨p, h1, h2⟩ := path_eq hv hn hd
  rw [h2, pth_eq hd h1]
/-! ### the same ties -/
/-! ### conflicts -/
def isCon (l : List SConstraint) (x : SConstraint) : Bool := decide (x.fKind = 2) && decide (root l x.fA = root l x.fB)
noncomputable def conOf (l : List SConstraint) (x : SConstraint) : SConflict := ⟨⟨x.fA, x.fB⟩, pth l x.fA x.fB⟩
noncomputable def cons (l : List SConstraint) (t : List SConstraint) : List SConflict := (t.filter (isCon l)).map (conOf l)
theorem cons_snoc (t : List SConstraint) (x : SConstraint) : cons l (t ++ [x]) = cons l t ++ if isCon l x = true then [conOf l x] else [] := by
  unfold cons
  rw [List.filter_append, List.map_append]
  congr 1
  cases h : isCon l x <;> simp [h]
theorem cons_len (t : List SConstraint) : (cons l t).length ≤ t.length := by
  unfold cons; rw [List.length_map]; exact List.length_filter_le _ _
theorem conflicts_eq (hv : validB l = true) (hn : 1000000 < n) : m_constraint_Conflicts n l = some (cons l (norm l), 0) := by
  have hl := (valid_mem hv).1
  have hnl := norm_len l
  have q : iter n (fun s => m_constraint_Conflicts_L1 n l (cls l) (norm l) s.1 s.2) (([] : List SConflict), (0 : Int)) = some (cons l (norm l)) := by
    refine iter_to (f := fun s => m_constraint_Conflicts_L1 n l (cls l) (norm l) s.1 s.2) (fun j => (cons l ((norm l).take j), (j : Int))) (norm l).length n _ (fun j hj => ?_) (by simp [m_constraint_Conflicts_L1]) (by omega) rfl
    have hcl := cons_len (l := l) ((norm l).take j)
    rw [List.length_take] at hcl
    have hsn : (norm l).take (j + 1) = (norm l).take j ++ [(norm l)[j]] := take_snoc hj
    simp only [m_constraint_Conflicts_L1]
    rw [if_pos (decide_eq_true (by omega)), ixL hj, Option.bind_some, Option.bind_some, wadd1 hj (by simp only [ML]; omega), hsn, cons_snoc]
    generalize (norm l)[j] = x
    rw [of_eq (by omega), of_eq (by omega)]
    unfold isCon
    by_cases hk : x.fKind = 2
    · simp only [decide_eq_true hk, if_true, Option.bind_some, Bool.true_and]
      by_cases hr : root l x.fA = root l x.fB
      · simp only [decide_eq_true hr, if_true]
        rw [ppath_eq hv hn hr, Option.bind_some, app_one (by omega) (by omega)]
        rfl
      · simp [decide_eq_false hr]
    · simp [decide_eq_false hk]
  unfold m_constraint_Conflicts
  rw [valid_eq hn, Option.bind_some, hv, if_neg (by decide), classesOf_eq (by omega) (by simp only [ML]; omega), Option.bind_some, normal_eq (by omega) hn, Option.bind_some, q]
  rfl
end
end
section
/- The laws of paths and of the normal form. Conditions: none. -/
open Go
end
end Go.Proofs.Ytkfffaoopcnaoaa.Ab
