/- The parts of a comparison, in plain Lean. Conditions: none. -/
import Derived.Test.YtgcmhhcopeiomaaVa
import Derived.Test.YtgcmhhcopeiomaaVo
import Derived.Laws.RangeAny
namespace Go.Proofs.Ytgcmhhcopeiomaa.Ab
open Go

/-! ### counting in a map -/
theorem iterR_count {α : Type} {f : Int → α → Option (Int ⊕ Int)} {p : α → Bool} (h : ∀ s e, f s e = some (.inl (if p e = true then IntKind.i64.wrap (s + 1) else s))) :
    ∀ (l : List α) (s : Int), 0 ≤ s → s + l.length ≤ ML → iterR f (fun s => s) s l = some (s + (l.countP p : Nat))
  | [], s, _, _ => by simp [iterR]
  | e :: l, s, h0, hl => by
    simp only [List.length_cons] at hl
    rw [iterR, h]
    simp only [Option.bind_some]
    cases hp : p e with
    | true =>
      simp only [if_true]
      rw [w64 (by omega) (by simp only [ML] at hl; omega), iterR_count h l (s + 1) (by omega) (by omega), List.countP_cons, hp]
      congr 1; simp; omega
    | false =>
      simp only [Bool.false_eq_true, if_false]
      rw [iterR_count h l s h0 (by omega), List.countP_cons, hp]; simp
theorem rangeM_count {α : Type} {f : Int → α → Option (Int ⊕ Int)} {p : α → Bool} (h : ∀ s e, f s e = some (.inl (if p e = true then IntKind.i64.wrap (s + 1) else s))) {l : List α} (hl : l.length ≤ ML) :
    rangeM f (fun s => s) 0 l = some ((l.countP p : Nat) : Int) :=
  rangeM_of fun q hq => by
    rw [iterR_count h q 0 (by omega) (by rw [hq.length_eq]; omega), hq.countP_eq]; simp

/-! ### maps from words to numbers -/
theorem mfind_none {κ ν : Type} [DecidableEq κ] {k : κ} : ∀ {m : List (κ × ν)}, mfind m k = none ↔ k ∉ m.map (·.1)
  | [] => by simp [mfind]
  | x :: m => by
    unfold mfind
    by_cases h : k = x.1
    · simp [h]
    · simp [h, mfind_none (m := m)]
theorem mput_keys {κ ν : Type} [DecidableEq κ] {k : κ} {v : ν} {m : List (κ × ν)} : (mput m k v).map (·.1) = if k ∈ m.map (·.1) then m.map (·.1) else m.map (·.1) ++ [k] := by
  unfold mput
  cases h : mfind m k with
  | none => rw [if_neg (mfind_none.1 h)]; simp
  | some j =>
    obtain ⟨x, h1, h2⟩ := mfind_lt h
    have hm : k ∈ m.map (·.1) := by
      subst h2
      exact List.mem_map.2 ⟨x, List.mem_of_getElem? h1, rfl⟩
    rw [if_pos hm]
    simp only [List.map_set]
    subst h2
    apply List.ext_getElem? 
    intro i
    rw [List.getElem?_set]
    by_cases hij : j = i
    · subst hij
      have hlt := (List.getElem?_eq_some_iff.1 h1).1
      rw [if_pos rfl, if_pos (by simpa using hlt), List.getElem?_map, h1]; rfl
    · simp [hij]
theorem mget_mem {κ ν : Type} [DecidableEq κ] {k : κ} {v : ν} {m : List (κ × ν)} (h : mget m k = some v) : (k, v) ∈ m := by
  unfold mget at h
  rw [Option.bind_eq_some_iff] at h
  obtain ⟨j, h1, h2⟩ := h
  obtain ⟨x, h3, rfl⟩ := mfind_lt h1
  rw [h3] at h2
  simp at h2; subst h2
  exact List.mem_of_getElem? h3
theorem mem_mget {κ ν : Type} [DecidableEq κ] {k : κ} {v : ν} : ∀ {m : List (κ × ν)}, (m.map (·.1)).Nodup → (k, v) ∈ m → mget m k = some v
  | x :: m, hn, h => by
    simp only [List.map_cons, List.nodup_cons] at hn
    rcases List.mem_cons.1 h with rfl | h
    · simp [mget, mfind]
    · have hk : k ∈ m.map (·.1) := List.mem_map.2 ⟨_, h, rfl⟩
      have hne : k ≠ x.1 := fun e => hn.1 (e ▸ hk)
      have ih := mem_mget hn.2 h
      unfold mget at ih ⊢
      unfold mfind
      rw [if_neg hne]
      cases hf : mfind m k with
      | none => rw [hf] at ih; simp at ih
      | some j => rw [hf] at ih; simpa using ih
theorem mget_none {κ ν : Type} [DecidableEq κ] {k : κ} {m : List (κ × ν)} : mget m k = none ↔ k ∉ m.map (·.1) := by
  constructor
  · intro h hk
    cases hf : mfind m k with
    | none => exact mfind_none.1 hf hk
    | some j =>
      obtain ⟨x, h1, _⟩ := mfind_lt hf
      simp [mget, hf, h1] at h
  · intro h
    simp [mget, mfind_none.2 h]
theorem mget_put {κ ν : Type} [DecidableEq κ] {k q : κ} {v : ν} {m : List (κ × ν)} (hn : (m.map (·.1)).Nodup) : mget (mput m k v) q = if q = k then some v else mget m q := by
  have hn2 : ((mput m k v).map (·.1)).Nodup := by
    rw [mput_keys]
    split
    · exact hn
    · rename_i h
      rw [List.nodup_append]
      exact ⟨hn, by simp, fun a ha b hb => by simp at hb; subst hb; rintro rfl; exact h ha⟩
  by_cases hq : q = k
  · subst hq
    rw [if_pos rfl]
    refine mem_mget hn2 ?_
    unfold mput
    cases hf : mfind m q with
    | none => simp
    | some j =>
      obtain ⟨x, h1, _⟩ := mfind_lt hf
      exact List.mem_of_getElem? (i := j) (by simp [(List.getElem?_eq_some_iff.1 h1).1])
  · rw [if_neg hq]
    cases hg : mget m q with
    | none =>
      rw [mget_none] at hg ⊢
      rw [mput_keys]
      split
      · exact hg
      · simp [hg, hq]
    | some w =>
      refine mem_mget hn2 ?_
      have hw := mget_mem hg
      unfold mput
      cases hf : mfind m k with
      | none => exact List.mem_append_left _ hw
      | some j =>
        obtain ⟨x, h1, h2⟩ := mfind_lt hf
        obtain ⟨i, hi⟩ := List.getElem?_of_mem hw
        have hij : j ≠ i := by rintro rfl; rw [h1] at hi; injection hi with hi; subst hi; exact hq h2
        exact List.mem_of_getElem? (i := i) (by rw [List.getElem?_set, if_neg hij]; exact hi)
theorem nodup_put {κ ν : Type} [DecidableEq κ] {k : κ} {v : ν} {m : List (κ × ν)} (hn : (m.map (·.1)).Nodup) : ((mput m k v).map (·.1)).Nodup := by
  rw [mput_keys]
  split
  · exact hn
  · rename_i h
    rw [List.nodup_append]
    exact ⟨hn, by simp, fun a ha b hb => by simp at hb; subst hb; rintro rfl; exact h ha⟩
theorem perm_of_same {α : Type} [DecidableEq α] : ∀ {l m : List α}, l.Nodup → m.Nodup → (∀ x, x ∈ l ↔ x ∈ m) → l.Perm m
  | [], m, _, _, h => by
    cases m with
    | nil => exact .refl _
    | cons y m => exact absurd ((h y).2 (List.mem_cons_self ..)) (by simp)
  | x :: l, m, hl, hm, h => by
    have hx : x ∈ m := (h x).1 (List.mem_cons_self ..)
    have p := List.perm_cons_erase hx
    rw [List.nodup_cons] at hl
    refine .trans (.cons x (perm_of_same hl.2 (hm.erase x) fun y => ?_)) p.symm
    rw [hm.mem_erase_iff]
    constructor
    · intro hy; exact ⟨fun e => hl.1 (e ▸ hy), (h y).1 (List.mem_cons_of_mem _ hy)⟩
    · rintro ⟨h1, h2⟩
      rcases List.mem_cons.1 ((h y).2 h2) with rfl | h3
      · exact absurd rfl h1
      · exact h3

/-! ### close words -/
abbrev WM := List (List UInt8 × Int)
/-- A map that says of each word what it says. -/
def says (M : WM) (v : List UInt8 → Int) : Prop := (M.map (·.1)).Nodup ∧ ∀ k, mget M k = if v k = 0 then none else some (v k)
theorem says_len {M M' : WM} {v v' : List UInt8 → Int} (h : says M v) (h' : says M' v') (hv : ∀ k, v k = 0 ↔ v' k = 0) : M.length = M'.length := by
  have p := perm_of_same h.1 h'.1 (fun k => by
    have h1 := mget_none (m := M) (k := k)
    have h2 := mget_none (m := M') (k := k)
    rw [h.2] at h1; rw [h'.2] at h2
    by_cases h0 : v k = 0
    · simp only [h0, (hv k).1 h0, if_true, true_iff] at h1 h2
      exact ⟨fun q => absurd q h1, fun q => absurd q h2⟩
    · simp only [h0, (show ¬ v' k = 0 from fun q => h0 ((hv k).2 q)), if_false, reduceCtorEq, false_iff, Decidable.not_not] at h1 h2
      exact ⟨fun _ => h2, fun _ => h1⟩)
  simpa using p.length_eq
theorem says_count {M : WM} {v : List UInt8 → Int} (h : says M v) : M.countP (fun e => decide (e.2 = 3)) = (M.map (·.1)).countP (fun k => decide (v k = 3)) := by
  rw [List.countP_map]
  refine List.countP_congr fun e he => ?_
  have := mem_mget h.1 (show (e.1, e.2) ∈ M from he)
  rw [h.2] at this
  split at this
  · cases this
  · injection this with this; simp [this]
theorem says_three {M M' : WM} {v v' : List UInt8 → Int} (h : says M v) (h' : says M' v') (h0 : ∀ k, v k = 0 ↔ v' k = 0) (h3 : ∀ k, v k = 3 ↔ v' k = 3) : M.countP (fun e => decide (e.2 = 3)) = M'.countP (fun e => decide (e.2 = 3)) := by
  rw [says_count h, says_count h']
  have p := perm_of_same h.1 h'.1 (fun k => by
    have h1 := mget_none (m := M) (k := k)
    have h2 := mget_none (m := M') (k := k)
    rw [h.2] at h1; rw [h'.2] at h2
    by_cases h0' : v k = 0
    · simp only [h0', (h0 k).1 h0', if_true, true_iff] at h1 h2
      exact ⟨fun q => absurd q h1, fun q => absurd q h2⟩
    · simp only [h0', (show ¬ v' k = 0 from fun q => h0' ((h0 k).2 q)), if_false, reduceCtorEq, false_iff, Decidable.not_not] at h1 h2
      exact ⟨fun _ => h2, fun _ => h1⟩)
  rw [p.countP_eq]
  exact List.countP_congr fun k _ => by simp [h3 k]
def bt (a : List (List UInt8)) (k : Int) (w : List UInt8) : Int := if w ∈ a then k else 0
def vv (a b : List (List UInt8)) (w : List UInt8) : Int := bt a 1 w + bt b 2 w
theorem says_or {M : WM} {v : List UInt8 → Int} {w : List UInt8} {k : Int} (h : says M v) (hk : bitM .i64 (· ||| ·) (v w) k ≠ 0) : says (mput M w (bitM .i64 (· ||| ·) ((mget M w).getD 0) k)) (fun q => if q = w then bitM .i64 (· ||| ·) (v w) k else v q) := by
  refine ⟨nodup_put h.1, fun q => ?_⟩
  rw [mget_put h.1]
  have e : (mget M w).getD 0 = v w := by
    rw [h.2]
    split
    · rename_i h0; simp [h0]
    · simp
  rw [e]
  by_cases hq : q = w
  · simp [hq, hk]
  · simp [hq, h.2]
theorem bt_snoc {a : List (List UInt8)} {k : Int} {w q : List UInt8} : bt (a ++ [w]) k q = if q = w then k else bt a k q := by
  unfold bt
  by_cases h : q = w <;> simp [h]
theorem or_bits : ∀ x ∈ [(0 : Int), 1, 2, 3], bitM .i64 (· ||| ·) x 1 = (if x = 0 ∨ x = 1 then 1 else 3) ∧ bitM .i64 (· ||| ·) x 2 = (if x = 0 ∨ x = 2 then 2 else 3) := by decide
theorem take_snoc {α : Type} {l : List α} {i : Nat} (d : α) (h : i < l.length) : l.take (i + 1) = l.take i ++ [l.getD i d] := by
  rw [List.take_add_one]; simp [h]
theorem close_L1 {n : Nat} {a : List (List UInt8)} (hl : a.length ≤ ML) (hn : a.length < n) : ∃ M, iter n (fun s => m_match_closeWords_L1 n a s.1 s.2) ((0 : Int), []) = some M ∧ says M (bt a 1) ∧ M.length ≤ a.length := by
  refine iter_inv (σ := Int × WM) (I := fun k s => ∃ i : Nat, s.1 = i ∧ i + k = a.length ∧ says s.2 (bt (a.take i) 1) ∧ s.2.length ≤ i) (Q := fun M : WM => says M (bt a 1) ∧ M.length ≤ a.length) ?_ a.length n _ ⟨0, rfl, by omega, ⟨by simp, fun k => by simp [bt, mget, mfind]⟩, by simp⟩ hn
  rintro k ⟨x, M⟩ ⟨i, h1, h2, h3, h4⟩
  dsimp only at h1 h3 h4
  subst h1
  simp only [m_match_closeWords_L1]
  by_cases hk : k = 0
  · right
    have e0 : i = a.length := by omega
    subst e0
    rw [List.take_length] at h3
    exact ⟨M, by simp, h3, h4⟩
  · left
    have hi : i < a.length := by omega
    simp only [show (i : Int) < a.length by omega, decide_true, if_true, ix_get [] hi, Option.bind_some, wadd1 hi hl]
    refine ⟨_, k - 1, rfl, by omega, i + 1, rfl, by omega, ?_, ?_⟩
    · rw [take_snoc [] hi]
      generalize a.getD i [] = w
      have hb : bt (a.take i) 1 w = 0 ∨ bt (a.take i) 1 w = 1 := by unfold bt; split <;> simp
      have hv : bitM .i64 (· ||| ·) (bt (a.take i) 1 w) 1 = 1 := by rcases hb with h | h <;> rw [h] <;> decide
      have := says_or (w := w) (k := 1) h3 (by rw [hv]; decide)
      rw [hv] at this
      have e : (fun q => if q = w then (1 : Int) else bt (a.take i) 1 q) = bt (a.take i ++ [w]) 1 := by funext q; rw [bt_snoc]
      rw [e] at this; exact this
    · have := congrArg List.length (mput_keys (m := M) (k := a.getD i []) (v := bitM .i64 (· ||| ·) ((mget M (a.getD i [])).getD 0) 1))
      simp only [List.length_map] at this
      show (mput M (a.getD i []) _).length ≤ i + 1
      rw [this]
      split <;> simp <;> omega
theorem close_L2 {n : Nat} {b : List (List UInt8)} {M0 : WM} {u : List (List UInt8)} (h0 : says M0 (bt u 1)) (hl : b.length ≤ ML) (hn : b.length < n) : ∃ M, iter n (fun s => m_match_closeWords_L2 n b s.1 s.2) ((0 : Int), M0) = some M ∧ says M (vv u b) ∧ M.length ≤ M0.length + b.length := by
  refine iter_inv (σ := Int × WM) (I := fun k s => ∃ i : Nat, s.1 = i ∧ i + k = b.length ∧ says s.2 (vv u (b.take i)) ∧ s.2.length ≤ M0.length + i) (Q := fun M : WM => says M (vv u b) ∧ M.length ≤ M0.length + b.length) ?_ b.length n _ ⟨0, rfl, by omega, (by
    have e : vv u (b.take 0) = bt u 1 := by funext q; simp [vv, bt]
    rw [e]; exact h0), by simp⟩ hn
  rintro k ⟨x, M⟩ ⟨i, h1, h2, h3, h4⟩
  dsimp only at h1 h3 h4
  subst h1
  simp only [m_match_closeWords_L2]
  by_cases hk : k = 0
  · right
    have e0 : i = b.length := by omega
    subst e0
    rw [List.take_length] at h3
    exact ⟨M, by simp, h3, h4⟩
  · left
    have hi : i < b.length := by omega
    simp only [show (i : Int) < b.length by omega, decide_true, if_true, ix_get [] hi, Option.bind_some, wadd1 hi hl]
    refine ⟨_, k - 1, rfl, by omega, i + 1, rfl, by omega, ?_, ?_⟩
    · rw [take_snoc [] hi]
      generalize b.getD i [] = w
      have hb : bitM .i64 (· ||| ·) (vv u (b.take i) w) 2 = bt u 1 w + 2 := by
        unfold vv
        have h1 : bt u 1 w = 0 ∨ bt u 1 w = 1 := by unfold bt; split <;> simp
        have h2 : bt (b.take i) 2 w = 0 ∨ bt (b.take i) 2 w = 2 := by unfold bt; split <;> simp
        rcases h1 with h1 | h1 <;> rcases h2 with h2 | h2 <;> rw [h1, h2] <;> decide
      have hne : bt u 1 w + 2 ≠ 0 := by
        have h1 : bt u 1 w = 0 ∨ bt u 1 w = 1 := by unfold bt; split <;> simp
        omega
      have := says_or (w := w) (k := 2) h3 (by rw [hb]; exact hne)
      rw [hb] at this
      have e : (fun q => if q = w then bt u 1 w + 2 else vv u (b.take i) q) = vv u (b.take i ++ [w]) := by
        funext q; simp only [vv, bt_snoc]
        by_cases hq : q = w
        · subst hq; simp
        · simp [hq]
      rw [e] at this; exact this
    · have := congrArg List.length (mput_keys (m := M) (k := b.getD i []) (v := bitM .i64 (· ||| ·) ((mget M (b.getD i [])).getD 0) 2))
      simp only [List.length_map] at this
      show (mput M (b.getD i []) _).length ≤ M0.length + (i + 1)
      rw [this]
      split <;> simp <;> omega
noncomputable def cw (a b : List (List UInt8)) : Bool := (m_match_closeWords FU a b).getD false
theorem closeWords_ok {a b : List (List UInt8)} (ha : a.length ≤ 1000000000) (hb : b.length ≤ 1000000000) : ∃ M : WM, says M (vv a b) ∧ m_match_closeWords FU a b = some ((decide ((0 : Int) < (M.length : Int))) && (decide ((IntKind.i64.wrap ((3 : Int) * (M.length : Int))) ≤ (IntKind.i64.wrap ((4 : Int) * ((M.countP (fun e => decide (e.2 = 3)) : Nat) : Int)))))) := by
  obtain ⟨M1, h1, h2, h3⟩ := close_L1 (n := FU) (a := a) (by simp only [ML]; omega) (by simp only [FU]; omega)
  obtain ⟨M, h4, h5, h6⟩ := close_L2 (n := FU) (b := b) h2 (by simp only [ML]; omega) (by simp only [FU]; omega)
  refine ⟨M, h5, ?_⟩
  unfold m_match_closeWords
  rw [h1, Option.bind_some, h4, Option.bind_some, rangeM_count (p := fun e => decide (e.2 = 3)) (fun s e => by
    unfold m_match_closeWords_L3
    cases decide (e.2 = 3) <;> rfl) (by simp only [ML]; omega)]
  rfl
theorem closeWords_cw {a b : List (List UInt8)} (ha : a.length ≤ 1000000000) (hb : b.length ≤ 1000000000) : m_match_closeWords FU a b = some (cw a b) := by
  obtain ⟨M, _, h⟩ := closeWords_ok ha hb
  unfold cw
  rw [h]; rfl
theorem vv_zero {a b : List (List UInt8)} {k : List UInt8} : vv a b k = 0 ↔ vv b a k = 0 := by
  unfold vv bt; by_cases h1 : k ∈ a <;> by_cases h2 : k ∈ b <;> simp [h1, h2]
theorem vv_three {a b : List (List UInt8)} {k : List UInt8} : vv a b k = 3 ↔ vv b a k = 3 := by
  unfold vv bt; by_cases h1 : k ∈ a <;> by_cases h2 : k ∈ b <;> simp [h1, h2]
theorem cw_comm {a b : List (List UInt8)} (ha : a.length ≤ 1000000000) (hb : b.length ≤ 1000000000) : cw a b = cw b a := by
  obtain ⟨M, h1, h2⟩ := closeWords_ok ha hb
  obtain ⟨M', h1', h2'⟩ := closeWords_ok hb ha
  unfold cw
  rw [h2, h2', says_len h1 h1' (fun _ => vv_zero), says_three h1 h1' (fun _ => vv_zero) (fun _ => vv_three)]
end Go.Proofs.Ytgcmhhcopeiomaa.Ab
