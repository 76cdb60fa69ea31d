/- Plain theory, joined. Conditions: none. -/
import Derived.Test.YtgcmhhcopeiomaaGreatDva
set_option maxRecDepth 100000
namespace Go.Proofs.YtgcmhhcopeiomaaGreat.Ab
open Go
section
open Go
theorem anyB {s : List UInt8} {p : Int → Bool} : anyN s.length (fun i => p ((s.getD i 0).toNat : Int)) = s.any fun c => p (c.toNat : Int) := anyN_getD s 0 (fun c => p (c.toNat : Int))
theorem made_ok {n : Nat} {s : List UInt8} {k : Nat} {lo hi : Int} (hl : s.length ≤ ML) (hn : s.length < n) : m_ref29_made n s (k : Int) lo hi = some (mde s k lo hi) := by
  unfold m_ref29_made
  rw [iter_any (ρ := Bool ⊕ Unit) s.length n (fun i => (fun c : Int => decide (c < lo) || decide (hi < c)) ((s.getD i 0).toNat : Int)) (.inl false) (.inr ()) (fun j hj => by
    unfold m_ref29_made_L1
    rw [if_pos (by simp; omega), ixS_get hj, wadd1 hj hl]
    generalize ((s.getD j 0).toNat : Int) = c
    simp only [Option.bind_some]
    by_cases h : c < lo
    · simp [h]
    · by_cases h2 : hi < c <;> simp [h, h2]) (by unfold m_ref29_made_L1; simp) hn]
  have e : anyN s.length (fun i => (fun c : Int => decide (c < lo) || decide (hi < c)) ((s.getD i 0).toNat : Int)) = !onl s lo hi := by
    have := anyB (s := s) (p := fun c : Int => decide (c < lo) || decide (hi < c))
    rw [this]
    unfold onl
    rw [List.not_all_eq_any_not]
    congr 1
    funext c
    rw [Bool.eq_iff_iff]; simp <;> omega
  rw [e]
  unfold mde
  have e2 : decide ((s.length : Int) = (k : Int)) = decide (s.length = k) := by rw [decide_eq_decide]; omega
  rw [← e2]
  cases onl s lo hi <;> simp
theorem rword_ok {n : Nat} {s : List UInt8} (hl : s.length ≤ ML) (hn : s.length < n) : m_ref29_word n s = some (wrd s) := by
  unfold m_ref29_word
  rw [iter_any (ρ := Bool ⊕ Unit) s.length n (fun i => (fun c : Int => decide (c ≤ 32)) ((s.getD i 0).toNat : Int)) (.inl false) (.inr ()) (fun j hj => by
    unfold m_ref29_word_L1
    rw [if_pos (by simp; omega), ixS_get hj, wadd1 hj hl, Option.bind_some]
    split <;> rfl) (by unfold m_ref29_word_L1; simp) hn]
  have e : anyN s.length (fun i => (fun c : Int => decide (c ≤ 32)) ((s.getD i 0).toNat : Int)) = !onl s 33 255 := by
    have := anyB (s := s) (p := fun c : Int => decide (c ≤ 32))
    rw [this]
    unfold onl
    rw [List.not_all_eq_any_not]
    congr 1
    funext c
    have := c.toNat_lt
    rw [Bool.eq_iff_iff]; simp <;> omega
  rw [e]
  unfold wrd
  have e1 : decide ((1 : Int) ≤ (s.length : Int)) = decide (1 ≤ s.length) := by rw [decide_eq_decide]; omega
  have e2 : decide ((s.length : Int) ≤ 400) = decide (s.length ≤ 400) := by rw [decide_eq_decide]; omega
  rw [e1, e2]
  cases onl s 33 255 <;> simp
theorem words_ok {l : List (List UInt8)} (h : txs l) : m_ref29_Words FU l = some (decide (l.length ≤ 200) && l.all wrd) := by
  have lt : ∀ {k : Nat}, k ≤ ML → k < FU := fun hk => Nat.lt_of_le_of_lt hk (by decide)
  unfold m_ref29_Words
  rw [iter_any (ρ := Bool ⊕ Unit) l.length FU (fun i => !wrd (l.getD i [])) (.inl false) (.inr ()) (fun j hj => by
    unfold m_ref29_Words_L1
    have hm : l.getD j [] ∈ l := by simp [hj]
    rw [if_pos (by simp; omega), ix_get [] hj, Option.bind_some, rword_ok (h.2 _ hm) (lt (h.2 _ hm)), wadd1 hj h.1, Option.bind_some]
    split <;> rfl) (by unfold m_ref29_Words_L1; simp) (lt h.1)]
  rw [anyN_getD l [] (fun x => !wrd x), ← List.not_all_eq_any_not]
  have e2 : decide ((l.length : Int) ≤ 200) = decide (l.length ≤ 200) := by rw [decide_eq_decide]; omega
  rw [← e2]
  cases l.all wrd <;> simp
theorem key_ok {s : List UInt8} (hl : s.length ≤ ML) : m_ref29_key FU s = some (aut s) := by
  have lt : ∀ {k : Nat}, k ≤ ML → k < FU := fun hk => Nat.lt_of_le_of_lt hk (by decide)
  unfold m_ref29_key
  rw [iter_any (ρ := Bool ⊕ Unit) s.length FU (fun i => (fun c : Int => decide (c < 32)) ((s.getD i 0).toNat : Int)) (.inl false) (.inr ()) (fun j hj => by
    unfold m_ref29_key_L1
    rw [if_pos (by simp; omega), ixS_get hj, wadd1 hj hl, Option.bind_some]
    split <;> rfl) (by unfold m_ref29_key_L1; simp) (lt hl)]
  have e : anyN s.length (fun i => (fun c : Int => decide (c < 32)) ((s.getD i 0).toNat : Int)) = !onl s 32 255 := by
    have := anyB (s := s) (p := fun c : Int => decide (c < 32))
    rw [this]
    unfold onl
    rw [List.not_all_eq_any_not]
    congr 1
    funext c
    have := c.toNat_lt
    rw [Bool.eq_iff_iff]; simp <;> omega
  rw [e]
  unfold aut
  have e2 : decide ((s.length : Int) ≤ 420) = decide (s.length ≤ 420) := by rw [decide_eq_decide]; omega
  rw [e2]
  cases onl s 32 255 with
  | false => simp
  | true =>
    simp only [Bool.not_true, Bool.false_eq_true, if_false, Option.bind_some, Bool.and_true]
    by_cases h5 : s = []
    · subst h5; simp
    · have h6 := List.length_pos_iff.2 h5
      have g0 : ixS s 0 = some ((s.getD 0 0).toNat : Int) := ixS_get (i := 0) h6
      have q1 : decide (((s.getD 0 0).toNat : Int) = 32) = decide (s.getD 0 0 = 32) := by rw [decide_eq_decide]; exact u8_32
      have q2 : decide (((s.getD (s.length - 1) 0).toNat : Int) = 32) = decide (s.getD (s.length - 1) 0 = 32) := by rw [decide_eq_decide]; exact u8_32
      rw [g0, aut_last h5 hl, decide_eq_false h5]
      cases decide (s.length ≤ 420) with
      | false => simp
      | true =>
        simp only [Bool.not_false, Bool.and_self, if_true, Option.bind_some, Bool.true_and, q1, Bool.false_or]
        generalize decide (s.getD 0 0 = 32) = k1
        cases k1
        · simp only [Bool.not_false, if_true, Option.bind_some, q2]
        · simp
theorem asc_ok {l : List (List UInt8)} (hl : l.length ≤ ML) : m_ref29_Ascending FU l = some (asc l) := by
  unfold m_ref29_Ascending
  have he : m_ref29_Ascending_L1 FU l (l.length : Int) = some (.inr (.inr ())) := by unfold m_ref29_Ascending_L1; simp
  cases hc : l with
  | nil => decide +kernel
  | cons x r =>
    rw [← hc]
    have h1 : 1 ≤ l.length := by rw [hc]; simp
    have key := iter_scan (ρ := Bool ⊕ Unit) (f := fun s => if s = 0 then some (.inl 1) else m_ref29_Ascending_L1 FU l s) l.length (fun i => decide (0 < i) && !ltS (l.getD (i - 1) []) (l.getD i [])) (fun _ => .inl false) (.inr ()) (l.length - 1) 1 FU 1 (by omega) (fun j hj => by
      by_cases h0 : j = 0
      · subst h0; simp
      · have h0' : 0 < j := by omega
        rw [if_neg (by omega)]
        unfold m_ref29_Ascending_L1
        rw [if_pos (by simp; omega), wsub1 h0' (by omega), ix_get [] (by omega), Option.bind_some, ix_get [] hj, Option.bind_some, wadd1 hj hl]
        simp only [h0', decide_true, Bool.true_and]
        split <;> rfl) (by rw [if_neg (by omega)]; exact he) (by simp only [FU, ML] at *; omega) rfl
    have same : ∀ (n : Nat) (s : Int), 0 < s → s ≤ l.length → iter n (fun s => if s = 0 then some (.inl 1) else m_ref29_Ascending_L1 FU l s) s = iter n (fun s => m_ref29_Ascending_L1 FU l s) s := by
      intro n
      induction n with
      | zero => intro s _ _; rfl
      | succ n ih =>
        intro s h0 h2
        rw [iter, iter, if_neg (by omega)]
        unfold m_ref29_Ascending_L1
        by_cases hlt : s < l.length
        · rw [if_pos (by simpa using hlt), ix_int [] (show 0 ≤ IntKind.i64.wrap (s - 1) by rw [w64 (by omega) (by simp only [ML] at hl; omega)]; omega) (by rw [w64 (by omega) (by simp only [ML] at hl; omega)]; omega), Option.bind_some, ix_int [] (by omega) hlt, Option.bind_some]
          split
          · rfl
          · simp only [Option.bind_some]
            rw [w64 (by omega) (by simp only [ML] at hl; omega)]
            exact ih (s + 1) (by omega) (by omega)
        · rw [if_neg (by simpa using hlt)]
          rfl
    rw [same FU 1 (by omega) (by omega)] at key
    unfold asc
    rcases key with ⟨i, _, h2, h3, _, h5⟩ | ⟨h3, h5⟩
    · rw [h5, anyN_t.2 ⟨i, h2, h3⟩]; rfl
    · rw [h5, anyN_f.2 (fun i hi => by
        by_cases h0 : i = 0
        · subst h0; simp
        · exact h3 i (by omega) hi)]; rfl
theorem refyears_ok {f : SFeatures} (hl : f.fYears.length ≤ ML) : iter FU (fun s => m_ref29_Valid_L1 FU f s) (0 : Int) = some (if yrs f.fYears = true then .inr () else .inl false) := by
  have lt : ∀ {k : Nat}, k ≤ ML → k < FU := fun hk => Nat.lt_of_le_of_lt hk (by decide)
  rw [iter_any (ρ := Bool ⊕ Unit) f.fYears.length FU (fun i => !(decide (1000 ≤ f.fYears.getD i 0) && decide (f.fYears.getD i 0 ≤ 2999)) || decide (0 < i) && decide (f.fYears.getD i 0 ≤ f.fYears.getD (i - 1) 0)) (.inl false) (.inr ()) (fun j hj => by
    unfold m_ref29_Valid_L1
    rw [if_pos (by simp; omega), ix_get 0 hj, wadd1 hj hl]
    simp only [Option.bind_some]
    generalize hx : f.fYears.getD j 0 = x
    by_cases q1 : x < 1000
    · simp [q1, show ¬ 1000 ≤ x by omega]
    · by_cases q2 : 2999 < x
      · simp [q1, q2, show ¬ x ≤ 2999 by omega]
      · by_cases h0 : 0 < j
        · rw [wsub1 h0 (by omega), ix_get 0 (show j - 1 < f.fYears.length by omega)]
          generalize f.fYears.getD (j - 1) 0 = y
          simp [q1, q2, h0, show 1000 ≤ x by omega, show x ≤ 2999 by omega]
          split <;> rfl
        · have h00 : ¬ (0 : Int) < (j : Int) := by omega
          simp [q1, q2, h0, h00, show 1000 ≤ x by omega, show x ≤ 2999 by omega]) (by unfold m_ref29_Valid_L1; simp) (lt hl)]
  unfold yrs
  cases anyN f.fYears.length (fun i => !(decide (1000 ≤ f.fYears.getD i 0) && decide (f.fYears.getD i 0 ≤ 2999)) || decide (0 < i) && decide (f.fYears.getD i 0 ≤ f.fYears.getD (i - 1) 0)) <;> rfl
theorem refset_ok {l : List (List UInt8)} {k : Nat} {lo hi : Int} {g : Int → Option (Int ⊕ (Bool ⊕ Unit))} (h : txs l) (hg : ∀ s, g s = if (decide (s < (l.length : Int))) = true then (ix l s).bind fun v6 => (m_ref29_made FU v6 (k : Int) lo hi).bind fun v7 => if (!v7) = true then some (.inr (.inl false)) else some (.inl (IntKind.i64.wrap (s + (1 : Int)))) else some (.inr (.inr ()))) :
    iter FU g (0 : Int) = some (if l.all (mde · k lo hi) = true then .inr () else .inl false) := by
  have lt : ∀ {k : Nat}, k ≤ ML → k < FU := fun hk => Nat.lt_of_le_of_lt hk (by decide)
  rw [iter_any (ρ := Bool ⊕ Unit) l.length FU (fun i => !mde (l.getD i []) k lo hi) (.inl false) (.inr ()) (fun j hj => by
    have hm : l.getD j [] ∈ l := by simp [hj]
    rw [hg, if_pos (by simp; omega), ix_get [] hj, Option.bind_some, made_ok (h.2 _ hm) (lt (h.2 _ hm)), wadd1 hj h.1, Option.bind_some]
    split <;> rfl) (by rw [hg]; simp) (lt h.1), anyN_getD l [] (fun x => !mde x k lo hi), ← List.not_all_eq_any_not]
  cases l.all (mde · k lo hi) <;> rfl
theorem refv_ok {f : SFeatures} (h : FOk f) : m_ref29_Valid FU f = some (fv f) := by
  have e2 : iter FU (fun s => m_ref29_Valid_L2 FU f s) (0 : Int) = some (if f.fIsbns.all (mde · 13 48 57) = true then .inr () else .inl false) := refset_ok (k := 13) (lo := 48) (hi := 57) h.i (fun s => rfl)
  have e3 : iter FU (fun s => m_ref29_Valid_L3 FU f s) (0 : Int) = some (if f.fLangs.all (mde · 3 97 122) = true then .inr () else .inl false) := refset_ok (k := 3) (lo := 97) (hi := 122) h.l (fun s => rfl)
  unfold m_ref29_Valid
  rw [refyears_ok h.y, e2, e3, words_ok h.t, words_ok h.p, words_ok h.e, key_ok h.a, asc_ok h.i.1, asc_ok h.l.1, asc_ok h.p.1, asc_ok h.e.1]
  have c1 : decide (f.fID < 1) = !decide (1 ≤ f.fID) := by rw [← decide_not, decide_eq_decide]; omega
  have c2 : decide (1000000000 < f.fID) = !decide (f.fID ≤ 1000000000) := by rw [← decide_not, decide_eq_decide]; omega
  have c3 : decide ((20 : Int) < (f.fYears.length : Int)) = !decide (f.fYears.length ≤ 20) := by rw [← decide_not, decide_eq_decide]; omega
  have c4 : decide ((20 : Int) < (f.fIsbns.length : Int)) = !decide (f.fIsbns.length ≤ 20) := by rw [← decide_not, decide_eq_decide]; omega
  have c5 : decide ((20 : Int) < (f.fLangs.length : Int)) = !decide (f.fLangs.length ≤ 20) := by rw [← decide_not, decide_eq_decide]; omega
  rw [c1, c2, c3, c4, c5]
  unfold fv
  cases yrs f.fYears with
  | false => simp
  | true =>
    simp only [if_true, Option.bind_some]
    cases f.fIsbns.all (mde · 13 48 57) with
    | false => simp
    | true =>
      simp only [if_true, Option.bind_some]
      cases f.fLangs.all (mde · 3 97 122) with
      | false => simp
      | true =>
        simp only [if_true, Option.bind_some]
        cases decide (f.fYears.length ≤ 20) with
        | false => simp
        | true =>
          cases decide (f.fIsbns.length ≤ 20) with
          | false => simp
          | true =>
            cases decide (f.fLangs.length ≤ 20) with
            | false => simp
            | true =>
              cases decide (1 ≤ f.fID) with
              | false => simp
              | true =>
                cases decide (f.fID ≤ 1000000000) with
                | false => simp
                | true =>
                  simp only [Bool.not_true, Bool.or_self, Bool.false_eq_true, if_false, Bool.true_and, Bool.and_true, Option.bind_some]
                  cases decide (f.fTitle.length ≤ 200) && f.fTitle.all wrd with
                  | false => simp
                  | true =>
                    cases decide (f.fPublisher.length ≤ 200) && f.fPublisher.all wrd with
                    | false => simp
                    | true =>
                      cases decide (f.fEdition.length ≤ 200) && f.fEdition.all wrd with
                      | false => simp
                      | true =>
                        cases aut f.fAuthor with
                        | false => simp
                        | true =>
                          cases asc f.fIsbns with
                          | false => simp
                          | true =>
                            cases asc f.fLangs with
                            | false => simp
                            | true =>
                              cases asc f.fPublisher with
                              | false => simp
                              | true => simp
/-- Records as they come in: small. -/
structure FB (f : SFeatures) : Prop where
  t : f.fTitle.length ≤ 1048576 ∧ ∀ x ∈ f.fTitle, x.length ≤ 1048576
  a : f.fAuthor.length ≤ 1048576
  y : f.fYears.length ≤ 1048576
  i : f.fIsbns.length ≤ 1048576 ∧ ∀ x ∈ f.fIsbns, x.length ≤ 1048576
  l : f.fLangs.length ≤ 1048576 ∧ ∀ x ∈ f.fLangs, x.length ≤ 1048576
  p : f.fPublisher.length ≤ 1048576 ∧ ∀ x ∈ f.fPublisher, x.length ≤ 1048576
  e : f.fEdition.length ≤ 1048576 ∧ ∀ x ∈ f.fEdition, x.length ≤ 1048576
theorem FB.ok {f : SFeatures} (h : FB f) : FOk f := by
  have lt : ∀ {k : Nat}, k ≤ 1048576 → k ≤ ML := fun hk => Nat.le_trans hk (by decide)
  exact ⟨⟨lt h.t.1, fun x hx => lt (h.t.2 x hx)⟩, lt h.a, lt h.y, ⟨lt h.i.1, fun x hx => lt (h.i.2 x hx)⟩, ⟨lt h.l.1, fun x hx => lt (h.l.2 x hx)⟩, ⟨lt h.p.1, fun x hx => lt (h.p.2 x hx)⟩, ⟨lt h.e.1, fun x hx => lt (h.e.2 x hx)⟩⟩
theorem few_ok {f : SFeatures} (h : FB f) : ∃ b, m_ref29_Few FU f = some b := by
  unfold m_ref29_Few
  have h1 := h.t.1; have h2 := h.i.1; have h3 := h.l.1; have h4 := h.p.1; have h5 := h.e.1
  rw [app_eq (by simp; omega) (by simp; omega), Option.bind_some, app_eq (by simp; omega) (by simp; omega), Option.bind_some, app_eq (by simp; omega) (by simp; omega), Option.bind_some, app_eq (by simp; omega) (by simp; omega), Option.bind_some, app_eq (by simp; omega) (by simp; omega), Option.bind_some]
  generalize hL : [f.fAuthor] ++ f.fTitle ++ f.fIsbns ++ f.fLangs ++ f.fPublisher ++ f.fEdition = L
  have hlen : L.length ≤ 10000000 := by rw [← hL]; simp; omega
  obtain ⟨t, e, _⟩ := iter_inv (σ := Int × Int) (f := fun s => m_ref29_Few_L1 FU L s.1 s.2) (I := fun k s => ∃ i : Nat, s.2 = i ∧ i + k = L.length) (Q := fun _ : Bool ⊕ Int => True) (by
    rintro k ⟨s, c⟩ ⟨i, h1, h2⟩
    dsimp only at h1
    subst h1
    simp only [m_ref29_Few_L1]
    by_cases hc : (decide ((i : Int) < (L.length : Int)) && decide ((i : Int) < 300)) = true
    · rw [if_pos hc]
      simp only [Bool.and_eq_true, decide_eq_true_eq] at hc
      rw [ix_get [] (by omega), Option.bind_some]
      by_cases hq : decide ((110 : Int) < ((L.getD i []).length : Int)) = true
      · right; rw [if_pos hq]; exact ⟨_, rfl, trivial⟩
      · left
        rw [if_neg hq, Option.bind_some, w64 (x := (i : Int) + 1) (by omega) (by omega)]
        exact ⟨_, k - 1, rfl, by omega, i + 1, by simp, by omega⟩
    · right; rw [if_neg hc]; exact ⟨_, rfl, trivial⟩) L.length FU ((0 : Int), (0 : Int)) ⟨0, rfl, by omega⟩ (by simp only [FU]; omega)
  rw [e]
  cases t with
  | inl b => exact ⟨b, rfl⟩
  | inr u => exact ⟨_, rfl⟩
end
end Go.Proofs.YtgcmhhcopeiomaaGreat.Ab
