/- Plain laws on the loops of the plain language. Loops; the reference's way to write a number. The lines of an outcome by the model of works, both ways. The law of printed evidence, in plain Lean. Conditions: none. -/
import Derived.Test.YtindppnanjcoaaaGreatDoorIj
import Derived.Test.YtindppnanjcoaaaGreatDoorMi
import Derived.Test.YtindppnanjcoaaaGreatDoorOk
section
namespace Go.Proofs.YtindppnanjcoaaaGreatDoor.Ab
open Go

/-- Enough fuel for every loop over a list. -/
abbrev FU : Nat := 18446744073709551616
abbrev ML : Nat := 9223372036854775807

theorem wadd1 {i m : Nat} (h : i < m) (hm : m ≤ ML) : IntKind.i64.wrap ((i : Int) + 1) = ((i + 1 : Nat) : Int) := by
  rw [w64 (by omega) (by simp only [ML] at hm; omega)]; rfl
theorem ix_get {α : Type} {l : List α} {i : Nat} (d : α) (h : i < l.length) : ix l (i : Int) = some (l.getD i d) := by
  simp [ix, h]
/-- Rounds that go on up to some one, which ends the loop. -/
theorem iter_to {σ τ : Type} {f : σ → Option (σ ⊕ τ)} {t : τ} (st : Nat → σ) : ∀ (m n : Nat) (s0 : σ), (∀ j, j < m → f (st j) = some (.inl (st (j + 1)))) → f (st m) = some (.inr t) → m < n → s0 = st 0 → iter n f s0 = some t
  | 0, n + 1, s0, _, he, _, h0 => by subst h0; simp [iter, he]
  | m + 1, n + 1, s0, hs, he, hn, h0 => by
    subst h0
    rw [iter, hs 0 (by omega)]
    exact iter_to (fun j => st (j + 1)) m n _ (fun j hj => hs (j + 1) (by omega)) he (by omega) rfl
  | m, 0, s0, _, _, hn, _ => by omega

/-- Whether some number below has a property: a loop that looks for it. -/
theorem iter_scan {ρ : Type} {f : Int → Option (Int ⊕ ρ)} (m : Nat) (bad : Nat → Bool) (tb : Nat → ρ) (te : ρ) : ∀ (k j n : Nat) (s0 : Int), j + k = m →
    (∀ j, j < m → f (j : Int) = some (if bad j = true then .inr (tb j) else .inl ((j + 1 : Nat) : Int))) → f (m : Int) = some (.inr te) → k < n → s0 = (j : Int) →
    (∃ i, j ≤ i ∧ i < m ∧ bad i = true ∧ (∀ h, j ≤ h → h < i → bad h = false) ∧ iter n f s0 = some (tb i)) ∨ ((∀ i, j ≤ i → i < m → bad i = false) ∧ iter n f s0 = some te)
  | 0, j, n + 1, s0, hjk, _, he, _, h0 => by
    obtain rfl : j = m := by omega
    subst h0; exact .inr ⟨fun i h1 h2 => by omega, by simp [iter, he]⟩
  | k + 1, j, n + 1, s0, hjk, hf, he, hn, h0 => by
    subst h0
    rw [iter, hf j (by omega)]
    cases hb : bad j with
    | true => exact .inl ⟨j, by omega, by omega, hb, fun h h1 h2 => by omega, rfl⟩
    | false =>
      rcases iter_scan m bad tb te k (j + 1) n _ (by omega) hf he (by omega) rfl with ⟨i, h1, h2, h3, h4, h5⟩ | ⟨h1, h2⟩
      · exact .inl ⟨i, by omega, h2, h3, fun h q1 q2 => if hh : h = j then hh ▸ hb else h4 h (by omega) q2, h5⟩
      · exact .inr ⟨fun i q1 q2 => if hh : i = j then hh ▸ hb else h1 i (by omega) q2, h2⟩
  | k, j, 0, s0, _, _, _, hn, _ => by omega
def anyN (m : Nat) (p : Nat → Bool) : Bool := (List.range m).any p
theorem anyN_t {m : Nat} {p : Nat → Bool} : anyN m p = true ↔ ∃ i, i < m ∧ p i = true := by simp [anyN]
theorem anyN_f {m : Nat} {p : Nat → Bool} : anyN m p = false ↔ ∀ i, i < m → p i = false := by simp [anyN]
/-- The same where what comes out does not tell the place. -/
theorem iter_any {ρ : Type} {f : Int → Option (Int ⊕ ρ)} (m n : Nat) (bad : Nat → Bool) (tb te : ρ)
    (hf : ∀ j, j < m → f (j : Int) = some (if bad j = true then .inr tb else .inl ((j + 1 : Nat) : Int))) (he : f (m : Int) = some (.inr te)) (hn : m < n) :
    iter n f 0 = some (if anyN m bad = true then tb else te) := by
  rcases iter_scan m bad (fun _ => tb) te m 0 n 0 (by omega) hf he hn rfl with ⟨i, _, h2, h3, _, h5⟩ | ⟨h1, h2⟩
  · rw [h5, if_pos (anyN_t.2 ⟨i, h2, h3⟩)]
  · rw [h2, if_neg (by rw [anyN_f.2 (fun i hi => h1 i (by omega) hi)]; decide)]
theorem app_one {α : Type} {b : Nat} {l : List α} {x : α} (h : (l.length + 1) * b ≤ 140737488355328) (hb : l.length + 1 ≤ 4611686018427387904) : app b l [x] = some (l ++ [x]) := by
  unfold app; rw [if_pos ⟨h, hb⟩]
end Go.Proofs.YtindppnanjcoaaaGreatDoor.Ab
end
section
namespace Go.Proofs.YtindppnanjcoaaaGreatDoor.Ab.U
open Go

theorem ixL {α : Type} {l : List α} {j : Nat} (h : j < l.length) : ix l (j : Int) = some l[j] := by simp [ix, h]
theorem take_snocL {α : Type} {l : List α} {j : Nat} (h : j < l.length) : l.take (j + 1) = l.take j ++ [l[j]] := by
  rw [List.take_add_one]; simp [h]
/-- Two loops that go the same way. -/
theorem iter_two {σ τ τ' : Type} {f : σ → Option (σ ⊕ τ)} {g : σ → Option (σ ⊕ τ')} (I : Nat → σ → Prop) (Q : τ → τ' → Prop) (m : Nat)
    (h : ∀ k s, k ≤ m → I k s → (∃ s', f s = some (.inl s') ∧ g s = some (.inl s') ∧ k < m ∧ I (k + 1) s') ∨ (∃ t t', f s = some (.inr t) ∧ g s = some (.inr t') ∧ Q t t')) {s0 : σ} (h0 : I 0 s0) (hm : m < FU) :
    ∃ t t', iter FU f s0 = some t ∧ iter FU g s0 = some t' ∧ Q t t' := by
  have key : ∀ (j n k : Nat) (s : σ), j + k = m → I k s → j < n → ∃ t t', iter n f s = some t ∧ iter n g s = some t' ∧ Q t t' := by
    intro j
    induction j with
    | zero =>
      intro n k s hk hI hn
      obtain ⟨n, rfl⟩ : ∃ q, n = q + 1 := ⟨n - 1, by omega⟩
      rcases h k s (by omega) hI with ⟨s', -, -, h3, -⟩ | ⟨t, t', h1, h2, h3⟩
      · omega
      · exact ⟨t, t', by rw [iter, h1]; rfl, by rw [iter, h2]; rfl, h3⟩
    | succ j ih =>
      intro n k s hk hI hn
      obtain ⟨n, rfl⟩ : ∃ q, n = q + 1 := ⟨n - 1, by omega⟩
      rcases h k s (by omega) hI with ⟨s', h1, h2, h3, h4⟩ | ⟨t, t', h1, h2, h3⟩
      · obtain ⟨t, t', e1, e2, e3⟩ := ih n (k + 1) s' (by omega) h4 (by omega)
        exact ⟨t, t', by rw [iter, h1]; exact e1, by rw [iter, h2]; exact e2, e3⟩
      · exact ⟨t, t', by rw [iter, h1]; rfl, by rw [iter, h2]; rfl, h3⟩
  exact key m FU 0 s0 (by omega) h0 hm
theorem iter_one {σ τ : Type} {f : σ → Option (σ ⊕ τ)} (I : Nat → σ → Prop) (Q : τ → Prop) (m : Nat)
    (h : ∀ k s, k ≤ m → I k s → (∃ s', f s = some (.inl s') ∧ k < m ∧ I (k + 1) s') ∨ (∃ t, f s = some (.inr t) ∧ Q t)) {s0 : σ} (h0 : I 0 s0) (hm : m < FU) : ∃ t, iter FU f s0 = some t ∧ Q t := by
  obtain ⟨t, t', h1, -, h2⟩ := iter_two (f := f) (g := f) I (fun t _ => Q t) m (fun k s hk hI => (h k s hk hI).imp (fun ⟨s', a, b, c⟩ => ⟨s', a, a, b, c⟩) (fun ⟨t, a, b⟩ => ⟨t, t, a, a, b⟩)) h0 hm
  exact ⟨t, h1, h2⟩
theorem appS_some {a b : List UInt8} (h : a.length + b.length ≤ 1000000) : appS a b = some (a ++ b) := by
  unfold appS; rw [if_pos (by omega)]

/-! ### numbers -/
theorem digit : ∀ d : Nat, d < 10 → textL [IntKind.u8.wrap (IntKind.i64.wrap ((48 : Int) + (d : Int)))] = [UInt8.ofNat (48 + d)] := by decide +kernel
theorem digs_small {u : Nat} (h : u < 10) : Lib.decDigits u = [UInt8.ofNat (48 + u)] := by rw [Lib.decDigits, dif_pos h]
theorem digs_big {u : Nat} (h : ¬ u < 10) : Lib.decDigits u = Lib.decDigits (u / 10) ++ [UInt8.ofNat (48 + u % 10)] := by rw [Lib.decDigits, dif_neg h]
theorem dec_R {n k : Nat} {a : Int} : m_ref36_decimal_R n (k + 1) a = m_ref36_decimal_B n (m_ref36_decimal_R n k) a := rfl
theorem dec_small {n k u : Nat} (h : u < 10) : m_ref36_decimal_R n (k + 1) (u : Int) = some [UInt8.ofNat (48 + u)] := by
  rw [dec_R]
  unfold m_ref36_decimal_B
  rw [if_neg (by simp), if_pos (decide_eq_true (by omega)), digit u h]
theorem quo10 {u : Nat} (h : u ≤ 9223372036854775808) : quo .i64 (u : Int) 10 = some ((u / 10 : Nat) : Int) := by
  unfold quo
  have : ((u : Int)).tdiv 10 = ((u / 10 : Nat) : Int) := by rw [Int.tdiv_eq_ediv_of_nonneg (by omega)]; omega
  rw [if_neg (by decide), this, w64 (by omega) (by omega)]
theorem rem10 {u : Nat} : rem (u : Int) 10 = some ((u % 10 : Nat) : Int) := by
  unfold rem
  have : ((u : Int)).tmod 10 = ((u % 10 : Nat) : Int) := by rw [Int.tmod_eq_emod_of_nonneg (by omega)]; omega
  rw [if_neg (by decide), this]
theorem dec_nat {n : Nat} : ∀ (j k u : Nat), u < 10 ^ (j + 1) → j ≤ 30 → j ≤ k → u ≤ 9223372036854775807 → m_ref36_decimal_R n (k + 1) (u : Int) = some (Lib.decDigits u) ∧ (Lib.decDigits u).length ≤ j + 1
  | 0, k, u, h, _, _, _ => by
    have hu : u < 10 := by simpa using h
    rw [dec_small hu, digs_small hu]; exact ⟨rfl, by simp⟩
  | j + 1, k, u, h, hj, hk, hu => by
    by_cases hs : u < 10
    · rw [dec_small hs, digs_small hs]; exact ⟨rfl, by simp⟩
    · obtain ⟨k, rfl⟩ : ∃ q, k = q + 1 := ⟨k - 1, by omega⟩
      obtain ⟨h1, h2⟩ := dec_nat (n := n) j k (u / 10) (by rw [Nat.pow_succ] at h; omega) (by omega) (by omega) (by omega)
      have h3 := dec_small (n := n) (k := k) (u := u % 10) (by omega)
      rw [digs_big hs, dec_R]
      unfold m_ref36_decimal_B
      rw [if_neg (by simp), if_neg (by simp; omega), quo10 (by omega), Option.bind_some, h1, Option.bind_some, rem10, Option.bind_some, h3, Option.bind_some, appS_some (by simp; omega)]
      exact ⟨rfl, by simp; omega⟩
theorem dec_neg {n k m : Nat} (h0 : 0 < m) (h : m ≤ 9223372036854775808) (hk : 20 ≤ k) : m_ref36_decimal_R n (k + 1 + 1) (-(m : Int)) = some (45 :: Lib.decDigits m) ∧ (Lib.decDigits m).length ≤ 20 := by
  rw [dec_R]
  unfold m_ref36_decimal_B
  rw [if_pos (by simp; omega)]
  by_cases hs : m < 10
  · rw [if_neg (by simp; omega), Int.neg_neg, w64 (by omega) (by omega), dec_small hs, digs_small hs]
    exact ⟨rfl, by simp⟩
  · have hq : quo .i64 (-(m : Int)) 10 = some (-((m / 10 : Nat) : Int)) := by
      unfold quo
      have : (-(m : Int)).tdiv 10 = -((m / 10 : Nat) : Int) := by rw [Int.neg_tdiv, Int.tdiv_eq_ediv_of_nonneg (by omega)]; omega
      rw [if_neg (by decide), this, w64 (by omega) (by omega)]
    have hr : rem (-(m : Int)) 10 = some (-((m % 10 : Nat) : Int)) := by
      unfold rem
      have : (-(m : Int)).tmod 10 = -((m % 10 : Nat) : Int) := by rw [Int.neg_tmod, Int.tmod_eq_emod_of_nonneg (by omega)]; omega
      rw [if_neg (by decide), this]
    obtain ⟨h1, h2⟩ := dec_nat (n := n) 18 k (m / 10) (by omega) (by omega) (by omega) (by omega)
    have h3 := dec_small (n := n) (k := k) (u := m % 10) (by omega)
    rw [if_pos (by simp; omega), hq, Option.bind_some, Int.neg_neg, w64 (by omega) (by omega), h1, Option.bind_some, appS_some (by simp; omega), Option.bind_some, hr, Option.bind_some, Int.neg_neg, w64 (by omega) (by omega), h3, Option.bind_some, appS_some (by simp; omega), digs_big hs]
    exact ⟨by simp, by simp; omega⟩
theorem dec_ok {a : Int} (h1 : -9223372036854775808 ≤ a) (h2 : a ≤ 9223372036854775807) : m_ref36_decimal FU a = some (Lib.itoa a) ∧ (Lib.itoa a).length ≤ 21 := by
  unfold m_ref36_decimal Lib.itoa
  by_cases hn : a < 0
  · obtain ⟨m, hm⟩ : ∃ m : Nat, a = -(m : Int) := ⟨a.natAbs, by omega⟩
    subst hm
    rw [if_pos hn, Int.natAbs_neg, Int.natAbs_natCast]
    obtain ⟨e1, e2⟩ := dec_neg (n := FU) (k := 18446744073709551614) (m := m) (by omega) (by omega) (by omega)
    exact ⟨e1, by simp; omega⟩
  · obtain ⟨m, hm⟩ : ∃ m : Nat, a = (m : Int) := ⟨a.toNat, by omega⟩
    subst hm
    rw [if_neg hn, Int.toNat_natCast]
    obtain ⟨e1, e2⟩ := dec_nat (n := FU) 19 18446744073709551615 m (by omega) (by omega) (by omega) (by omega)
    exact ⟨e1, by omega⟩
theorem itoa_ok {a : Int} (h1 : -9223372036854775808 ≤ a) (h2 : a ≤ 9223372036854775807) : itoaM a = some (Lib.itoa a) := by
  unfold itoaM; rw [if_pos ⟨h1, h2⟩]
end Go.Proofs.YtindppnanjcoaaaGreatDoor.Ab.U
end
section
namespace Go.Proofs.YtindppnanjcoaaaGreatDoor.Ab.U
open Go

/-- The model of works. -/
def WK : A7 := ⟨⟨⟨20, 1⟩, ⟨6, 1⟩, ⟨1, 12⟩⟩, ⟨⟨12, 1⟩, ⟨4, 1⟩, ⟨1, 20⟩⟩, ⟨⟨2, 1⟩, ⟨3, 2⟩, ⟨4, 5⟩⟩, ⟨⟨100, 1⟩, ⟨1, 1⟩, ⟨3, 4⟩⟩, ⟨⟨3, 2⟩, ⟨1, 1⟩, ⟨1, 2⟩⟩, ⟨⟨6, 5⟩, ⟨1, 1⟩, ⟨9, 10⟩⟩, ⟨⟨1, 1⟩, ⟨1, 1⟩, ⟨1, 1⟩⟩⟩
theorem works_ok : m_match_Works FU = some WK := by decide +kernel
theorem rworks_ok : m_ref31_Works FU = some WK := by decide +kernel
theorem valid_ok : m_match_Valid FU WK = some true := by decide +kernel
theorem rvalid_ok : m_ref31_Valid FU WK = some true := by decide +kernel

def badO (x : Int) : Bool := decide (x < 0) || decide (3 < x)
def oin (o : A73) : Bool := !o.l.any badO
theorem oin_at {o : A73} (h : oin o = true) {i : Nat} (hi : i < 7) : 0 ≤ o.l.getD i 0 ∧ o.l.getD i 0 ≤ 3 := by
  have hl : i < o.l.length := by simpa [A73.l] using hi
  have h2 : o.l.any badO = false := by simpa [oin] using h
  have := List.any_eq_false.1 h2 (o.l.getD i 0) (by simp [hl])
  simp [badO] at this
  simpa using this
theorem getD_mem {α : Type} {l : List α} {k : Nat} {d : α} (h : k < l.length) : l.getD k d ∈ l := by simp [h]
theorem olen (o : A73) : o.l.length = 7 := rfl
theorem oix {o : A73} {i : Nat} (h : i < 7) : ix o.l (i : Int) = some (o.l.getD i 0) := ix_get 0 (by rw [olen]; exact h)
theorem wix {i : Nat} (h : i < 7) : ix WK.l (i : Int) = some (WK.l.getD i default) := ix_get default (by exact h)

theorem contains_ok (o : A73) : m_slices_ContainsFunc_int_int FU o.l (fun y1 => m_match_Factors_1 FU y1) = some (!oin o) := by
  unfold m_slices_ContainsFunc_int_int m_slices_IndexFunc_int_int oin
  rw [Bool.not_not]
  have ho := olen o
  rcases iter_scan (f := fun s => m_slices_IndexFunc_int_int_L1 FU o.l (fun y1 => m_match_Factors_1 FU y1) s) o.l.length (fun j => badO (o.l.getD j 0)) (fun j => .inl (j : Int)) (.inr ()) o.l.length 0 FU 0 (by omega) (fun j hj => by
    simp only [m_slices_IndexFunc_int_int_L1, m_match_Factors_1]
    rw [if_pos (decide_eq_true (by omega)), ix_get 0 hj, Option.bind_some, Option.bind_some, wadd1 hj (by simp only [ML]; omega)]
    unfold badO
    split <;> rfl) (by simp [m_slices_IndexFunc_int_int_L1]) (by simp only [FU]; omega) rfl with ⟨i, _, h2, h3, _, h5⟩ | ⟨h1, h2⟩
  · rw [h5]
    simp only [Option.bind_some]
    have : o.l.any badO = true := List.any_eq_true.2 ⟨o.l.getD i 0, getD_mem h2, h3⟩
    rw [decide_eq_true (by omega), this]
  · rw [h2]
    simp only [Option.bind_some]
    have : o.l.any badO = false := List.any_eq_false.2 fun x hx => by
      obtain ⟨i, hi, rfl⟩ := List.getElem_of_mem hx
      have := h1 i (by omega) hi
      simp [hi] at this
      simp [this]
    rw [decide_eq_false (by omega), this]

theorem three {x : Int} (h1 : 0 ≤ x) (h2 : x ≤ 3) (h0 : ¬ x = 0) {r : A3} : ∃ y, ix r.l (IntKind.i64.wrap (x - 1)) = some y := by
  rw [w64 (by omega) (by omega)]
  obtain ⟨k, hk⟩ : ∃ k : Nat, x - 1 = (k : Int) := ⟨(x - 1).toNat, by omega⟩
  rw [hk]
  exact ⟨_, ix_get default (by show k < 3; omega)⟩
theorem factors_ok (o : A73) : ∃ l, m_match_Factors FU WK o = some (l, if oin o = true then 0 else 1) := by
  unfold m_match_Factors
  rw [valid_ok, Option.bind_some, contains_ok]
  cases ho : oin o with
  | false => exact ⟨[], rfl⟩
  | true =>
    simp only [Bool.not_true, Bool.not_false, if_true, Option.bind_some, Bool.or_self, Bool.false_eq_true, if_false]
    obtain ⟨t, h1, -⟩ := iter_one (f := fun s => m_match_Factors_L1 FU WK o s.1 s.2) (s0 := (([] : List SRatio), (0 : Int))) (fun k s => s.2 = (k : Int) ∧ s.1.length ≤ k) (fun _ => True) 7 (fun k s hk ⟨h1, h2⟩ => by
      obtain ⟨l, c⟩ := s
      dsimp only at h1 h2
      subst h1
      simp only [m_match_Factors_L1]
      by_cases h7 : k = 7
      · right
        rw [if_neg (by simp; omega)]
        exact ⟨_, rfl, trivial⟩
      · left
        have hk' : k < 7 := by omega
        obtain ⟨b1, b2⟩ := oin_at ho hk'
        rw [if_pos (decide_eq_true (by omega)), oix hk', Option.bind_some, wix hk', wadd1 hk' (by decide)]
        by_cases hz : o.l.getD k 0 = 0
        · rw [if_neg (by rw [hz]; decide)]
          exact ⟨_, rfl, hk', rfl, by dsimp only; omega⟩
        · obtain ⟨y, hy⟩ := three b1 b2 hz (r := WK.l.getD k default)
          rw [if_pos (by simp only [hz, decide_false, Bool.not_false]), Option.bind_some, hy, Option.bind_some, app_one (by omega) (by omega)]
          exact ⟨_, rfl, hk', rfl, by simp; omega⟩) ⟨rfl, Nat.le_refl _⟩ (by decide)
    rw [h1]
    exact ⟨t, rfl⟩
theorem rfactors_ok (o : A73) : ∃ l, m_ref31_Factors FU WK o = some (l, if oin o = true then 0 else 1) := by
  unfold m_ref31_Factors
  rw [rvalid_ok, Option.bind_some]
  simp only [Bool.not_true, Bool.false_eq_true, if_false]
  obtain ⟨t, h1, h2⟩ := iter_one (f := fun s => m_ref31_Factors_L1 FU WK o s.1 s.2) (s0 := (([] : List SRatio), (0 : Int))) (fun k s => s.2 = (k : Int) ∧ s.1.length ≤ k ∧ ∀ i, i < k → badO (o.l.getD i 0) = false)
    (fun t => (t = .inl ([], 1) ∧ oin o = false) ∨ (∃ l, t = .inr l ∧ oin o = true)) 7 (fun k s hk ⟨h1, h2, h3⟩ => by
      obtain ⟨l, c⟩ := s
      dsimp only at h1 h2
      subst h1
      simp only [m_ref31_Factors_L1]
      by_cases h7 : k = 7
      · right
        rw [if_neg (by simp; omega)]
        refine ⟨_, rfl, .inr ⟨_, rfl, ?_⟩⟩
        unfold oin
        rw [List.any_eq_false.2 (fun x hx => ?_)]; rfl
        obtain ⟨i, hi, rfl⟩ := List.getElem_of_mem hx
        have := h3 i (by rw [olen] at hi; omega)
        simp [hi] at this
        simp [this]
      · have hk' : k < 7 := by omega
        rw [if_pos (decide_eq_true (by omega)), oix hk', Option.bind_some, wix hk', wadd1 hk' (by decide)]
        have hb : ((if (!(decide (o.l.getD k 0 < (0 : Int)))) = true then some (o.l.getD k 0) else some default) : Option Int) = some (if (!(decide (o.l.getD k 0 < (0 : Int)))) = true then o.l.getD k 0 else default) := by split <;> rfl
        have hb2 : (decide (o.l.getD k 0 < 0) || decide ((3 : Int) < (if (!(decide (o.l.getD k 0 < (0 : Int)))) = true then o.l.getD k 0 else default))) = badO (o.l.getD k 0) := by
          unfold badO
          by_cases h : o.l.getD k 0 < 0
          · rw [decide_eq_true h]; rfl
          · rw [decide_eq_false h]; rfl
        rw [hb, Option.bind_some, hb2]
        cases hbad : badO (o.l.getD k 0) with
        | true =>
          right
          refine ⟨_, rfl, .inl ⟨rfl, ?_⟩⟩
          unfold oin
          rw [List.any_eq_true.2 ⟨o.l.getD k 0, getD_mem (by rw [olen]; exact hk'), hbad⟩]; rfl
        | false =>
          left
          have b : 0 ≤ o.l.getD k 0 ∧ o.l.getD k 0 ≤ 3 := by
            unfold badO at hbad
            simp only [Bool.or_eq_false_iff, decide_eq_false_iff_not] at hbad
            omega
          have h3' : ∀ i, i < k + 1 → badO (o.l.getD i 0) = false := fun i hi => if e : i = k then e ▸ hbad else h3 i (by omega)
          rw [if_neg (by simp), Option.bind_some]
          by_cases hz : o.l.getD k 0 = 0
          · rw [if_neg (by rw [hz]; decide)]
            exact ⟨_, rfl, hk', rfl, by dsimp only; omega, h3'⟩
          · obtain ⟨y, hy⟩ := three b.1 b.2 hz (r := WK.l.getD k default)
            rw [if_pos (by simp only [hz, decide_false, Bool.not_false]), Option.bind_some, Option.bind_some, hy, Option.bind_some, app_one (by omega) (by omega)]
            exact ⟨_, rfl, hk', rfl, by simp; omega, h3'⟩) ⟨rfl, Nat.le_refl _, fun i hi => absurd hi (Nat.not_lt_zero _)⟩ (by decide)
  rw [h1]
  rcases h2 with ⟨rfl, h2⟩ | ⟨l, rfl, h2⟩
  · rw [h2]; exact ⟨_, rfl⟩
  · rw [h2]; exact ⟨_, rfl⟩

/-! ### the lines -/
def pl (x i : Int) : Option (List UInt8) :=
  (ix WK.l i).bind fun v7 =>
  (ix v7.l (IntKind.i64.wrap (x - (1 : Int)))).bind fun v8 =>
  (ix (⟨([116, 105, 116, 108, 101] : List UInt8), ([97, 117, 116, 104, 111, 114] : List UInt8), ([121, 101, 97, 114] : List UInt8), ([105, 115, 98, 110] : List UInt8), ([108, 97, 110, 103, 117, 97, 103, 101] : List UInt8), ([112, 117, 98, 108, 105, 115, 104, 101, 114] : List UInt8), ([101, 100, 105, 116, 105, 111, 110] : List UInt8)⟩ : A74).l i).bind fun v9 =>
  (appS v9 ([32] : List UInt8)).bind fun v10 =>
  (ix (⟨([] : List UInt8), ([97, 103, 114, 101, 101, 115] : List UInt8), ([110, 101, 97, 114] : List UInt8), ([100, 105, 102, 102, 101, 114, 115] : List UInt8)⟩ : A4).l x).bind fun v11 =>
  (appS v10 v11).bind fun v12 =>
  (appS v12 ([32] : List UInt8)).bind fun v13 =>
  (itoaM v8.fNum).bind fun v14 =>
  (appS v13 v14).bind fun v15 =>
  (appS v15 ([47] : List UInt8)).bind fun v16 =>
  (itoaM v8.fDen).bind fun v17 =>
  (appS v16 v17)
def rl (x i : Int) : Option (List UInt8) :=
  (ix WK.l i).bind fun v8 =>
  (ix v8.l (IntKind.i64.wrap (x - (1 : Int)))).bind fun v9 =>
  (m_ref31_name FU i).bind fun v10 =>
  (m_ref31_verb FU x).bind fun v12 =>
  (appS v10 v12).bind fun v13 =>
  (m_ref31_decimal FU v9.fNum).bind fun v14 =>
  (appS v13 v14).bind fun v15 =>
  (appS v15 ([47] : List UInt8)).bind fun v16 =>
  (m_ref31_decimal FU v9.fDen).bind fun v17 =>
  (appS v16 v17)
def linesB (x i : Nat) : Bool := match pl x i, rl x i with | some a, some b => decide (a = b) && decide (a.length ≤ 40) | _, _ => false
theorem lines_all : ∀ i : Nat, i < 7 → ∀ x : Nat, x < 4 → 0 < x → linesB x i = true := by decide +kernel
theorem lines_ok {i : Nat} (hi : i < 7) {x : Int} (h1 : 0 ≤ x) (h2 : x ≤ 3) (h0 : ¬ x = 0) : ∃ l, pl x i = some l ∧ rl x i = some l ∧ l.length ≤ 40 := by
  obtain ⟨y, rfl⟩ : ∃ y : Nat, x = (y : Int) := ⟨x.toNat, by omega⟩
  have h := lines_all i hi y (by omega) (by omega)
  unfold linesB at h
  split at h
  · rename_i a b ha hb
    simp only [Bool.and_eq_true, decide_eq_true_eq] at h
    obtain ⟨rfl, h⟩ := h
    exact ⟨a, ha, hb, h⟩
  · cases h

theorem explain_loop {o : A73} (ho : oin o = true) : ∃ t, iter FU (fun s => m_match_Explain_L1 FU WK o s.1 s.2) (([] : List (List UInt8)), (0 : Int)) = some t ∧ iter FU (fun s => m_ref31_Explain_L1 FU WK o s.1 s.2) (([] : List (List UInt8)), (0 : Int)) = some t ∧ t.length ≤ 7 ∧ ∀ y ∈ t, y.length ≤ 40 := by
  obtain ⟨t, t', h1, h2, rfl, h3⟩ := iter_two (f := fun s => m_match_Explain_L1 FU WK o s.1 s.2) (g := fun s => m_ref31_Explain_L1 FU WK o s.1 s.2) (s0 := (([] : List (List UInt8)), (0 : Int))) (fun k s => s.2 = (k : Int) ∧ s.1.length ≤ k ∧ ∀ y ∈ s.1, y.length ≤ 40)
    (fun t t' => t = t' ∧ t.length ≤ 7 ∧ ∀ y ∈ t, y.length ≤ 40) 7 (fun k s hk ⟨h1, h2, h3⟩ => by
      obtain ⟨l, c⟩ := s
      dsimp only at h1 h2 h3
      subst h1
      simp only [m_match_Explain_L1, m_ref31_Explain_L1]
      by_cases h7 : k = 7
      · right
        rw [if_neg (by simp; omega), if_neg (by simp; omega)]
        exact ⟨_, _, rfl, rfl, rfl, by omega, h3⟩
      · left
        have hk' : k < 7 := by omega
        obtain ⟨b1, b2⟩ := oin_at ho hk'
        rw [if_pos (decide_eq_true (by omega)), if_pos (decide_eq_true (by omega)), oix hk', Option.bind_some, Option.bind_some, wadd1 hk' (by decide)]
        generalize o.l.getD k 0 = x at *
        by_cases hz : x = 0
        · rw [if_neg (by rw [hz]; decide), if_neg (by rw [hz]; decide)]
          exact ⟨_, rfl, rfl, hk', rfl, by dsimp only; omega, h3⟩
        · obtain ⟨r, p1, p2, p3⟩ := lines_ok hk' b1 b2 hz
          have hne : (!decide (x = 0)) = true := by simp [hz]
          have e1 : ((ix WK.l (k : Int)).bind fun v7 =>
        (ix v7.l (IntKind.i64.wrap (x - (1 : Int)))).bind fun v8 =>
        (ix (⟨([116, 105, 116, 108, 101] : List UInt8), ([97, 117, 116, 104, 111, 114] : List UInt8), ([121, 101, 97, 114] : List UInt8), ([105, 115, 98, 110] : List UInt8), ([108, 97, 110, 103, 117, 97, 103, 101] : List UInt8), ([112, 117, 98, 108, 105, 115, 104, 101, 114] : List UInt8), ([101, 100, 105, 116, 105, 111, 110] : List UInt8)⟩ : A74).l (k : Int)).bind fun v9 =>
        (appS v9 ([32] : List UInt8)).bind fun v10 =>
        (ix (⟨([] : List UInt8), ([97, 103, 114, 101, 101, 115] : List UInt8), ([110, 101, 97, 114] : List UInt8), ([100, 105, 102, 102, 101, 114, 115] : List UInt8)⟩ : A4).l x).bind fun v11 =>
        (appS v10 v11).bind fun v12 =>
        (appS v12 ([32] : List UInt8)).bind fun v13 =>
        (itoaM v8.fNum).bind fun v14 =>
        (appS v13 v14).bind fun v15 =>
        (appS v15 ([47] : List UInt8)).bind fun v16 =>
        (itoaM v8.fDen).bind fun v17 =>
        (appS v16 v17).bind fun v18 =>
        (app 16 l ([v18] : List (List UInt8))).bind fun v19 =>
        some v19) = (pl x k).bind fun v18 => (app 16 l ([v18] : List (List UInt8))).bind fun v19 => some v19 := by
            unfold pl; simp only [Option.bind_assoc]
          have e2 : ((ix WK.l (k : Int)).bind fun v8 =>
        (ix v8.l (IntKind.i64.wrap (x - (1 : Int)))).bind fun v9 =>
        (m_ref31_name FU (k : Int)).bind fun v10 =>
        (some x : Option Int).bind fun v11 =>
        (m_ref31_verb FU v11).bind fun v12 =>
        (appS v10 v12).bind fun v13 =>
        (m_ref31_decimal FU v9.fNum).bind fun v14 =>
        (appS v13 v14).bind fun v15 =>
        (appS v15 ([47] : List UInt8)).bind fun v16 =>
        (m_ref31_decimal FU v9.fDen).bind fun v17 =>
        (appS v16 v17).bind fun v18 =>
        (app 16 l ([v18] : List (List UInt8))).bind fun v19 =>
        some v19) = (rl x k).bind fun v18 => (app 16 l ([v18] : List (List UInt8))).bind fun v19 => some v19 := by
            unfold rl; simp only [Option.bind_assoc, Option.bind_some]
          rw [if_pos hne, if_pos hne, e1, Option.bind_some, e2, p1, p2, Option.bind_some, app_one (by omega) (by omega)]
          refine ⟨_, rfl, rfl, hk', rfl, by simp; omega, fun y hy => ?_⟩
          rcases List.mem_append.1 hy with hy | hy
          · exact h3 y hy
          · rw [List.mem_singleton.1 hy]; exact p3) ⟨rfl, Nat.le_refl _, fun y hy => by cases hy⟩ (by decide)
  exact ⟨t, h1, h2, h3⟩
theorem explains (o : A73) : ∃ t e, m_match_Explain FU WK o = some (t, e) ∧ m_ref31_Explain FU WK o = some (t, e) ∧ t.length ≤ 7 ∧ (∀ y ∈ t, y.length ≤ 40) ∧ (e = 0 ∨ t = [] ∧ e = 1) := by
  unfold m_match_Explain m_ref31_Explain
  obtain ⟨l1, h1⟩ := factors_ok o
  obtain ⟨l2, h2⟩ := rfactors_ok o
  rw [h1, h2, Option.bind_some, Option.bind_some]
  cases ho : oin o with
  | false => exact ⟨[], 1, rfl, rfl, Nat.zero_le _, fun y hy => (List.not_mem_nil hy).elim, .inr ⟨rfl, rfl⟩⟩
  | true =>
    obtain ⟨t, e1, e2, e3, e4⟩ := explain_loop ho
    refine ⟨t, 0, ?_, ?_, e3, e4, .inl rfl⟩
    · rw [if_neg (by simp), e1]; rfl
    · rw [if_neg (by simp), e2]; rfl
end Go.Proofs.YtindppnanjcoaaaGreatDoor.Ab.U
end
section
namespace Go.Proofs.YtindppnanjcoaaaGreatDoor.Ab.U
open Go

theorem i64_in {x : Int} (h : (Lit.int .i64 x).wf = true) : -9223372036854775808 ≤ x ∧ x ≤ 9223372036854775807 := by
  simp [Lit.wf, IntKind.min, IntKind.max, IntKind.signed, IntKind.bits] at h; omega

/-! ### lines joined -/
theorem tail_len {sep : List UInt8} {c : Nat} : ∀ {r : List (List UInt8)}, (∀ y ∈ r, y.length ≤ c) → (Lib.joinTail sep r).length ≤ r.length * (sep.length + c)
  | [], _ => by simp [Lib.joinTail]
  | x :: r, h => by
    have h1 := tail_len (sep := sep) (r := r) fun y hy => h y (List.mem_cons_of_mem _ hy)
    have h2 := h x List.mem_cons_self
    unfold Lib.joinTail at h1 ⊢
    rw [List.map_cons, List.flatten_cons, List.length_append, List.length_append, List.length_cons, Nat.add_mul]
    omega
theorem join_len {sep : List UInt8} {c : Nat} {t : List (List UInt8)} (h : ∀ y ∈ t, y.length ≤ c) : (Lib.join t sep).length ≤ t.length * (sep.length + c) := by
  cases t with
  | nil => simp [Lib.join_nil]
  | cons x r =>
    have h1 := tail_len (sep := sep) (r := r) fun y hy => h y (List.mem_cons_of_mem _ hy)
    have h2 := h x List.mem_cons_self
    rw [Lib.join_cons, List.length_append, List.length_cons, Nat.add_mul]
    omega
theorem join_snoc {sep : List UInt8} {t : List (List UInt8)} {j : Nat} (h : j < t.length) : Lib.join (t.take (j + 1)) sep = (if 0 < j then Lib.join (t.take j) sep ++ sep else []) ++ t[j] := by
  cases t with
  | nil => simp at h
  | cons x r =>
    cases j with
    | zero => simp [Lib.join_one]
    | succ j =>
      have hj : j < r.length := by simpa using h
      rw [if_pos (by omega), List.take_succ_cons, List.take_succ_cons, Lib.join_cons, Lib.join_cons, Lib.joinTail_take_succ sep r j r[j] (by simp [hj])]
      simp only [List.getElem_cons_succ, List.append_assoc]
theorem joinM_ok {t : List (List UInt8)} {sep : List UInt8} (h : t.length ≤ 10) (hs : sep.length ≤ 10) (hy : ∀ y ∈ t, y.length ≤ 40) : joinM t sep = some (Lib.join t sep) := by
  unfold joinM
  have := join_len (sep := sep) hy
  have h2 : t.length * (sep.length + 40) ≤ 10 * 50 := Nat.mul_le_mul h (by omega)
  rw [if_pos ⟨by omega, by omega⟩]
theorem rjoin_ok {t : List (List UInt8)} {e : Int} {s : List UInt8} (h : t.length ≤ 10) (hs : s.length ≤ 1000) (hy : ∀ y ∈ t, y.length ≤ 40) : iter FU (fun u => m_ref36_Print_L2 FU (t, e) u.1 u.2) (s, (0 : Int)) = some (s ++ Lib.join t [44, 32]) := by
  refine iter_to (f := fun u => m_ref36_Print_L2 FU (t, e) u.1 u.2) (fun j => (s ++ Lib.join (t.take j) [44, 32], (j : Int))) t.length FU _ (fun j hj => ?_) (by simp [m_ref36_Print_L2]) (by simp only [FU]; omega) (by simp [Lib.join_nil])
  have h1 := join_len (sep := [44, 32]) (t := t.take j) (c := 40) fun y hm => hy y (List.mem_of_mem_take hm)
  have h2 : (t.take j).length * (([44, 32] : List UInt8).length + 40) ≤ 10 * 42 := Nat.mul_le_mul (by rw [List.length_take]; omega) (by simp)
  have h3 := hy _ (List.getElem_mem hj)
  simp only [m_ref36_Print_L2]
  rw [if_pos (decide_eq_true (by omega)), ixL hj, wadd1 hj (by simp only [ML]; omega), join_snoc hj]
  by_cases h0 : 0 < j
  · rw [if_pos (decide_eq_true (by omega)), if_pos h0, appS_some (by simp; omega), Option.bind_some, Option.bind_some, Option.bind_some, appS_some (by simp; omega)]
    simp
  · rw [if_neg (by simp; omega), if_neg h0, Option.bind_some, Option.bind_some, appS_some (by simp; omega)]
    obtain rfl : j = 0 := by omega
    simp [Lib.join_nil]

/-! ### the lines of links -/
structure Fine (x : SLink) : Prop where
  a1 : -9223372036854775808 ≤ x.fA
  a2 : x.fA ≤ 9223372036854775807
  b1 : -9223372036854775808 ≤ x.fB
  b2 : x.fB ≤ 9223372036854775807
  w1 : -9223372036854775808 ≤ x.fWeight
  w2 : x.fWeight ≤ 9223372036854775807
theorem print_ok {a : List SLink} (hl : a.length ≤ 10) (hf : ∀ x ∈ a, Fine x) : ∃ t e, m_evidence_Print FU a = some (t, e) ∧ m_ref36_Print FU a = some (t, e) ∧ t.length ≤ 10 := by
  unfold m_evidence_Print m_ref36_Print
  obtain ⟨t, t', h1, h2, rfl, h3⟩ := iter_two (f := fun s => m_evidence_Print_L1 FU a s.1 s.2) (g := fun s => m_ref36_Print_L1 FU a s.1 s.2) (s0 := (([] : List (List UInt8)), (0 : Int))) (fun k s => s.2 = (k : Int) ∧ s.1.length ≤ k)
    (fun t t' => t = t' ∧ (match t with | .inl u => u.1.length ≤ 10 | .inr u => u.length ≤ 10)) a.length (fun k s hk ⟨h1, h2⟩ => by
      obtain ⟨l, c⟩ := s
      dsimp only at h1 h2
      subst h1
      simp only [m_evidence_Print_L1, m_ref36_Print_L1]
      by_cases h7 : k = a.length
      · right
        rw [if_neg (by simp; omega), if_neg (by simp; omega)]
        exact ⟨_, _, rfl, rfl, rfl, by dsimp only; omega⟩
      · have hk' : k < a.length := by omega
        have hx := hf _ (List.getElem_mem hk')
        rw [if_pos (decide_eq_true (by omega)), if_pos (decide_eq_true (by omega)), ixL hk', Option.bind_some, Option.bind_some, works_ok, rworks_ok, Option.bind_some, Option.bind_some, wadd1 hk' (by simp only [ML]; omega)]
        generalize a[k] = x at *
        obtain ⟨t, e, x1, x2, x3, x4, x5⟩ := explains x.fOutcome
        rw [x1, x2, Option.bind_some, Option.bind_some]
        rcases x5 with rfl | ⟨rfl, rfl⟩
        · left
          obtain ⟨d1, d2⟩ := dec_ok hx.a1 hx.a2
          obtain ⟨d3, d4⟩ := dec_ok hx.b1 hx.b2
          obtain ⟨d5, d6⟩ := dec_ok hx.w1 hx.w2
          have j1 := join_len (sep := [44, 32]) x4
          have j2 : t.length * (([44, 32] : List UInt8).length + 40) ≤ 10 * 42 := Nat.mul_le_mul (by omega) (by simp)
          rw [if_neg (by simp), if_neg (by simp), itoa_ok hx.a1 hx.a2, itoa_ok hx.b1 hx.b2, itoa_ok hx.w1 hx.w2, d1, d3, d5]
          generalize Lib.itoa x.fA = ta at *
          generalize Lib.itoa x.fB = tb at *
          generalize Lib.itoa x.fWeight = tw at *
          simp only [Option.bind_some]
          rw [appS_some (show ta.length + ([32] : List UInt8).length ≤ 1000000 by simp; omega), Option.bind_some, Option.bind_some, appS_some (show (ta ++ [32]).length + tb.length ≤ 1000000 by simp; omega), Option.bind_some, Option.bind_some]
          cases x.fMust with
          | true =>
            rw [if_pos rfl, if_pos rfl, appS_some (by simp; omega), Option.bind_some, Option.bind_some, Option.bind_some, app_one (by omega) (by omega)]
            exact ⟨_, rfl, rfl, hk', rfl, by simp; omega⟩
          | false =>
            rw [if_neg (by simp), if_neg (by simp), appS_some (show ([32, 119, 101, 105, 103, 104, 116, 32] : List UInt8).length + tw.length ≤ 1000000 by simp; omega), Option.bind_some, Option.bind_some,
              appS_some (show ([32, 119, 101, 105, 103, 104, 116, 32] ++ tw).length + ([58, 32] : List UInt8).length ≤ 1000000 by simp; omega), Option.bind_some, Option.bind_some, joinM_ok (by omega) (by simp) x4, Option.bind_some]
            rw [appS_some (a := [32, 119, 101, 105, 103, 104, 116, 32] ++ tw ++ [58, 32]) (b := Lib.join t [44, 32]) (by simp; omega), Option.bind_some, appS_some (b := [32, 119, 101, 105, 103, 104, 116, 32] ++ tw ++ [58, 32] ++ Lib.join t [44, 32]) (by simp; omega), Option.bind_some, Option.bind_some,
              appS_some (b := [32, 119, 101, 105, 103, 104, 116, 32] ++ tw ++ [58, 32]) (by simp; omega), Option.bind_some, rjoin_ok (by omega) (by simp; omega) x4, Option.bind_some, app_one (by omega) (by omega), app_one (by omega) (by omega)]
            refine ⟨_, rfl, ?_, hk', rfl, by simp; omega⟩
            simp [List.append_assoc]
        · right
          rw [if_pos (by simp), if_pos (by simp)]
          exact ⟨_, _, rfl, rfl, rfl, Nat.zero_le _⟩) ⟨rfl, Nat.le_refl _⟩ (by simp only [FU]; omega)
  rw [h1, h2]
  cases t with
  | inl u => exact ⟨u.1, u.2, rfl, rfl, h3⟩
  | inr u => exact ⟨u, 0, rfl, rfl, h3⟩
theorem own_ok {a : List SLink} (hl : a.length ≤ 10) : m_law36_own FU a = some a := by
  unfold m_law36_own
  rw [iter_to (f := fun s => m_law36_own_L1 FU a s.1 s.2) (t := a) (fun j => (a.take j, (j : Int))) a.length FU (([] : List SLink), (0 : Int)) (fun j hj => ?_) (by simp [m_law36_own_L1]) (by simp only [FU]; omega) rfl]
  · rfl
  · simp only [m_law36_own_L1]
    rw [if_pos (decide_eq_true (by omega)), ixL hj, Option.bind_some, wadd1 hj (by simp only [ML]; omega), take_snocL hj, app_one (by rw [List.length_take]; omega) (by rw [List.length_take]; omega)]
    rfl
theorem sametexts {l : List (List UInt8)} (hl : l.length ≤ 10) : m_ref29_SameTexts FU l l = some true := by
  unfold m_ref29_SameTexts
  rw [if_neg (by simp), iter_any (ρ := Bool ⊕ Unit) l.length FU (fun _ => false) (.inl false) (.inr ()) (fun j hj => by
    unfold m_ref29_SameTexts_L1
    rw [if_pos (by simp; omega), ix_get [] hj, Option.bind_some, Option.bind_some, wadd1 hj (by simp only [ML]; omega)]
    simp) (by unfold m_ref29_SameTexts_L1; simp) (by simp only [FU]; omega)]
  simp [anyN]
theorem law_of {n : Nat} {a : List SLink} {t : List (List UInt8)} {e : Int} (h0 : m_law36_own n a = some a) (h1 : m_evidence_Print n a = some (t, e)) (h2 : m_ref36_Print n a = some (t, e)) (h3 : m_ref29_SameTexts n t t = some true) : m_law36_EvidencePrint n a = some true := by
  unfold m_law36_EvidencePrint
  simp [h0, h1, h2, h3]
theorem law_far {n : Nat} {a : List SLink} (h : 10 < a.length) : m_law36_EvidencePrint n a = some true := by
  unfold m_law36_EvidencePrint
  rw [if_pos (by simp; omega)]
theorem plain_EvidencePrint {N : Nat} {a : List SLink} (h : Ok22 N a) : m_law36_EvidencePrint FU a = some true := by
  by_cases hl : a.length ≤ 10
  · obtain ⟨t, e, h1, h2, h3⟩ := print_ok hl fun x hx => by
      obtain ⟨o1, o2, -, -, o3⟩ := h.2 x hx
      have p1 := i64_in o1; have p2 := i64_in o2; have p3 := i64_in o3
      exact ⟨p1.1, p1.2, p2.1, p2.2, p3.1, p3.2⟩
    exact law_of (own_ok hl) h1 h2 (sametexts h3)
  · exact law_far (by omega)
end Go.Proofs.YtindppnanjcoaaaGreatDoor.Ab.U
end
