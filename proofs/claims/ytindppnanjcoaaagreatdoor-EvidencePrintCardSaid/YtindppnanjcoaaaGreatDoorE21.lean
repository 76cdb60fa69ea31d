/- Calls: plain ones, those that range over a map, those that ask for a capacity. Calls that ask for a capacity, calls of data alone; all calls. Calls of data alone; all calls. Regions whose order is drawn: a region that is hidden from an operation; what an operation looks at. Conditions: none. -/
import Derived.Test.YtindppnanjcoaaaGreatDoorE17
import Derived.Lib.Overlaps
section
namespace Go.Proofs.YtindppnanjcoaaaGreatDoor.Ev
open Go
open Ab (run_sizeOf' run_zeroValue' Addr.add_none)

/- What is told alike is alike. -/
theorem bytesEq_eq : ∀ {a b : List UInt8}, bytesEq a b = true → a = b
  | [], [], _ => rfl
  | [], _ :: _, h => by cases h
  | _ :: _, [], h => by cases h
  | x :: a, y :: b, h => by
    simp only [bytesEq, Bool.and_eq_true, Nat.beq_eq] at h
    rw [bytesEq_eq h.2, UInt8.toNat_inj.1 h.1]
mutual
theorem same_eq : ∀ {a b : CV}, same a b = true → a = b := by
  intro a b h
  unfold same at h
  split at h
  · simp only [Bool.and_eq_true, ieq_eq, beq_iff_eq] at h
    rw [keq_eq h.1, h.2]
  · rename_i p q; cases p <;> cases q <;> first | rfl | cases h
  · rename_i x y
    have := bytesEq_eq h
    cases x; cases y
    simp only at this
    congr 2
    exact ByteArray.ext (Array.toList_inj.1 this)
  · rfl
  · simp only [Bool.and_eq_true, Nat.beq_eq] at h; obtain ⟨⟨⟨h1, h2⟩, h3⟩, h4⟩ := h; subst h1; subst h2; subst h3; subst h4; rfl
  · simp only [Bool.and_eq_true, Nat.beq_eq] at h; obtain ⟨⟨⟨h1, h2⟩, h3⟩, h4⟩ := h; subst h1; subst h2; subst h3; subst h4; rfl
  · simp only [Bool.and_eq_true, Nat.beq_eq] at h; obtain ⟨h1, h2⟩ := h; subst h1; subst h2; rfl
  · rw [Nat.beq_eq] at h; subst h; rfl
  · rw [sames_eq h]
  · rw [sames_eq h]
  · rfl
  · cases h
theorem sames_eq : ∀ {a b : List CV}, sames a b = true → a = b := by
  intro a b h
  unfold sames at h
  split at h
  · rfl
  · simp only [Bool.and_eq_true] at h
    rw [same_eq h.1, sames_eq h.2]
  · cases h
end

mutual
theorem RV.below {σ σ' : Sg} {n : Nat} (hs : ∀ id, id < n → σ' id = σ id) : ∀ {c : CV} {y : Value}, belowN n c = true → RV σ c y → RV σ' c y
  | .i _ _, _, _, hr => hr
  | .b _, _, _, hr => hr
  | .v _, _, _, hr => hr
  | .cp _, _, _, hr => hr
  | .any, _, _, _ => trivial
  | .sl _ _ _ _, _, h, ⟨b, p, c, h1, h2⟩ => ⟨b, p, c, (hs _ (by simpa [belowN, Nat.blt_eq] using h)).trans h1, h2⟩
  | .so _ _ _ _, _, h, ⟨b, p, c, cap, a, h1, h2⟩ => ⟨b, p, c, cap, a, (hs _ (by simpa [belowN, Nat.blt_eq] using h)).trans h1, h2⟩
  | .p _ _, _, h, ⟨b, p, c, h1, h2⟩ => ⟨b, p, c, (hs _ (by simpa [belowN, Nat.blt_eq] using h)).trans h1, h2⟩
  | .m _, _, h, ⟨b, p, c, h1, h2⟩ => ⟨b, p, c, (hs _ (by simpa [belowN, Nat.blt_eq] using h)).trans h1, h2⟩
  | .f _ _, _, h, ⟨l, h1, h2⟩ => ⟨l, h1, RVs.below hs h h2⟩
  | .a _, _, h, ⟨l, h1, h2⟩ => ⟨l, h1, RVs.below hs h h2⟩
  | .t _, _, h, ⟨l, h1, h2⟩ => ⟨l, h1, RVs.below hs h h2⟩
theorem RVs.below {σ σ' : Sg} {n : Nat} (hs : ∀ id, id < n → σ' id = σ id) : ∀ {c : List CV} {y : List Value}, belowNs n c = true → RVs σ c y → RVs σ' c y
  | [], _, _, hr => hr
  | _ :: _, _, h, ⟨y, r, h1, h2, h3⟩ => by
    simp only [belowNs, Bool.and_eq_true] at h
    exact ⟨y, r, h1, RV.below hs h.1 h2, RVs.below hs h.2 h3⟩
end

/-- A heap of which only what lies from f on may be written. -/
theorem WOK.floor {σ : Sg} {H : Hp} {w : World} (hw : WOK σ H w) {f : Nat} (h1 : H.fl ≤ f) (h2 : f ≤ H.n) : WOK σ ⟨H.h, H.n, f⟩ w :=
  ⟨hw.nn, hw.le, h2, hw.ent, fun id id' x x' a b c => hw.sep id id' x x' a b (Nat.le_trans h1 c)⟩

theorem WOK.lower {σ σ' : Sg} {H H' : Hp} {w w' : World} (hw : WOK σ H w) (hw' : WOK σ' H' w') (he : Evo σ ⟨H.h, H.n, H.n⟩ w σ' H' w') :
    WOK σ' ⟨H'.h, H'.n, H.fl⟩ w' ∧ Evo σ H w σ' ⟨H'.h, H'.n, H.fl⟩ w' := by
  have hlow : ∀ id, id < H.n → H'.get id = H.get id := fun id hi => he.low id hi
  have hS : ∀ id, id < H.n → σ' id = σ id := fun id hi => he.lowS id hi
  have hblk : ∀ id x, id < H.n → (H.get id).live = true → σ id = some x → x.1 < w.heap.size := fun id x hi hl hx => by
    obtain ⟨z, h1, h2⟩ := (hw.ent id hi).blk hl
    rw [hx] at h1; cases h1; exact h2
  have hnew : ∀ id x, H.n ≤ id → id < H'.n → (H'.get id).live = true → σ' id = some x → w.heap.size ≤ x.1 := fun id x h1 h2 h3 h4 => by
    rcases Nat.lt_or_ge x.1 w.heap.size with h | h
    · obtain ⟨i0, x0, k1, k2, _⟩ := he.ownL id x h2 h1 h3 h4 h
      exact absurd k1 (Nat.not_lt.2 k2)
    · exact h
  refine ⟨⟨hw'.nn, hw'.le, Nat.le_trans hw.fl he.n, hw'.ent, ?_⟩, ⟨he.same, he.size, he.ext, he.keep, fun id hi => hS id (Nat.lt_of_lt_of_le hi hw.fl), he.n, rfl, fun id hi => hlow id (Nat.lt_of_lt_of_le hi hw.fl), ?_, ?_, ?_⟩⟩
  · intro id id' x x' h1 h2 h3 h4 h5 h6 h7 h8
    rcases Nat.lt_or_ge id H.n with a | a <;> rcases Nat.lt_or_ge id' H.n with b | b
    · exact hw.sep id id' x x' a b h3 (by rw [← hlow id a]; exact h4) (by rw [← hlow id' b]; exact h5) (by rw [← hS id a]; exact h6) (by rw [← hS id' b]; exact h7) h8
    · exfalso
      have k1 := hblk id x a (by rw [← hlow id a]; exact AO.wrt_live h4) (by rw [← hS id a]; exact h6)
      have k2 := hnew id' x' b h2 h5 h7
      omega
    · exfalso
      have k1 := hblk id' x' b (by rw [← hlow id' b]; exact h5) (by rw [← hS id' b]; exact h7)
      have k2 := hnew id x a h1 (AO.wrt_live h4) h6
      omega
    · exact hw'.sep id id' x x' h1 h2 (by rw [he.fl]; exact a) h4 h5 h6 h7 h8
  · intro b hb _
    exact he.frame b hb fun id x h1 h2 => absurd h1 (Nat.not_lt.2 h2)
  · intro id x h1 h2 h3 h4 h5
    rcases Nat.lt_or_ge id H.n with a | a
    · exact ⟨id, x, a, h2, by rw [← hlow id a]; exact h3, by rw [← hS id a]; exact h4, rfl⟩
    · have := hnew id x a h1 (AO.wrt_live h3) h4; omega
  · intro id x h1 h2 h3 h4 h5
    rcases Nat.lt_or_ge id H.n with a | a
    · exact ⟨id, x, a, h2, by rw [← hlow id a]; exact h3, by rw [← hS id a]; exact h4, rfl⟩
    · have := hnew id x a h1 h3 h4; omega

/-- The result of a call by itself: a list, the only region from n on. B: the block that the call was given. -/
theorem WOK.rebase {σ σ2 : Sg} {H Hb H2 : Hp} {w w' : World} {B : Nat → Prop} {i k s : Nat} {l : List CV} {rv : Value} (hb : WOK σ Hb w) (hev : Evo σ H w σ Hb w) (h2 : WOK σ2 H2 w')
    (hsame : w'.os = w.os ∧ w'.tape = w.tape ∧ w'.output = w.output) (hsize : w.heap.size ≤ w'.heap.size) (hS : ∀ id, id < Hb.n → σ2 id = σ id) (hn : Hb.n < 4096) (hi : Hb.n ≤ i) (hg : H2.get i = .c l) (hl : belowNs Hb.n l = true)
    (hfr : ∀ b, b < w.heap.size → ¬ B b → w'.heap[b]? = w.heap[b]?) (hB : ∀ b, B b → ∃ id0 x0, id0 < H.n ∧ H.fl ≤ id0 ∧ (H.get id0).wrt = true ∧ σ id0 = some x0 ∧ x0.1 = b)
    (hBb : ∀ j z, j < Hb.n → (Hb.get j).live = true → σ j = some z → ¬ B z.1) (hy : ∀ y, σ2 i = some y → y.1 < w.heap.size → B y.1) (hrv : RV σ2 (.so i 0 k s) rv) :
    ∃ σ3, WOK σ3 ⟨(setF AO 4 Hb.n).s (.c l) Hb.h, Hb.n + 1, Hb.fl⟩ w' ∧ Evo σ H w σ3 ⟨(setF AO 4 Hb.n).s (.c l) Hb.h, Hb.n + 1, Hb.fl⟩ w' ∧ RV σ3 (.so Hb.n 0 k s) rv := by
  have hget : ∀ j, j < Hb.n → (⟨(setF AO 4 Hb.n).s (.c l) Hb.h, Hb.n + 1, Hb.fl⟩ : Hp).get j = Hb.get j := fun j hj => Hp.get_set_ne _ _ _ _ _ _ (by omega) hn (by omega)
  have hself : (⟨(setF AO 4 Hb.n).s (.c l) Hb.h, Hb.n + 1, Hb.fl⟩ : Hp).get Hb.n = .c l := Hp.get_set_same _ _ _ _ _
  obtain ⟨b, p, c, cap, q, hbk, hrest⟩ := hrv
  have hi2 := h2.lt hbk
  have hent := h2.ent i hi2
  rw [hg] at hent
  let σ3 : Sg := fun j => if j = Hb.n then some (b, p, c) else σ j
  have hext : ∀ id z, σ id = some z → σ3 id = some z := by
    intro id z hz
    have : id ≠ Hb.n := fun hc => by rw [hb.nn id (by omega)] at hz; cases hz
    simp [σ3, this, hz]
  have hσ3 : ∀ j, j < Hb.n → σ3 j = σ j := fun j hj => by simp [σ3, Nat.ne_of_lt hj]
  have hblk : ∀ j x, j < Hb.n → (Hb.get j).live = true → σ j = some x → x.1 < w.heap.size := fun j x hj hlv hx => by
    obtain ⟨z, k1, k2⟩ := (hb.ent j hj).blk hlv
    rw [hx] at k1; cases k1; exact k2
  have hne : ∀ j x, j < Hb.n → (Hb.get j).live = true → σ j = some x → x.1 ≠ b := fun j x hj hlv hx hc => by
    have k1 := hblk j x hj hlv hx
    have k2 := hy _ hbk (by rw [← hc]; exact k1)
    exact hBb j x hj hlv hx (by rw [hc]; exact k2)
  refine ⟨σ3, ⟨fun j hj => ?_, hn, Nat.le_succ_of_le hb.fl, fun j hj => ?_, ?_⟩, ⟨hsame, hsize, hext, fun j hj hr => ?_, fun j hj => ?_, ?_, hev.fl, fun j hj => ?_, fun b' hb' ho => ?_, ?_, ?_⟩, b, p, c, cap, q, by simp [σ3], hrest⟩
  · have : j ≠ Hb.n := by simp at hj; omega
    simp only [σ3, this, if_false]; exact hb.nn j (by simp at hj; omega)
  · by_cases h : j = Hb.n
    · subst h
      rw [hself]
      obtain ⟨b', p', c', arr, et, f1, f2, f3, f4, f5⟩ := hent
      rw [hbk] at f1; cases f1
      exact ⟨b, p, c, arr, et, by simp [σ3], f2, f3, f4, RVs.below (fun id hid => (hσ3 id hid).trans (hS id hid).symm) hl f5⟩
    · have hj' : j < Hb.n := by simp at hj; omega
      rw [hget j hj']
      exact (hb.ent j hj').mono hext (fun hr => by have := hb.ent j hj'; rw [hr] at this; rw [hσ3 j hj']; exact this)
        (fun z hz hlv => hfr _ (hblk j z hj' hlv hz) (hBb j z hj' hlv hz))
  · intro j j' x x' a1 a2 a3 a4 a5 a6 a7 a8
    by_cases e : j = Hb.n <;> by_cases e' : j' = Hb.n
    · omega
    · exfalso
      have hj' : j' < Hb.n := by simp at a2; omega
      rw [hget j' hj'] at a5
      rw [hσ3 j' hj'] at a7
      simp only [σ3, e, if_true, Option.some.injEq] at a6
      exact hne j' x' hj' a5 a7 (by rw [← a8, ← a6])
    · exfalso
      have hj : j < Hb.n := by simp at a1; omega
      rw [hget j hj] at a4
      rw [hσ3 j hj] at a6
      simp only [σ3, e', if_true, Option.some.injEq] at a7
      exact hne j x hj (AO.wrt_live a4) a6 (by rw [a8, ← a7])
    · have k1 : j < Hb.n := by simp at a1; omega
      have k2 : j' < Hb.n := by simp at a2; omega
      rw [hget j k1] at a4
      rw [hget j' k2] at a5
      rw [hσ3 j k1] at a6
      rw [hσ3 j' k2] at a7
      exact hb.sep j j' x x' k1 k2 a3 a4 a5 a6 a7 a8
  · have hj' : j < Hb.n := Nat.lt_of_lt_of_le hj hev.n
    exact ⟨hσ3 j hj', by rw [hget j hj']; exact (hev.keep j hj hr).2⟩
  · exact hσ3 j (by have := hb.fl; rw [hev.fl] at this; omega)
  · exact Nat.le_trans hev.n (Nat.le_succ _)
  · have hj' : j < Hb.n := by have := hb.fl; rw [hev.fl] at this; omega
    rw [hget j hj']; exact hev.low j hj
  · refine hfr b' hb' fun hBb' => ?_
    obtain ⟨i0, x0, k1, k2, k3, k4, k5⟩ := hB b' hBb'
    exact ho i0 x0 k1 k2 k3 k4 k5
  · intro j x a1 a2 a3 a4 a5
    by_cases e : j = Hb.n
    · simp only [σ3, e, if_true, Option.some.injEq] at a4
      exact hB x.1 (hy x (by rw [hbk, a4]) a5)
    · have hj : j < Hb.n := by simp at a1; omega
      rw [hget j hj] at a3
      rw [hσ3 j hj] at a4
      exact hev.own j x hj a2 a3 a4 a5
  · intro j x a1 a2 a3 a4 a5
    by_cases e : j = Hb.n
    · simp only [σ3, e, if_true, Option.some.injEq] at a4
      obtain ⟨i0, x0, k1, k2, k3, k4⟩ := hB x.1 (hy x (by rw [hbk, a4]) a5)
      exact ⟨i0, x0, k1, k2, AO.wrt_live k3, k4⟩
    · have hj : j < Hb.n := by simp at a1; omega
      rw [hget j hj] at a3
      rw [hσ3 j hj] at a4
      exact hev.ownL j x hj a2 a3 a4 a5

section
variable {C : Cx} {run : Nat → Code → Env → Hp → Out}

theorem canon_eq {n : Nat} {x v : CV} {H : Hp} {l : List CV} (h : canon n x H = some (v, l)) : ∃ i k s, x = .so i 0 k s ∧ v = .so n 0 k s ∧ n ≤ i ∧ H.get i = .c l ∧ belowNs n l = true := by
  unfold canon at h
  split at h
  · rename_i i k s
    cases hb : Nat.ble n i with
    | false => rw [hb] at h; cases h
    | true =>
      rw [hb] at h
      rw [Nat.ble_eq] at hb
      simp only [cond_true] at h
      split at h
      · rename_i m hm
        cases hl : belowNs n m with
        | false => rw [hl] at h; cases h
        | true => rw [hl] at h; cases h; exact ⟨i, k, s, rfl, rfl, hb, row_eq hm, hl⟩
      · cases h
  · cases h

theorem fin_leaf {fn : Func} {o : Out} {v : CV} {H' : Hp} (h : fin C fn o = some (v, H')) : o.good = true ∧ ∀ e E2 H2, Leaf o e E2 H2 → (e = .normal ∨ e = .ret) ∧ retV C.P H2 fn E2 = some v ∧ H2 = H' := by
  unfold fin at h
  split at h
  · split at h
    · rename_i u hu; cases h; exact ⟨rfl, fun e E2 H2 ⟨a, b, c⟩ => by subst a; subst b; subst c; exact ⟨.inl rfl, hu, rfl⟩⟩
    · cases h
  · split at h
    · rename_i u hu; cases h; exact ⟨rfl, fun e E2 H2 ⟨a, b, c⟩ => by subst a; subst b; subst c; exact ⟨.inr rfl, hu, rfl⟩⟩
    · cases h
  · cases h

theorem finQ_leaf {n : Nat} {fn : Func} : ∀ {o : Out} {v : CV} {l : List CV}, finQ C n fn o = some (v, l) → o.good = true ∧ ∀ e E2 H2, Leaf o e E2 H2 → (e = .normal ∨ e = .ret) ∧ ∃ u, retV C.P H2 fn E2 = some u ∧ canon n u H2 = some (v, l)
  | .n E H, v, l, h => by
    simp only [finQ] at h
    split at h
    · rename_i u hu; exact ⟨rfl, fun e E2 H2 ⟨a, b, c⟩ => by subst a; subst b; subst c; exact ⟨.inl rfl, u, hu, h⟩⟩
    · cases h
  | .r E H, v, l, h => by
    simp only [finQ] at h
    split at h
    · rename_i u hu; exact ⟨rfl, fun e E2 H2 ⟨a, b, c⟩ => by subst a; subst b; subst c; exact ⟨.inr rfl, u, hu, h⟩⟩
    · cases h
  | .x _ _ _, _, _, h => by cases h
  | .bad, _, _, h => by cases h
  | .or a b, v, l, h => by
    simp only [finQ] at h
    split at h
    · rename_i v1 l1 v2 l2 ha hb
      cases hc : same v1 v2 && sames l1 l2 with
      | false => rw [hc] at h; cases h
      | true =>
        rw [hc] at h; cases h
        simp only [Bool.and_eq_true] at hc
        obtain rfl := same_eq hc.1
        obtain rfl := sames_eq hc.2
        obtain ⟨a1, a2⟩ := finQ_leaf ha
        obtain ⟨b1, b2⟩ := finQ_leaf hb
        refine ⟨by simp [Out.good, a1, b1], fun e E2 H2 hl => ?_⟩
        rcases hl with hl | hl
        · exact a2 e E2 H2 hl
        · exact b2 e E2 H2 hl
    · cases h

/-- What is asked of a program. -/
structure COK (C : Cx) : Prop where
  nm : ∀ (f : FuncId) (fn : Func), C.P.funcs[f]? = some fn → (fn.name == "runtime.NumGoroutine") = false
  ov : ∀ f, memN C.ov f = true → ∃ tS tR e i, (∀ (a : Array Value) (w : World), (callFunc f a).run C.P w = ((Extern.SlicesOverlaps.overlaps #[tS, tS] #[tR] a).run C.P w).andThen fun v w' => .ok (.value v) w') ∧ C.P.underlying tS = some (.slice e) ∧ C.P.info? e = some i
  mix : C.P.follows .mixedOrders = true

theorem callX_ok (hC : COK C) {f : Nat} {xs : List CV} {H H' : Hp} {v : CV} (h : callX C f xs H = some (v, H')) {σ : Sg} {w : World} {vals : Array Value} (hw : WOK σ H w) (hr : RVs σ xs vals.toList) :
    RunF C.P f vals w fun rv w' => ∃ σ', WOK σ' H' w' ∧ Evo σ H w σ' H' w' ∧ RV σ' v rv := by
  unfold callX at h
  split at h
  · rename_i i o1 m c1 j o2 n s
    cases hb : memN C.ov f && !Nat.beq i j && Nat.blt 0 m && Nat.blt 0 n && Nat.ble H.fl j with
    | false => rw [hb] at h; cases h
    | true =>
      rw [hb] at h
      simp only [cond_true] at h
      simp only [Bool.and_eq_true, Nat.blt_eq, Nat.ble_eq, Bool.not_eq_true'] at hb
      obtain ⟨⟨⟨⟨hov, hne⟩, hm⟩, hn⟩, hfl⟩ := hb
      have hne : i ≠ j := fun hc => by rw [hc] at hne; simp at hne
      split at h
      · rename_i l1 l2 hl1 hl2
        cases h
        obtain ⟨y1, r1, e1, hy1, y2, r2, e2, hy2, e3⟩ := hr
        subst e2
        subst e3
        obtain ⟨b1, p1, d1, k1, rfl⟩ := hy1
        obtain ⟨b2, p2, d2, cap, q, k2, rfl, hc, hle, hs0, hcap, hq⟩ := hy2
        have hi := hw.lt k1
        have hj := hw.lt k2
        have g1 := row_eq hl1
        have g2 := row_eq hl2
        have hbne : b1 ≠ b2 := fun hc => hne (hw.sep j i (b2, p2, d2) (b1, p1, d1) hj hi hfl (by rw [g2]; rfl) (by rw [g1]; rfl) k2 k1 hc.symm).symm
        have n1 := hw.ent i hi
        rw [g1] at n1
        have n2 := hw.ent j hj
        rw [g2] at n2
        obtain ⟨x1, x2, x3, arr1, et1, f1, f2, f3, f4, _⟩ := n1
        rw [k1] at f1; cases f1
        obtain ⟨z1, z2, z3, arr2, et2, g1', g2', g3, g4, _⟩ := n2
        rw [k2] at g1'; cases g1'
        obtain ⟨tS, tR, e, ie, ho, hu, hie⟩ := hC.ov f hov
        have hsz2 : arr2.size ≠ 0 := by
          have : 0 < d2 := by rw [← hc]; exact Nat.mul_pos (by omega) hs0
          omega
        have hrun := Lib.run_overlaps_apart (P := C.P) w tS tR e hu ie.size (fun w => run_sizeOf' hie w) ⟨b1, p1 + o1, none⟩ ⟨b2, q, none⟩ m c1 n cap hbne et1 et2 arr1.size arr2.size
          (by simp [World.shape?, f2]) (by simp [World.shape?, g2']) hsz2 (by simp [World.frozen?, f2]) (by simp [World.frozen?, f2])
        have hvals : vals = #[.slice (some ⟨b1, p1 + o1, none⟩) m c1, .slice (some ⟨b2, q, none⟩) n cap] := by
          rw [← Array.toArray_toList (xs := vals), e1]
        unfold RunF
        rw [ho, hvals, hrun]
        exact ⟨σ, hw, .refl _ _ _, rfl⟩
      · cases h
  · cases h

theorem callW_ok (hC : COK C) (hcode : CodeOK C.P run) {f : Nat} {xs : List CV} {H H' : Hp} {v : CV} (h : callW C run f xs H = some (v, H')) {σ : Sg} {w : World} {vals : Array Value} (hw : WOK σ H w) (hr : RVs σ xs vals.toList) :
    RunF C.P f vals w fun rv w' => ∃ σ', WOK σ' H' w' ∧ Evo σ H w σ' H' w' ∧ RV σ' v rv := by
  unfold callW at h
  split at h
  · rename_i fn hf
    split at h
    · rename_i c hb
      cases hn : Nat.ble xs.length fn.ntmps && Nat.ble fn.ntmps 512 with
      | false => rw [hn] at h; cases h
      | true =>
        rw [hn] at h
        simp only [cond_true] at h
        simp only [Bool.and_eq_true, Nat.ble_eq] at hn
        obtain ⟨g1, g2⟩ := fin_leaf h
        refine enter_ok hcode hC.nm hf hb hn.1 hn.2 g1 (fun e E' H2 hl => ⟨(g2 e E' H2 hl).1, v, (g2 e E' H2 hl).2.1⟩) hw hr ?_
        intro e E' H2 σ' w' v' rv hl hv k1 k2 k3
        obtain ⟨_, e1, rfl⟩ := g2 e E' H2 hl
        rw [e1] at hv; cases hv
        exact ⟨σ', k1, k2, k3⟩
    · exact callX_ok hC h hw hr
  · cases h

theorem callQ_ok (hC : COK C) (hcode : CodeOK C.P run) {f : Nat} {xs : List CV} {H H' : Hp} {v : CV} (h : callQ C run f xs H = some (v, H')) {σ : Sg} {w : World} {vals : Array Value} (hw : WOK σ H w) (hr : RVs σ xs vals.toList) :
    RunF C.P f vals w fun rv w' => ∃ σ', WOK σ' H' w' ∧ Evo σ H w σ' H' w' ∧ RV σ' v rv := by
  unfold callQ at h
  split at h
  · rename_i fn hf
    split at h
    · rename_i c hb
      cases hn : Nat.ble xs.length fn.ntmps && Nat.ble fn.ntmps 512 with
      | false => rw [hn] at h; cases h
      | true =>
        rw [hn] at h
        simp only [cond_true] at h
        simp only [Bool.and_eq_true, Nat.ble_eq] at hn
        split at h
        · rename_i v0 l hfin
          obtain ⟨n1, n2, n3⟩ := Hp.new_eq h
          subst n3
          obtain ⟨g1, g2⟩ := finQ_leaf hfin
          refine enter_ok hcode hC.nm hf hb hn.1 hn.2 g1 (fun e E' H2 hl => by obtain ⟨a, u, b, _⟩ := g2 e E' H2 hl; exact ⟨a, u, b⟩) (hw.floor hw.fl (Nat.le_refl _)) hr ?_
          intro e E' H2 σ2 w' v' rv hl hv k1 k2 k3
          obtain ⟨_, u, e1, e2⟩ := g2 e E' H2 hl
          rw [e1] at hv; cases hv
          obtain ⟨i, k, s, rfl, hv0, hi, hg, hbl⟩ := canon_eq e2
          rw [n2, hv0]
          exact hw.rebase (B := fun _ => False) (.refl _ _ _) k1 k2.same k2.size k2.lowS n1 hi hg hbl (fun b hb _ => k2.frame b hb fun id x h1 h2 => absurd h1 (Nat.not_lt.2 h2)) (fun _ h => h.elim) (fun _ _ _ _ _ h => h)
            (fun y hy hlt => by
              obtain ⟨b, p, c, cap, q, hbk, _⟩ := k3
              obtain ⟨i0, x0, a1, a2, _⟩ := k2.ownL i y (k1.lt hbk) hi (by rw [hg]; rfl) hy hlt
              exact absurd a1 (Nat.not_lt.2 a2)) k3
        · cases h
    · cases h
  · cases h
end
end Go.Proofs.YtindppnanjcoaaaGreatDoor.Ev
end
section
namespace Go.Proofs.YtindppnanjcoaaaGreatDoor.Ev
open Go
open Ab (run_sizeOf' run_zeroValue' Addr.add_none)

theorem RunF.mono {P : Program} {f : FuncId} {vals : Array Value} {w : World} {K K' : Value → World → Prop} (h : RunF P f vals w K) (hk : ∀ v w', K v w' → K' v w') : RunF P f vals w K' := by
  unfold RunF at h ⊢
  generalize (callFunc f vals).run P w = r at h
  cases r with
  | ok nx w' =>
    cases nx <;> simp only at h ⊢ <;> try exact h
    · exact hk _ _ h
    · exact h.mono fun e w'' ⟨v, he, hv⟩ => ⟨v, he, hk _ _ hv⟩
  | halt x w' => exact h

section
variable {C : Cx} {run : Nat → Code → Env → Hp → Out}

theorem callO_ok (hC : COK C) (hcode : CodeOK C.P run) {f id len s : Nat} {xs : List CV} {H H' : Hp} {v : CV} (h : callO C run f id len s xs H = some (v, H')) {σ : Sg} {w : World} {vals : Array Value} (hw : WOK σ H w)
    (hr : RVs σ (.so id 0 len s :: xs) vals.toList) : RunF C.P f vals w fun rv w' => ∃ σ', WOK σ' H' w' ∧ Evo σ H w σ' H' w' ∧ RV σ' v rv := by
  unfold callO at h
  split at h
  · rename_i l H0 hl hwr
    obtain ⟨hf, rfl⟩ := Hp.wr_eq hwr
    cases hb : Nat.beq l.length (len * s) && Nat.blt 0 len && Nat.blt 0 s && Nat.blt H.n 4096 with
    | false => rw [hb] at h; cases h
    | true =>
      rw [hb] at h
      simp only [cond_true] at h
      simp only [Bool.and_eq_true, Nat.beq_eq, Nat.blt_eq] at hb
      obtain ⟨⟨⟨hll, hlen0⟩, hs0⟩, hn⟩ := hb
      split at h
      · rename_i x HA y HB hA hB
        split at h
        · rename_i v1 a1 v2 a2 hcA hcB
          cases hsm : same v1 v2 && sames a1 a2 with
          | false => rw [hsm] at h; cases h
          | true =>
            rw [hsm] at h; cases h
            simp only [Bool.and_eq_true] at hsm
            obtain rfl := same_eq hsm.1
            obtain rfl := sames_eq hsm.2
            obtain ⟨y0, rest, hvs, hy0, hrest⟩ := hr
            have hy0' := hy0
            obtain ⟨b, p, c, cap, q, hbk, hy0e, hc, hle, hs0', hcap, hq⟩ := hy0
            have hq : q = p := by have := hq (by omega); simpa using this
            subst hq
            have hc : cap * s = c := by simpa using hc
            have hid := hw.lt hbk
            have hg := row_eq hl
            have hent := hw.ent id hid
            rw [hg] at hent
            obtain ⟨b', p', c', arr, et, f1, f2, f3, f4, f5⟩ := hent
            rw [hbk] at f1; cases f1
            obtain ⟨hwb, hevb⟩ := hw.wr (w' := w) (x := .free) hid hf (by rw [hg]; rfl) hbk ⟨rfl, rfl, rfl⟩ rfl (fun _ _ => rfl) (by simp) trivial
            have hgid : (⟨(setF AO 4 id).s .free H.h, H.n, H.fl⟩ : Hp).get id = .free := Hp.get_set_same _ _ _ _ _
            have hgne : ∀ j, j < H.n → j ≠ id → (⟨(setF AO 4 id).s .free H.h, H.n, H.fl⟩ : Hp).get j = H.get j := fun j hj hne => Hp.get_set_ne _ _ _ _ _ _ (by omega) (by omega) hne
            -- what a run from a heap with the region at the end comes to
            have core : ∀ (x0 : List CV) (z : CV) (u : CV) (HZ : Hp), (∀ σ' : Sg, (∀ id z, σ id = some z → σ' id = some z) → σ' H.n = some (b, q, c) → Ent σ' w H.n (.c x0)) →
                (∀ σ' : Sg, σ' H.n = some (b, q, c) → RV σ' z y0) → callW C run f (z :: xs) ⟨(setF AO 4 H.n).s (.c x0) ((setF AO 4 id).s .free H.h), H.n + 1, H.n⟩ = some (u, HZ) → canon H.n u HZ = some (v, a1) →
                RunF C.P f vals w fun rv w' => ∃ σ', WOK σ' ⟨(setF AO 4 H.n).s (.c a1) ((setF AO 4 id).s .free H.h), H.n + 1, H.fl⟩ w' ∧ Evo σ H w σ' ⟨(setF AO 4 H.n).s (.c a1) ((setF AO 4 id).s .free H.h), H.n + 1, H.fl⟩ w' ∧ RV σ' v rv := by
              intro x0 z u HZ hx0 hz hcall hcn
              obtain ⟨σA, m1, m2, m3, m4⟩ := hw.move (w' := w) (x := .c x0) (y := (b, q, c)) hid hf (by rw [hg]; rfl) hbk hn rfl ⟨rfl, rfl, rfl⟩ rfl (fun _ _ => rfl) (by simp) hx0
              have hrun := callW_ok hC hcode hcall (m3.floor (f := H.n) hw.fl (Nat.le_succ _)) (vals := vals) (by rw [hvs]; exact ⟨y0, rest, rfl, hz σA m1, hrest.mono m4.ext⟩)
              refine hrun.mono ?_
              rintro rv w' ⟨σ2, k1, k2, k3⟩
              obtain ⟨i, k, s', rfl, rfl, hi, hg2, hbl⟩ := canon_eq hcn
              have hS : ∀ j, j < H.n → σ2 j = σ j := fun j hj => (k2.lowS j hj).trans (m2 j (by omega))
              have hone : ∀ id0 x0', id0 < H.n + 1 → H.n ≤ id0 → σA id0 = some x0' → x0'.1 = b := fun id0 x0' h1 h2 h3 => by
                have : id0 = H.n := by omega
                rw [this, m1] at h3; cases h3; rfl
              exact WOK.rebase (H := H) hwb hevb k1 k2.same k2.size hS hn hi hg2 hbl (B := fun x => x = b)
                (fun b' hb' hne => k2.frame b' hb' fun id0 x0' h1 h2 _ h4 h5 => hne (by rw [← h5]; exact hone id0 x0' h1 h2 h4))
                (fun b' hb' => ⟨id, _, hid, hf, by rw [hg]; rfl, hbk, hb'.symm⟩)
                (fun j z hj hlv hz hzb => by
                  by_cases hji : j = id
                  · rw [hji, hgid] at hlv; cases hlv
                  · rw [hgne j hj hji] at hlv
                    exact hji (hw.sep id j _ z hid hj hf (by rw [hg]; rfl) hlv hbk hz hzb.symm).symm)
                (fun y hy hlt => by
                  obtain ⟨i0, x0', a1, a2, _, a4, a5⟩ := k2.ownL i y (by obtain ⟨b9, p9, c9, cap9, q9, hbk9, _⟩ := k3; exact k1.lt hbk9) hi (by rw [hg2]; rfl) hy hlt
                  rw [← a5]; exact hone i0 x0' a1 a2 a4) k3
            by_cases hcl : cap = len
            · subst hcl
              exact core l (.sl H.n 0 cap cap) x HA (fun σ' hm hid' => ⟨b, q, c, arr, et, hid', f2, f3, f4, f5.mono hm⟩) (fun σ' hid' => ⟨b, q, c, hid', by rw [hy0e]; simp⟩) hA hcA
            · have hcap1 : len * s + s ≤ c := by
                rw [← hc]
                have : (len + 1) * s ≤ cap * s := Nat.mul_le_mul_right _ (by omega)
                rwa [Nat.add_mul, Nat.one_mul] at this
              refine core (l ++ rep s [.any]) (.so H.n 0 len s) y HB (fun σ' hm hid' => ?_) (fun σ' hid' => ⟨b, q, c, cap, q, hid', hy0e, by simpa using hc, hle, hs0', hcap, by simp⟩) hB hcB
              have hrl : (rep s [CV.any]).length = s := by
                have : ∀ n : Nat, (rep n [CV.any]).length = n := by intro n; induction n with | zero => rfl | succ n ih => simp [rep, ih]
                exact this s
              refine ⟨b, q, c, arr, et, hid', f2, by rw [List.length_append, hrl, hll]; exact hcap1, f4, ?_⟩
              have hany : ∀ (n : Nat) (ys : List Value), ys.length = n → RVs σ' (rep n [CV.any]) ys := by
                intro n
                induction n with
                | zero => intro ys hy; exact List.length_eq_zero_iff.1 hy
                | succ n ih =>
                  intro ys hy
                  rcases ys with _ | ⟨y, ys⟩
                  · simp at hy
                  · exact ⟨y, ys, rfl, trivial, ih ys (by simpa using hy)⟩
              have hsplit : (arr.toList.drop q).take (l ++ rep s [CV.any]).length = (arr.toList.drop q).take l.length ++ ((arr.toList.drop q).drop l.length).take s := by
                rw [List.length_append, hrl, List.take_add]
              rw [hsplit]
              exact (f5.mono hm).append (hany s _ (by simp; omega))
        · cases h
      · cases h
  · cases h
end
end Go.Proofs.YtindppnanjcoaaaGreatDoor.Ev
end
section
namespace Go.Proofs.YtindppnanjcoaaaGreatDoor.Ev
open Go
open Ab (run_sizeOf' run_zeroValue' Addr.add_none)

mutual
theorem rv_toV {σ : Sg} : ∀ {c : CV} {x : Value}, toV c = some x → RV σ c x
  | .i _ _, _, h => by cases h; rfl
  | .b _, _, h => by cases h; rfl
  | .v _, _, h => by cases h; rfl
  | .a l, _, h => by
    simp only [toV] at h
    split at h
    · rename_i r hr; cases h; exact ⟨r, rfl, rvs_toV hr⟩
    · cases h
  | .t l, _, h => by
    simp only [toV] at h
    split at h
    · rename_i r hr; cases h; exact ⟨r, rfl, rvs_toV hr⟩
    · cases h
  | .sl _ _ _ _, _, h => by cases h
  | .so _ _ _ _, _, h => by cases h
  | .p _ _, _, h => by cases h
  | .m _, _, h => by cases h
  | .f _ _, _, h => by cases h
  | .cp _, _, h => by cases h
  | .any, _, h => by cases h
theorem rvs_toV {σ : Sg} : ∀ {c : List CV} {x : List Value}, toVs c = some x → RVs σ c x
  | [], _, h => by cases h; rfl
  | a :: l, x, h => by
    simp only [toVs] at h
    split at h
    · rename_i u v hu hv; cases h; exact ⟨u, v, rfl, rv_toV hu, rvs_toV hv⟩
    · cases h
end

/-- A heap of rows that are read alone. -/
def addK (K : Hp) (l : List CV) : Hp := ⟨(setF AO 4 K.n).s (.k l) K.h, K.n + 1, K.fl⟩
def stdK (rs : List (List CV)) : Hp := rs.foldl addK noHp
theorem stdK_snoc (rs : List (List CV)) (l : List CV) : stdK (rs ++ [l]) = addK (stdK rs) l := by simp [stdK, List.foldl_append]
theorem foldK_n : ∀ (rs : List (List CV)) (K : Hp), (rs.foldl addK K).n = K.n + rs.length ∧ (rs.foldl addK K).fl = K.fl
  | [], _ => ⟨rfl, rfl⟩
  | l :: rs, K => by
    obtain ⟨h1, h2⟩ := foldK_n rs (addK K l)
    exact ⟨by simp only [List.foldl_cons, h1, List.length_cons]; simp only [addK]; omega, by simp only [List.foldl_cons, h2]; rfl⟩
theorem stdK_n (rs : List (List CV)) : (stdK rs).n = rs.length ∧ (stdK rs).fl = 0 := by
  obtain ⟨h1, h2⟩ := foldK_n rs noHp
  exact ⟨by rw [stdK, h1]; simp [noHp], h2⟩
theorem foldK_get : ∀ (rs : List (List CV)) (K : Hp), K.n + rs.length ≤ 4096 → (∀ j, j < K.n → (rs.foldl addK K).get j = K.get j) ∧ ∀ i l, rs[i]? = some l → (rs.foldl addK K).get (K.n + i) = .k l
  | [], _, _ => ⟨fun _ _ => rfl, fun i l h => by simp at h⟩
  | r :: rs, K, hle => by
    simp only [List.length_cons] at hle
    obtain ⟨h1, h2⟩ := foldK_get rs (addK K r) (by simp only [addK]; omega)
    refine ⟨fun j hj => ?_, fun i l h => ?_⟩
    · rw [List.foldl_cons, h1 j (by simp only [addK]; omega)]
      exact Hp.get_set_ne _ _ _ _ _ _ (by omega) (by omega) (by omega)
    · rw [List.foldl_cons]
      cases i with
      | zero =>
        simp at h; subst h
        rw [Nat.add_zero, h1 _ (by simp only [addK]; omega)]
        exact Hp.get_set_same _ _ _ _ _
      | succ i =>
        have := h2 i l (by simpa using h)
        rw [show K.n + (i + 1) = (addK K r).n + i by simp only [addK]; omega]; exact this
theorem stdK_get (rs : List (List CV)) (i : Nat) (l : List CV) (hle : rs.length ≤ 4096) (h : rs[i]? = some l) : (stdK rs).get i = .k l := by
  have := (foldK_get rs noHp (by simp [noHp]; omega)).2 i l h
  rw [show noHp.n + i = i by simp [noHp]] at this
  exact this

theorem WOK.addK {σ : Sg} {w : World} {rs : List (List CV)} (hw : WOK σ (stdK rs) w) (hn : (stdK rs).n < 4096) {l : List CV} {z : Nat × Nat × Nat} (he : ∀ σ' : Sg, (∀ j z, σ j = some z → σ' j = some z) → σ' (stdK rs).n = some z → Ent σ' w (stdK rs).n (.k l)) :
    ∃ σ', (∀ j z, σ j = some z → σ' j = some z) ∧ σ' (stdK rs).n = some z ∧ WOK σ' (stdK (rs ++ [l])) w := by
  obtain ⟨n1, n2⟩ := stdK_n rs
  have hext : ∀ j u, σ j = some u → (fun i => if i = (stdK rs).n then some z else σ i) j = some u := by
    intro j u hu
    have : j ≠ (stdK rs).n := fun hc => by rw [hw.nn j (by omega)] at hu; cases hu
    simp [this, hu]
  have hgetK : ∀ j, j < (stdK (rs ++ [l])).n → ((stdK (rs ++ [l])).get j).wrt = false := by
    intro j hj
    rw [(stdK_n _).1] at hj
    rw [stdK_get _ j (rs ++ [l])[j] (by simp; omega) (by simp [hj])]
    rfl
  refine ⟨_, hext, by simp, ?_⟩
  have hget : ∀ j, j < (stdK rs).n → (stdK (rs ++ [l])).get j = (stdK rs).get j := fun j hj => by
    rw [stdK_snoc]; exact Hp.get_set_ne _ _ _ _ _ _ (by omega) hn (by omega)
  have hself : (stdK (rs ++ [l])).get (stdK rs).n = .k l := by rw [stdK_snoc]; exact Hp.get_set_same _ _ _ _ _
  have hn' : (stdK (rs ++ [l])).n = (stdK rs).n + 1 := by rw [stdK_snoc]; rfl
  refine ⟨fun j hj => ?_, by omega, by rw [(stdK_n _).2]; omega, fun j hj => ?_, fun j j' x x' h1 h2 h3 h4 => ?_⟩
  · have : j ≠ (stdK rs).n := by omega
    simp only [this, if_false]; exact hw.nn j (by omega)
  · by_cases h : j = (stdK rs).n
    · rw [h, hself]; exact he _ hext (by simp)
    · have hj' : j < (stdK rs).n := by omega
      rw [hget j hj']
      refine (hw.ent j hj').mono hext (fun hr => ?_) (fun _ _ _ => rfl)
      have := hw.ent j hj'; rw [hr] at this
      simp only [h, if_false]; exact this
  · rw [hgetK j h1] at h4; cases h4

section
variable {σ : Sg} {H : Hp} {w : World}

def DcOK (σ : Sg) (w : World) (f : CV → Hp → Option (CV × Hp)) : Prop := ∀ x K x' K', f x K = some (x', K') → ∀ rs, K = stdK rs → ∀ σc, WOK σc K w → ∀ y, RV σ x y →
  ∃ rs' σc', K' = stdK rs' ∧ (∀ j z, σc j = some z → σc' j = some z) ∧ WOK σc' K' w ∧ RV σc' x' y

theorem dcs_ok {f : CV → Hp → Option (CV × Hp)} (hf : DcOK σ w f) : ∀ {l : List CV} {K : Hp} {l' : List CV} {K' : Hp}, dcs f l K = some (l', K') → ∀ rs, K = stdK rs → ∀ σc, WOK σc K w → ∀ ys, RVs σ l ys →
    ∃ rs' σc', K' = stdK rs' ∧ (∀ j z, σc j = some z → σc' j = some z) ∧ WOK σc' K' w ∧ RVs σc' l' ys
  | [], K, _, _, h, rs, hK, σc, hw, ys, hr => by cases h; exact ⟨rs, σc, hK, fun _ _ h => h, hw, hr⟩
  | x :: l, K, _, _, h, rs, hK, σc, hw, _, ⟨y, r, rfl, h2, h3⟩ => by
    simp only [dcs] at h
    split at h
    · rename_i x1 K1 hx
      split at h
      · rename_i r1 K2 hl
        cases h
        obtain ⟨rs1, σ1, e1, e2, e3, e4⟩ := hf x K x1 K1 hx rs hK σc hw y h2
        obtain ⟨rs2, σ2, g1, g2, g3, g4⟩ := dcs_ok hf hl rs1 e1 σ1 e3 r h3
        exact ⟨rs2, σ2, g1, fun j z hz => g2 j z (e2 j z hz), g3, y, r, rfl, e4.mono g2, g4⟩
      · cases h
    · cases h

theorem dcR_ok (hw0 : WOK σ H w) {f : CV → Hp → Option (CV × Hp)} (hf : DcOK σ w f) {id : Nat} {K K' : Hp} {g : Nat → CV} {x' : CV} (h : dcR f H id K g = some (x', K')) {rs : List (List CV)} (hK : K = stdK rs) {σc : Sg} (hw : WOK σc K w) {b p c : Nat} (hb : σ id = some (b, p, c)) :
    ∃ rs' σc' m, K' = stdK rs' ∧ (∀ j z, σc j = some z → σc' j = some z) ∧ WOK σc' K' w ∧ x' = g m ∧ σc' m = some (b, p, c) := by
  unfold dcR at h
  split at h
  · rename_i l hl
    split at h
    · rename_i l' K1 hd
      obtain ⟨n1, n2, n3⟩ := Hp.new_eq h
      obtain ⟨b', p', c', arr, et, fr, f1, f2, f3, f4, f5⟩ := rowR_ent hl (hw0.ent id (hw0.lt hb))
      rw [hb] at f1; cases f1
      obtain ⟨rs1, σ1, e1, e2, e3, e4⟩ := dcs_ok hf hd rs hK σc hw _ f5
      subst e1
      have hlen : l'.length = l.length := e4.length.trans f5.length.symm
      obtain ⟨σ2, g1, g2, g3⟩ := e3.addK n1 (l := l') (z := (b, p, c)) (fun σ' hm hid => ⟨b, p, c, arr, et, fr, hid, f2, by omega, f4, by rw [hlen]; exact e4.mono hm⟩)
      refine ⟨rs1 ++ [l'], σ2, (stdK rs1).n, ?_, fun j z hz => g1 j z (e2 j z hz), ?_, n2, g2⟩
      · rw [n3, stdK_snoc]; rfl
      · rw [n3]; rw [stdK_snoc] at g3; exact g3
    · cases h
  · cases h

theorem dc_ok (hw0 : WOK σ H w) : ∀ m, DcOK σ w (dc H m)
  | 0 => fun x K x' K' h => by cases h
  | m + 1 => by
    intro x K x' K' h rs hK σc hw y hr
    have ih := dc_ok hw0 m
    simp only [dc] at h
    split at h
    · cases h; exact ⟨rs, σc, hK, fun _ _ h => h, hw, hr⟩
    · cases h; exact ⟨rs, σc, hK, fun _ _ h => h, hw, hr⟩
    · cases h; exact ⟨rs, σc, hK, fun _ _ h => h, hw, hr⟩
    · split at h
      · rename_i l K1 hd
        cases h
        obtain ⟨ys, rfl, hys⟩ := hr
        obtain ⟨rs1, σ1, e1, e2, e3, e4⟩ := dcs_ok ih hd rs hK σc hw _ hys
        exact ⟨rs1, σ1, e1, e2, e3, ys, rfl, e4⟩
      · cases h
    · obtain ⟨b, p, c, hb, rfl⟩ := hr
      obtain ⟨rs1, σ1, m, e1, e2, e3, rfl, e5⟩ := dcR_ok hw0 ih h hK hw hb
      exact ⟨rs1, σ1, e1, e2, e3, b, p, c, e5, rfl⟩
    · obtain ⟨b, p, c, cap, q, hb, hrest⟩ := hr
      obtain ⟨rs1, σ1, m, e1, e2, e3, rfl, e5⟩ := dcR_ok hw0 ih h hK hw hb
      exact ⟨rs1, σ1, e1, e2, e3, b, p, c, cap, q, e5, hrest⟩
    · obtain ⟨b, p, c, hb, rfl⟩ := hr
      obtain ⟨rs1, σ1, m, e1, e2, e3, rfl, e5⟩ := dcR_ok hw0 ih h hK hw hb
      exact ⟨rs1, σ1, e1, e2, e3, b, p, c, e5, rfl⟩
    · cases h
end

theorem rowsEq_eq : ∀ {rs' : List (List CV)} {rs : List (List CV)} {i : Nat}, rs.length ≤ 4096 → i ≤ rs.length → rowsEq (stdK rs) rs' i = true → rs' = rs.drop i
  | [], rs, i, hle, hi, h => by
    simp only [rowsEq, Nat.beq_eq] at h
    rw [(stdK_n rs).1] at h
    rw [h]; simp
  | l :: rs', rs, i, hle, hi, h => by
    simp only [rowsEq, Bool.and_eq_true] at h
    obtain ⟨h1, h2⟩ := h
    split at h1
    · rename_i m hm
      by_cases hlt : i < rs.length
      · have hg := stdK_get rs i rs[i] hle (by simp [hlt])
        have : m = rs[i] := by simp only [rowR, hg, Option.some.injEq] at hm; exact hm.symm
        subst this
        rw [List.drop_eq_getElem_cons hlt, ← sames_eq h1, ← rowsEq_eq (i := i + 1) hle hlt h2]
      · exfalso
        have : ∀ {rs' : List (List CV)} {j : Nat}, rs.length < j → rowsEq (stdK rs) rs' j = false := by
          intro rs' 
          induction rs' with
          | nil => intro j hj; simp only [rowsEq]; rw [← Bool.not_eq_true, Nat.beq_eq, (stdK_n rs).1]; omega
          | cons a rs' ih => intro j hj; simp only [rowsEq, ih (j := j + 1) (by omega), Bool.and_false]
        rw [this (by omega)] at h2; cases h2
    · cases h1

/-- What the table says of calls holds. -/
def TabOK (P : Program) (t : List (Nat × List CV × List (List CV) × CV)) : Prop := ∀ e, e ∈ t → scalar e.2.2.2 = true ∧ ∀ σ w (vals : Array Value), WOK σ ⟨(stdK e.2.2.1).h, (stdK e.2.2.1).n, (stdK e.2.2.1).n⟩ w → RVs σ e.2.1 vals.toList →
  RunF P e.1 vals w fun rv w' => ∃ σ' H', WOK σ' H' w' ∧ Evo σ ⟨(stdK e.2.2.1).h, (stdK e.2.2.1).n, (stdK e.2.2.1).n⟩ w σ' H' w' ∧ RV σ' e.2.2.2 rv

theorem known_eq {f : Nat} {xs : List CV} {rs : List (List CV)} (hle : rs.length ≤ 4096) {v : CV} : ∀ {t : List (Nat × List CV × List (List CV) × CV)}, known f xs (stdK rs) t = some v → (f, xs, rs, v) ∈ t
  | [], h => by cases h
  | (g, ys, rs', u) :: t, h => by
    simp only [known] at h
    cases hb : Nat.beq f g && sames xs ys && rowsEq (stdK rs) rs' 0 with
    | false => rw [hb] at h; exact List.mem_cons_of_mem _ (known_eq hle h)
    | true =>
      rw [hb] at h; cases h
      simp only [Bool.and_eq_true, Nat.beq_eq] at hb
      obtain ⟨⟨rfl, hx⟩, hr⟩ := hb
      obtain rfl := sames_eq hx
      have := rowsEq_eq (i := 0) hle (Nat.zero_le _) hr
      simp at this
      subst this
      exact List.mem_cons_self

section
variable {C : Cx} {run : Nat → Code → Env → Hp → Out}

theorem callS_ok (hC : COK C) (hT : TabOK C.P C.kt) (hcode : CodeOK C.P run) {f : Nat} {xs : List CV} {H H' : Hp} {v : CV} (h : callS C run f xs H = some (v, H')) {σ : Sg} {w : World} {vals : Array Value} (hw : WOK σ H w) (hr : RVs σ xs vals.toList) :
    RunF C.P f vals w fun rv w' => ∃ σ', WOK σ' H' w' ∧ Evo σ H w σ' H' w' ∧ RV σ' v rv := by
  unfold callS at h
  split at h
  · rename_i ys K hd
    have hw00 : WOK (fun _ => none) noHp w := ⟨fun _ _ => rfl, by simp [noHp], Nat.le_refl _, fun id hi => by simp [noHp] at hi, fun id _ _ _ h1 => by simp [noHp] at h1⟩
    obtain ⟨rs, σc, rfl, _, e3, e4⟩ := dcs_ok (dc_ok hw 6) hd [] rfl _ hw00 _ hr
    have hle : rs.length ≤ 4096 := by have := e3.le; rw [(stdK_n rs).1] at this; exact this
    have hfl : WOK σc ⟨(stdK rs).h, (stdK rs).n, (stdK rs).n⟩ w := e3.floor (by rw [(stdK_n rs).2]; omega) (Nat.le_refl _)
    have fin : ∀ {u : CV}, scalar u = true → RunF C.P f vals w (fun rv w' => ∃ σ' H', WOK σ' H' w' ∧ Evo σc ⟨(stdK rs).h, (stdK rs).n, (stdK rs).n⟩ w σ' H' w' ∧ RV σ' u rv) →
        RunF C.P f vals w fun rv w' => ∃ σ', WOK σ' H w' ∧ Evo σ H w σ' H w' ∧ RV σ' u rv := by
      intro u hu hrun
      refine hrun.mono ?_
      rintro rv w' ⟨σ', H2, k1, k2, k3⟩
      have hheap : ∀ b, b < w.heap.size → w'.heap[b]? = w.heap[b]? := fun b hb => k2.frame b hb fun id x h1 h2 => absurd h1 (Nat.not_lt.2 h2)
      refine ⟨σ, ⟨hw.nn, hw.le, hw.fl, fun id hi => (hw.ent id hi).mono (fun _ _ h => h) (fun hr => by have := hw.ent id hi; rw [hr] at this; exact this) (fun z hz hl => ?_), hw.sep⟩, ⟨k2.same, k2.size, fun _ _ h => h, fun _ _ h => ⟨rfl, h⟩, fun _ _ => rfl, Nat.le_refl _, rfl, fun _ _ => rfl, fun b hb _ => hheap b hb, fun id x h1 h2 h3 h4 _ => ⟨id, x, h1, h2, h3, h4, rfl⟩, fun id x h1 h2 h3 h4 _ => ⟨id, x, h1, h2, h3, h4, rfl⟩⟩, ?_⟩
      · obtain ⟨y, a1, a2⟩ := (hw.ent id hi).blk hl
        rw [hz] at a1; cases a1
        exact hheap _ a2
      · unfold scalar at hu
        split at hu
        · rename_i x hx
          rw [toV_eq hx k3]; exact rv_toV hx
        · cases hu
    split at h
    · rename_i u hk
      cases h
      obtain ⟨t1, t2⟩ := hT _ (known_eq hle hk)
      exact fin t1 (t2 σc w vals hfl e4)
    · split at h
      · rename_i u H2 hcall
        cases hs : scalar u with
        | false => rw [hs] at h; cases h
        | true =>
          rw [hs] at h; cases h
          exact fin hs ((callW_ok hC hcode hcall hfl e4).mono fun rv w' ⟨σ', a, b, c⟩ => ⟨σ', H2, a, b, c⟩)
      · cases h
  · cases h

theorem callF_ok (hC : COK C) (hT : TabOK C.P C.kt) (hcode : CodeOK C.P run) : RnOK C.P (callF C run) := by
  intro f xs H v H' h σ w vals hw hr
  unfold callF at h
  cases h1 : memN C.ks f with
  | true => rw [h1] at h; exact callS_ok hC hT hcode h hw hr
  | false =>
    rw [h1] at h
    simp only [cond_false] at h
    cases h2 : memN C.qf f with
    | true => rw [h2] at h; exact callQ_ok hC hcode h hw hr
    | false =>
      rw [h2] at h
      simp only [cond_false] at h
      cases h3 : memN C.oc f with
      | false => rw [h3] at h; exact callW_ok hC hcode h hw hr
      | true =>
        rw [h3] at h
        simp only [cond_true] at h
        split at h
        · exact callO_ok hC hcode h hw hr
        · exact callW_ok hC hcode h hw hr
end
end Go.Proofs.YtindppnanjcoaaaGreatDoor.Ev
end
section
namespace Go.Proofs.YtindppnanjcoaaaGreatDoor.Ev
open Go

theorem WOK.hide {σ : Sg} {H : Hp} {w : World} (hw : WOK σ H w) {r : Nat} (hr : r < H.n) : WOK σ ⟨(setF AO 4 r).s .free H.h, H.n, H.fl⟩ w := by
  have hle := hw.le
  have hself : (⟨(setF AO 4 r).s .free H.h, H.n, H.fl⟩ : Hp).get r = .free := Hp.get_set_same _ _ _ _ _
  have hget : ∀ j, j < H.n → j ≠ r → (⟨(setF AO 4 r).s .free H.h, H.n, H.fl⟩ : Hp).get j = H.get j := fun j hj hne => Hp.get_set_ne _ _ _ _ _ _ (by omega) (by omega) hne
  refine ⟨hw.nn, hw.le, hw.fl, fun j hj => ?_, fun j j' x x' h1 h2 h3 h4 h5 h6 h7 h8 => ?_⟩
  · by_cases h : j = r
    · rw [h, hself]; trivial
    · rw [hget j hj h]; exact hw.ent j hj
  · by_cases h : j = r
    · rw [h, hself] at h4; cases h4
    · by_cases h' : j' = r
      · rw [h', hself] at h5; cases h5
      · rw [hget j h1 h] at h4; rw [hget j' h2 h'] at h5
        exact hw.sep j j' x x' h1 h2 h3 h4 h5 h6 h7 h8

theorem WOK.unhide {σ σ' : Sg} {H H' : Hp} {w w' : World} (hw : WOK σ H w) {r : Nat} (hr : r < H.n) (hf : H.fl ≤ r) (hw' : WOK σ' H' w') (he : Evo σ ⟨(setF AO 4 r).s .free H.h, H.n, H.fl⟩ w σ' H' w') :
    WOK σ' ⟨(setF AO 4 r).s (H.get r) H'.h, H'.n, H'.fl⟩ w' ∧ Evo σ H w σ' ⟨(setF AO 4 r).s (H.get r) H'.h, H'.n, H'.fl⟩ w' := by
  have hle := hw.le
  have hle' := hw'.le
  have hnn : H.n ≤ H'.n := he.n
  have hfl : H'.fl = H.fl := he.fl
  have hself0 : (⟨(setF AO 4 r).s .free H.h, H.n, H.fl⟩ : Hp).get r = .free := Hp.get_set_same _ _ _ _ _
  have hget0 : ∀ j, j < H.n → j ≠ r → (⟨(setF AO 4 r).s .free H.h, H.n, H.fl⟩ : Hp).get j = H.get j := fun j hj hne => Hp.get_set_ne _ _ _ _ _ _ (by omega) (by omega) hne
  have hself : (⟨(setF AO 4 r).s (H.get r) H'.h, H'.n, H'.fl⟩ : Hp).get r = H.get r := Hp.get_set_same _ _ _ _ _
  have hget : ∀ j, j < H'.n → j ≠ r → (⟨(setF AO 4 r).s (H.get r) H'.h, H'.n, H'.fl⟩ : Hp).get j = H'.get j := fun j hj hne => Hp.get_set_ne _ _ _ _ _ _ (by omega) (by omega) hne
  have hσr : σ' r = σ r := (he.keep r hr (by rw [hself0]; simp)).1
  have hown : ∀ {Q : AO → Bool}, ∀ id0 (x0 : Nat × Nat × Nat), id0 < H.n → Q ((⟨(setF AO 4 r).s .free H.h, H.n, H.fl⟩ : Hp).get id0) = true → Q .free = false → id0 ≠ r ∧ Q (H.get id0) = true := by
    intro Q id0 x0 h1 h2 h3
    by_cases h : id0 = r
    · rw [h, hself0, h3] at h2; cases h2
    · rw [hget0 id0 h1 h] at h2; exact ⟨h, h2⟩
  have hblkr : ∀ x, (H.get r).live = true → σ r = some x → x.1 < w.heap.size := fun x hl hx => by
    obtain ⟨z, h1, h2⟩ := (hw.ent r hr).blk hl
    rw [hx] at h1; cases h1; exact h2
  refine ⟨⟨hw'.nn, hw'.le, hw'.fl, fun j hj => ?_, fun j j' x x' h1 h2 h3 h4 h5 h6 h7 h8 => ?_⟩, ⟨he.same, he.size, he.ext, fun j hj hres => ?_, he.lowS, he.n, hfl, fun j hj => ?_, fun b hb ho => ?_, fun j x h1 h2 h3 h4 h5 => ?_, fun j x h1 h2 h3 h4 h5 => ?_⟩⟩
  · by_cases h : j = r
    · subst h
      rw [hself]
      refine (hw.ent j hr).mono he.ext (fun hrs => by have := hw.ent j hr; rw [hrs] at this; rw [hσr]; exact this) (fun z hz hlv => ?_)
      refine he.frame _ (hblkr z hlv hz) fun id0 x0 k1 k2 k3 k4 k5 => ?_
      obtain ⟨n1, n2⟩ := hown (Q := AO.wrt) id0 x0 k1 k3 rfl
      exact n1 (hw.sep id0 j x0 z k1 hr k2 n2 hlv k4 hz k5)
    · rw [hget j hj h]; exact hw'.ent j hj
  · by_cases h : j = r <;> by_cases h' : j' = r
    · rw [h, h']
    · exfalso
      rw [h, hself] at h4
      rw [h, hσr] at h6
      rw [hget j' h2 h'] at h5
      have hlt := hblkr x (AO.wrt_live h4) h6
      rcases Nat.lt_or_ge j' H.fl with a | a
      · have a' : j' < H.n := Nat.lt_of_lt_of_le a hw.fl
        rw [he.low j' a, hget0 j' a' h'] at h5
        rw [he.lowS j' a] at h7
        exact h' (hw.sep r j' x x' hr a' hf h4 h5 h6 h7 h8).symm
      · obtain ⟨i0, x0, k1, k2, k3, k4, k5⟩ := he.ownL j' x' h2 a h5 h7 (by rw [← h8]; exact hlt)
        obtain ⟨n1, n2⟩ := hown (Q := AO.live) i0 x0 k1 k3 rfl
        exact n1 (hw.sep r i0 x x0 hr k1 hf h4 n2 h6 k4 (by rw [k5, h8])).symm
    · exfalso
      rw [h', hself] at h5
      rw [h', hσr] at h7
      rw [hget j h1 h] at h4
      have hlt := hblkr x' h5 h7
      obtain ⟨i0, x0, k1, k2, k3, k4, k5⟩ := he.own j x h1 (by rw [← hfl]; exact h3) h4 h6 (by rw [h8]; exact hlt)
      obtain ⟨n1, n2⟩ := hown (Q := AO.wrt) i0 x0 k1 k3 rfl
      exact n1 (hw.sep i0 r x0 x' k1 hr k2 n2 h5 k4 h7 (by rw [k5, h8]))
    · rw [hget j h1 h] at h4; rw [hget j' h2 h'] at h5
      exact hw'.sep j j' x x' h1 h2 h3 h4 h5 h6 h7 h8
  · by_cases h : j = r
    · rw [h]; exact ⟨hσr, by rw [hself]; rw [h] at hres; exact hres⟩
    · obtain ⟨k1, k2⟩ := he.keep j hj (by rw [hget0 j hj h]; exact hres)
      exact ⟨k1, by rw [hget j (by omega) h]; exact k2⟩
  · have hj' : j < H.n := Nat.lt_of_lt_of_le hj hw.fl
    rw [hget j (by omega) (by omega), he.low j hj, hget0 j hj' (by omega)]
  · refine he.frame b hb fun id0 x0 k1 k2 k3 k4 k5 => ?_
    obtain ⟨n1, n2⟩ := hown (Q := AO.wrt) id0 x0 k1 k3 rfl
    exact ho id0 x0 k1 k2 n2 k4 k5
  · by_cases h : j = r
    · rw [h, hself] at h3; rw [h, hσr] at h4
      exact ⟨r, x, hr, hf, h3, h4, rfl⟩
    · rw [hget j h1 h] at h3
      obtain ⟨i0, x0, k1, k2, k3, k4, k5⟩ := he.own j x h1 h2 h3 h4 h5
      exact ⟨i0, x0, k1, k2, (hown (Q := AO.wrt) i0 x0 k1 k3 rfl).2, k4, k5⟩
  · by_cases h : j = r
    · rw [h, hself] at h3; rw [h, hσr] at h4
      exact ⟨r, x, hr, hf, h3, h4, rfl⟩
    · rw [hget j h1 h] at h3
      obtain ⟨i0, x0, k1, k2, k3, k4, k5⟩ := he.ownL j x h1 h2 h3 h4 h5
      exact ⟨i0, x0, k1, k2, (hown (Q := AO.live) i0 x0 k1 k3 rfl).2, k4, k5⟩

/-- A place is kept. -/
theorem WOK.keepPlace {σ : Sg} {H : Hp} {w : World} (hw : WOK σ H w) (hn : H.n < 4096) : WOK σ ⟨(setF AO 4 H.n).s .res H.h, H.n + 1, H.fl⟩ w ∧ Evo σ H w σ ⟨(setF AO 4 H.n).s .res H.h, H.n + 1, H.fl⟩ w := by
  have hget : ∀ j, j < H.n → (⟨(setF AO 4 H.n).s .res H.h, H.n + 1, H.fl⟩ : Hp).get j = H.get j := fun j hj => Hp.get_set_ne _ _ _ _ _ _ (by omega) hn (by omega)
  have hself : (⟨(setF AO 4 H.n).s .res H.h, H.n + 1, H.fl⟩ : Hp).get H.n = .res := Hp.get_set_same _ _ _ _ _
  have hfl := hw.fl
  refine ⟨⟨fun j hj => hw.nn j (by simp at hj; omega), hn, Nat.le_succ_of_le hw.fl, fun j hj => ?_, fun j j' x x' h1 h2 h3 h4 h5 h6 h7 h8 => ?_⟩, ⟨⟨rfl, rfl, rfl⟩, Nat.le_refl _, fun _ _ h => h, fun j hj hr => ⟨rfl, by rw [hget j hj]; exact hr⟩, fun _ _ => rfl, Nat.le_succ _, rfl, fun j hj => hget j (by omega), fun _ _ _ => rfl, fun j x h1 h2 h3 h4 _ => ?_, fun j x h1 h2 h3 h4 _ => ?_⟩⟩
  · by_cases h : j = H.n
    · rw [h, hself]; exact hw.nn _ (Nat.le_refl _)
    · have hj' : j < H.n := by simp at hj; omega
      rw [hget j hj']; exact hw.ent j hj'
  · have k1 := hw.lt h6
    have k2 := hw.lt h7
    rw [hget j k1] at h4; rw [hget j' k2] at h5
    exact hw.sep j j' x x' k1 k2 h3 h4 h5 h6 h7 h8
  · have k1 := hw.lt h4
    rw [hget j k1] at h3
    exact ⟨j, x, k1, h2, h3, h4, rfl⟩
  · have k1 := hw.lt h4
    rw [hget j k1] at h3
    exact ⟨j, x, k1, h2, h3, h4, rfl⟩

theorem set_get {α : Type} : ∀ (k i : Nat) (E : Tr α k), (setF α k i).s ((getF α k i).g E) E = E
  | 0, _, _ => rfl
  | k + 1, i, E => by
    rw [getF_succ, setF_succ]
    rcases dig i with h | h | h | h | h | h | h | h <;> rw [h] <;> simp only [pick, s0, s1, s2, s3, s4, s5, s6, s7, g0, g1, g2, g3, g4, g5, g6, g7, Nat.beq, cond_true, cond_false, set_get k (i / 8)] <;> rfl

/- What an operation looks at. -/
section
variable {P : Program} {o : Op} {ty : TypeId} {E E' : Env} {H : Hp} {wq : Option Nat}

theorem map_congr' {l : List Operand} (h : ∀ x, x ∈ l → evO E x = evO E' x) : l.map (evO E) = l.map (evO E') := List.map_congr_left h
theorem omap_congr {x : Option Operand} (h : ∀ y, x = some y → evO E y = evO E' y) : x.map (evO E) = x.map (evO E') := by
  cases x with
  | none => rfl
  | some y => simp [h y rfl]
theorem parts_congr {ps : Array (Nat × Operand)} (h : ∀ x, x ∈ ps.toList.map (·.2) → evO E x = evO E' x) : (ps.toList.map fun p => (p.1, evO E p.2)) = ps.toList.map fun p => (p.1, evO E' p.2) :=
  List.map_congr_left fun p hp => by rw [h p.2 (List.mem_map.2 ⟨p, hp, rfl⟩)]

theorem evOp_congr (hx : ∀ x, x ∈ o.operands → evO E x = evO E' x) : evOp P o ty E H wq = evOp P o ty E' H wq := by
  cases o with
  | box e x => simp only [evOp, hx x (by simp [Op.operands])]
  | build t ps => simp only [evOp, evBuild, parts_congr (fun x h => hx x (by simpa [Op.operands] using h))]
  | buildSlice t len ps => simp only [evOp, evBuildSlice, parts_congr (fun x h => hx x (by simpa [Op.operands] using h))]
  | store t x y => simp only [evOp, hx x (by simp [Op.operands]), hx y (by simp [Op.operands])]
  | nilCheck x => simp only [evOp, hx x (by simp [Op.operands])]
  | makeFunc fn fst cs => simp only [evOp, map_congr' (l := cs.toList) (fun x h => hx x (by simp only [Op.operands, Array.mem_append]; exact .inr (by simpa using h)))]
  | makeSlice t l c => simp only [evOp, hx l (by simp [Op.operands]), hx c (by simp [Op.operands])]
  | slice t x lo hi mx =>
    cases mx with
    | some m => rfl
    | none => simp only [evOp, hx x (by simp [Op.operands]), omap_congr (x := lo) (fun y hy => hx y (by simp [Op.operands, hy])), omap_congr (x := hi) (fun y hy => hx y (by simp [Op.operands, hy]))]
  | indexAddr t x i => simp only [evOp, hx x (by simp [Op.operands]), hx i (by simp [Op.operands])]
  | index t x i => simp only [evOp, hx x (by simp [Op.operands]), hx i (by simp [Op.operands])]
  | lookup t x k ok => simp only [evOp, hx x (by simp [Op.operands]), hx k (by simp [Op.operands])]
  | mapUpdate t x k y => simp only [evOp, hx x (by simp [Op.operands]), hx k (by simp [Op.operands]), hx y (by simp [Op.operands])]
  | insert t x k y => simp only [evOp, hx x (by simp [Op.operands]), hx k (by simp [Op.operands]), hx y (by simp [Op.operands])]
  | range t x => simp only [evOp, hx x (by simp [Op.operands])]
  | entry x => simp only [evOp, hx x (by simp [Op.operands])]
  | convert s d x => simp only [evOp, hx x (by simp [Op.operands])]
  | unOp op t x => simp only [evOp, hx x (by simp [Op.operands])]
  | makeMap t r => cases r <;> rfl
  | call c =>
    obtain ⟨cal, xs, ts⟩ := c
    cases cal with
    | builtin b => simp only [evOp, map_congr' (l := xs.toList) (fun x h => hx x (by simpa [Op.operands, Call.operands] using h))]
    | _ => rfl
  | _ => rfl

theorem exec_congr (hx : ∀ x, x ∈ o.operands → evO E x = evO E' x) : exec P (comp P o ty) E H wq = exec P (comp P o ty) E' H wq := by
  have hv : ∀ {x : Operand}, x ∈ o.operands → evX E (compX x) = evX E' (compX x) := fun h => hx _ h
  have h0 := evOp_congr (P := P) (ty := ty) (H := H) (wq := wq) hx
  cases o with
  | move x => simp only [comp, exec, hv (x := x) (by simp [Op.operands])]
  | assign x => simp only [comp, exec, hv (x := x) (by simp [Op.operands])]
  | binOp op t x y u => simp only [comp, exec, hv (x := x) (by simp [Op.operands]), hv (x := y) (by simp [Op.operands])]
  | load t x =>
    simp only [comp]
    split
    · simp only [exec, hv (x := x) (by simp [Op.operands])]
    · rfl
  | indexAddr t x i =>
    simp only [comp]
    split
    · split
      · simp only [exec, hv (x := x) (by simp [Op.operands]), hv (x := i) (by simp [Op.operands])]
      · rfl
    · exact h0
  | fieldAddr t x k =>
    simp only [comp]
    split
    · split
      · rename_i s _
        cases Nat.beq s 0
        · simp only [cond_false, exec, hv (x := x) (by simp [Op.operands])]
        · rfl
      · rfl
    · rfl
  | pick c a b =>
    simp only [comp, exec, hv (x := c) (by simp [Op.operands])]
    have ha := hv (x := a) (by simp [Op.operands])
    have hb := hv (x := b) (by simp [Op.operands])
    congr 1
    generalize evX E' (compX c) = cc
    unfold exPk
    split
    · rename_i q; cases q
      · simp only [cond_false, hb]
      · simp only [cond_true, ha]
    · rfl
  | extract x i => simp only [comp, exec, hv (x := x) (by simp [Op.operands])]
  | next x s => rfl
  | call c =>
    obtain ⟨cal, xs, ts⟩ := c
    simp only [comp]
    split
    · rfl
    · rename_i x hxs
      split
      · rename_i t _
        cases (elemT P t).isSome
        · exact h0
        · simp only [cond_true, exec]
          have hxm : x ∈ (Op.call ⟨.builtin .len, xs, ts⟩).operands := by simp only [Op.operands, Call.operands]; simp [← Array.mem_toList_iff, hxs]
          rw [hv hxm]
          unfold exLn
          split <;> first | rfl | exact h0
      · exact h0
    · exact h0
  | _ => exact h0

theorem kindO_congr (hx : ∀ x, x ∈ o.operands → evO E x = evO E' x) : kindO E o = kindO E' o := by
  cases o with
  | slice t x lo hi mx => simp only [kindO, hx x (by simp [Op.operands])]
  | lookup t x k ok => simp only [kindO, hx x (by simp [Op.operands])]
  | store t x y => simp only [kindO, hx x (by simp [Op.operands])]
  | convert s d x => simp only [kindO, hx x (by simp [Op.operands])]
  | call c =>
    obtain ⟨cal, xs, ts⟩ := c
    simp only [kindO]
    split
    · split
      · rename_i x hxs
        have hxm : x ∈ (Op.call ⟨.builtin .len, xs, ts⟩).operands := by simp only [Op.operands, Call.operands]; simp [← Array.mem_toList_iff, hxs]
        rw [hx x hxm]
      · rfl
    · rfl
    · rfl
    · rfl
  | _ => rfl

theorem kindI_congr {pair : Bool} (hx : ∀ x, x ∈ o.operands → evO E x = evO E' x) : kindI E (comp P o ty) pair = kindI E' (comp P o ty) pair := by
  have hv : ∀ {x : Operand}, x ∈ o.operands → evX E (compX x) = evX E' (compX x) := fun h => hx _ h
  have h0 := kindO_congr hx
  cases o with
  | load t x =>
    simp only [comp]
    split
    · simp only [kindI, hv (x := x) (by simp [Op.operands])]
    · rfl
  | indexAddr t x i =>
    simp only [comp]
    split
    · split <;> rfl
    · exact h0
  | fieldAddr t x k =>
    simp only [comp]
    split
    · split
      · rename_i s _
        cases Nat.beq s 0 <;> rfl
      · rfl
    · rfl
  | call c =>
    obtain ⟨cal, xs, ts⟩ := c
    simp only [comp]
    split
    · rfl
    · rename_i x hxs
      split
      · rename_i t _
        cases (elemT P t).isSome
        · exact h0
        · simp only [cond_true, kindI]
          have hxm : x ∈ (Op.call ⟨.builtin .len, xs, ts⟩).operands := by simp only [Op.operands, Call.operands]; simp [← Array.mem_toList_iff, hxs]
          rw [hv hxm, h0]
      · exact h0
    · exact h0
  | _ => first | rfl | exact h0

theorem callV_congr {rn : Rn} {f : Operand} {xs : Array Operand} {ts : Array TypeId} (hx : ∀ x, x ∈ (Op.call ⟨.value f, xs, ts⟩).operands → evO E x = evO E' x) : callV rn E (compX f) (xs.toList.map compX) H = callV rn E' (compX f) (xs.toList.map compX) H := by
  have h1 : evX E (compX f) = evX E' (compX f) := hx f (by simp [Op.operands, Call.operands])
  have h2 : (xs.toList.map compX).map (evX E) = (xs.toList.map compX).map (evX E') := by
    rw [List.map_map, List.map_map]
    exact List.map_congr_left fun x h => hx x (by simp only [Op.operands, Call.operands, Array.mem_append]; exact .inr (by simpa using h))
  unfold callV
  rw [h1, h2]
end
end Go.Proofs.YtindppnanjcoaaaGreatDoor.Ev
end
