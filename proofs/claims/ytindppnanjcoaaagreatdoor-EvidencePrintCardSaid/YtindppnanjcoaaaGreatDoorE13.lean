/- Built-in operations on lists. Built-in operations on lists, maps and texts; all operations together. Maps written, iterators, texts as lists; every operation. Conditions: none. -/
import Derived.Test.YtindppnanjcoaaaGreatDoorE9
import Derived.Lib.AppendZerosOnto
section
namespace Go.Proofs.YtindppnanjcoaaaGreatDoor.Ev
open Go
open Ab (OpRuns run_sizeOf' run_zeroValue' Addr.add_none)

theorem WOK.drew {σ : Sg} {H : Hp} {w : World} (hw : WOK σ H w) (d : Nat) : WOK σ H { w with drawn := d } := ⟨hw.nn, hw.le, hw.fl, hw.ent, hw.sep⟩
theorem Evo.drew {σ σ' : Sg} {H H' : Hp} {w w' : World} {d : Nat} (h : Evo σ H { w with drawn := d } σ' H' w') : Evo σ H w σ' H' w' := ⟨h.same, h.size, h.ext, h.keep, h.lowS, h.n, h.fl, h.low, h.frame, h.own, h.ownL⟩

/-- A region that is taken over by a new one: it stands in the same block. -/
theorem WOK.move {σ : Sg} {H : Hp} {w w' : World} (hw : WOK σ H w) {id : Nat} {x : AO} {z y : Nat × Nat × Nat} (hi : id < H.n) (hf : H.fl ≤ id) (hl : (H.get id).wrt = true) (hz : σ id = some z) (hn : H.n < 4096)
    (hy : y.1 = z.1) (hs : w'.os = w.os ∧ w'.tape = w.tape ∧ w'.output = w.output) (hsz : w'.heap.size = w.heap.size) (hh : ∀ b, b ≠ z.1 → w'.heap[b]? = w.heap[b]?) (hx : x ≠ .res)
    (he : ∀ σ' : Sg, (∀ id z, σ id = some z → σ' id = some z) → σ' H.n = some y → Ent σ' w' H.n x) :
    ∃ σ' : Sg, σ' H.n = some y ∧ (∀ j, j ≠ H.n → σ' j = σ j) ∧ WOK σ' ⟨(setF AO 4 H.n).s x ((setF AO 4 id).s .free H.h), H.n + 1, H.fl⟩ w' ∧ Evo σ H w σ' ⟨(setF AO 4 H.n).s x ((setF AO 4 id).s .free H.h), H.n + 1, H.fl⟩ w' := by
  have hget : ∀ j, j < H.n → j ≠ id → (⟨(setF AO 4 H.n).s x ((setF AO 4 id).s .free H.h), H.n + 1, H.fl⟩ : Hp).get j = H.get j := fun j hj hne => by
    rw [Hp.get_set_ne _ _ _ H.n H.fl _ (by omega) hn (by omega)]
    exact Hp.get_set_ne _ _ _ _ _ _ (by omega) (by omega) hne
  have hgid : (⟨(setF AO 4 H.n).s x ((setF AO 4 id).s .free H.h), H.n + 1, H.fl⟩ : Hp).get id = .free := by
    rw [Hp.get_set_ne _ _ _ H.n H.fl _ (by omega) hn (by omega)]
    exact Hp.get_set_same _ _ _ _ _
  have hself : (⟨(setF AO 4 H.n).s x ((setF AO 4 id).s .free H.h), H.n + 1, H.fl⟩ : Hp).get H.n = x := Hp.get_set_same _ _ _ _ _
  have hext : ∀ id z, σ id = some z → (fun i => if i = H.n then some y else σ i) id = some z := by
    intro id z hz
    have : id ≠ H.n := fun hc => by rw [hw.nn id (by omega)] at hz; cases hz
    simp [this, hz]
  refine ⟨fun i => if i = H.n then some y else σ i, by simp, fun j hj => by simp [hj], ⟨fun j hj => ?_, hn, Nat.le_succ_of_le hw.fl, fun j hj => ?_, ?_⟩, ⟨hs, by omega, hext, fun j hj hr => ?_, fun j hj => by have : j ≠ H.n := (by have := hw.fl; omega); simp [this], Nat.le_succ _, rfl, fun j hj => hget j (Nat.lt_of_lt_of_le hj hw.fl) (by omega), ?_, ?_, ?_⟩⟩
  · have : j ≠ H.n := by simp at hj; omega
    simp only [this, if_false]; exact hw.nn j (by simp at hj; omega)
  · by_cases h : j = H.n
    · subst h; rw [hself]; exact he _ hext (by simp)
    · have hj' : j < H.n := by simp at hj; omega
      by_cases hji : j = id
      · subst hji; rw [hgid]; trivial
      · rw [hget j hj' hji]
        exact (hw.ent j hj').mono hext (fun hr => by
          have := hw.ent j hj'; rw [hr] at this
          simp only [h, if_false]; exact this)
          (fun u hu hlu => hh _ fun hc => hji (hw.sep id j z u hi hj' hf hl hlu hz hu hc.symm).symm)
  · intro j j' u u' h1 h2 h3 h4 h5 h6 h7 h8
    by_cases h : j = H.n <;> by_cases h' : j' = H.n
    · omega
    · exfalso
      have hj' : j' < H.n := by simp at h2; omega
      simp only [h, if_true, Option.some.injEq] at h6
      simp only [h', if_false] at h7
      by_cases hji : j' = id
      · rw [hji, hgid] at h5; cases h5
      · rw [hget j' hj' hji] at h5
        exact hji (hw.sep id j' z u' hi hj' hf hl h5 hz h7 (by rw [← h8, ← h6, hy])).symm
    · exfalso
      have hj' : j < H.n := by simp at h1; omega
      simp only [h', if_true, Option.some.injEq] at h7
      simp only [h, if_false] at h6
      by_cases hji : j = id
      · rw [hji, hgid] at h4; cases h4
      · rw [hget j hj' hji] at h4
        exact hji (hw.sep id j z u hi hj' hf hl (AO.wrt_live h4) hz h6 (by rw [h8, ← h7, hy])).symm
    · have k1 : j < H.n := by simp at h1; omega
      have k2 : j' < H.n := by simp at h2; omega
      simp only [h, if_false] at h6
      simp only [h', if_false] at h7
      by_cases hji : j = id
      · rw [hji, hgid] at h4; cases h4
      · by_cases hji' : j' = id
        · rw [hji', hgid] at h5; cases h5
        · rw [hget j k1 hji] at h4
          rw [hget j' k2 hji'] at h5
          exact hw.sep j j' u u' k1 k2 h3 h4 h5 h6 h7 h8
  · have : j ≠ H.n := by omega
    refine ⟨by simp [this], ?_⟩
    by_cases hji : j = id
    · subst hji; rw [hgid]; simp
    · rw [hget j hj hji]; exact hr
  · intro b hb ho
    exact hh b fun hc => ho id z hi hf hl hz hc.symm
  · intro j u h1 h2 h3 h4 h5
    by_cases h : j = H.n
    · simp only [h, if_true, Option.some.injEq] at h4
      exact ⟨id, z, hi, hf, hl, hz, by rw [← h4, hy]⟩
    · have hj' : j < H.n := by simp at h1; omega
      simp only [h, if_false] at h4
      by_cases hji : j = id
      · rw [hji, hgid] at h3; cases h3
      · rw [hget j hj' hji] at h3
        exact ⟨j, u, hj', h2, h3, h4, rfl⟩
  · intro j u h1 h2 h3 h4 h5
    by_cases h : j = H.n
    · simp only [h, if_true, Option.some.injEq] at h4
      exact ⟨id, z, hi, hf, AO.wrt_live hl, hz, by rw [← h4, hy]⟩
    · have hj' : j < H.n := by simp at h1; omega
      simp only [h, if_false] at h4
      by_cases hji : j = id
      · rw [hji, hgid] at h3; cases h3
      · rw [hget j hj' hji] at h3
        exact ⟨j, u, hj', h2, h3, h4, rfl⟩

/-- What is read of a list. -/
theorem sliceCells_rv {P : Program} {σ : Sg} {H : Hp} {w : World} (hw : WOK σ H w) {sz : Nat} {c : CV} {l : List CV} (h : sliceCells H sz c = some l) {y : Value} (hr : RV σ c y) :
    ∃ a n cap news, y = .slice a n cap ∧ l.length = n * sz ∧ news.length = n * sz ∧ RVs σ l news ∧ ∀ n', n' ≤ n → ∀ d, (Builtin.firstCells sz n' y).run P { w with drawn := d } = .ok (news.take (n' * sz)).toArray { w with drawn := d } := by
  have key : ∀ {a : Addr} {n cap : Nat} {news : List Value}, y = .slice (some a) n cap → news.length = n * sz → (∀ j v, news[j]? = some v → w.cell? (a.add j) = some v) →
      ∀ n', n' ≤ n → ∀ d, (Builtin.firstCells sz n' y).run P { w with drawn := d } = .ok (news.take (n' * sz)).toArray { w with drawn := d } := by
    intro a n cap news hy hl hc n' hn d
    subst hy
    have hle : n' * sz ≤ n * sz := Nat.mul_le_mul_right _ hn
    exact run_firstCells_some (P := P) { w with drawn := d } sz n' a n cap (news.take (n' * sz)) (by simp; omega) (fun j v hv => by
      have hj : j < n' * sz := by have := (List.getElem?_eq_some_iff.1 hv).1; simp at this; omega
      rw [List.getElem?_take, if_pos hj] at hv
      exact hc j v hv)
  unfold sliceCells at h
  split at h
  · rename_i id o len cap
    obtain ⟨b, p, c, hb, rfl⟩ := hr
    split at h
    · rename_i L hL
      obtain ⟨f, f1, f2, _⟩ := (rowR_ent hL (hw.ent id (hw.lt hb))).seg hb h
      have hlen := f1.length
      simp only [List.length_map, List.length_range] at hlen
      exact ⟨_, len, cap, _, rfl, hlen, by simp, f1, key rfl (by simp) fun j v hv => by
        have hj : j < len * sz := by have := (List.getElem?_eq_some_iff.1 hv).1; simpa using this
        rw [Addr.add_none, f2 j hj]
        rw [Ab.range_map_get f _ _ hj] at hv; exact hv⟩
    · cases h
  · rename_i id k len s
    obtain ⟨b, p, c, cap, q, hb, rfl, hc, hle, hs0, hcap, hq⟩ := hr
    cases hss : Nat.beq s sz with
    | false => rw [hss] at h; cases h
    | true =>
      rw [hss] at h
      rw [Nat.beq_eq] at hss
      subst hss
      simp only [cond_true] at h
      split at h
      · rename_i L hL
        obtain ⟨f, f1, f2, _⟩ := (rowR_ent hL (hw.ent id (hw.lt hb))).seg hb h
        have hlen := f1.length
        simp only [List.length_map, List.length_range] at hlen
        refine ⟨_, len, cap, _, rfl, hlen, by simp, f1, key rfl (by simp) fun j v hv => ?_⟩
        have hj : j < len * s := by have := (List.getElem?_eq_some_iff.1 hv).1; simpa using this
        have hlen0 : 0 < len := by
          rcases Nat.eq_zero_or_pos len with h0 | h0
          · rw [h0] at hj; simp at hj
          · exact h0
        rw [hq (by omega), Addr.add_none, f2 j hj]
        rw [Ab.range_map_get f _ _ hj] at hv; exact hv
      · cases h
  · cases h
    obtain rfl : y = .slice none 0 0 := hr
    exact ⟨none, 0, 0, [], rfl, by simp, by simp, rfl, fun n' hn d => by simp [run_firstCells_none]⟩
  · cases h

section
variable {P : Program} {o : Op} {ty : TypeId} {ρ : Operand → CV} {H H' : Hp} {v : CV} {wq : Option Nat}

theorem run_app_grow {t u e e' : TypeId} {i : TypeInfo} {z : Value} (w : World) (ht : P.underlying t = some (.slice e)) (hu : P.underlying u = some (.slice e')) (hi : P.info? e = some i) (hz : i.zero = some z)
    (base : Option Addr) (sLen sCap : Nat) (a : Option Addr) (n c : Nat) (olds news : List Value)
    (ho : (Builtin.firstCells i.size sLen (.slice base sLen sCap)).run P w.drew = .ok olds.toArray w.drew) (hn : (Builtin.firstCells i.size n (.slice a n c)).run P w.drew = .ok news.toArray w.drew)
    (hg : sCap < sLen + n) (h63 : ((sLen + n : Nat) : Int) ≤ 9223372036854775807) (hfit : Builtin.nextslicecap (sLen + n) sCap * i.bytes ≤ 281474976710656) :
    (Builtin.append_ #[t, u] ty #[.slice base sLen sCap, .slice a n c]).run P w =
      .ok (.slice (some ⟨w.heap.size, 0, none⟩) (sLen + n) (grownCap w (sLen + n) sCap e))
        (w.drew.alloc (.cells (olds.toArray ++ news.toArray ++ Builtin.zeroCells z.cells (grownCap w (sLen + n) sCap e - (sLen + n))) e)) := by
  have hn' : ¬ (sLen + n ≤ sCap) := by omega
  have h63' : ¬ (9223372036854775807 < ((sLen : Int) + (n : Int))) := by omega
  have h48' : ¬ (281474976710656 < Builtin.nextslicecap (sLen + n) sCap * i.bytes) := by omega
  simp [Builtin.append_, run_underlying ht, run_underlying hu, sizeOf, typeInfo, zeroValue, hi, hz, Builtin.lenOf, hn', h63', h48', Question.forced, ho, hn, newRow, grownCap]
  congr 2
  apply Array.ext'
  simp [List.append_assoc]

theorem run_app_room {t u e e' : TypeId} {i : TypeInfo} {w w' : World} (ht : P.underlying t = some (.slice e)) (hu : P.underlying u = some (.slice e')) (hi : P.info? e = some i)
    (b : Addr) (sLen sCap : Nat) (a : Option Addr) (n c : Nat) (news : List Value)
    (hn : (Builtin.firstCells i.size n (.slice a n c)).run P w = .ok news.toArray w) (hst : (storeCells (b.add (sLen * i.size)) news).run P w = .ok () w') (hg : sLen + n ≤ sCap) :
    (Builtin.append_ #[t, u] ty #[.slice (some b) sLen sCap, .slice a n c]).run P w = .ok (.slice (some b) (sLen + n) sCap) w' := by
  simp [Builtin.append_, run_underlying ht, run_underlying hu, sizeOf, typeInfo, hi, Builtin.lenOf, hg, hn, hst]

theorem run_app_none {t u e e' : TypeId} {i : TypeInfo} {w : World} (ht : P.underlying t = some (.slice e)) (hu : P.underlying u = some (.slice e')) (hi : P.info? e = some i) (a : Option Addr) (c : Nat) :
    (Builtin.append_ #[t, u] ty #[.slice none 0 0, .slice a 0 c]).run P w = .ok (.slice none 0 0) w := by
  have hf : (Builtin.firstCells i.size 0 (.slice a 0 c)).run P w = .ok #[] w := by cases a <;> simp [Builtin.firstCells, loadCells, loadCellsFrom]
  simp [Builtin.append_, run_underlying ht, run_underlying hu, sizeOf, typeInfo, hi, Builtin.lenOf, hf]

/-- A list that grew into a new block. -/
theorem grown_rv {σ : Sg} {w : World} (hw : WOK σ H w) {cs : List CV} {vs : List Value} {need C s : Nat} {e : TypeId} {rest : Array Value} {arr : Array Value} (hn : H.new (.c cs) (.so · 0 need s) = some (v, H')) (hr : RVs σ cs vs)
    (ha : arr = vs.toArray ++ rest) (hcs : cs.length = need * s) (hC : need ≤ C) (hC2 : C ≤ 9223372036854775807) (hs : 0 < s) (hsz : arr.size = C * s) :
    ∃ σ', WOK σ' H' (w.drew.alloc (.cells arr e)) ∧ Evo σ H w σ' H' (w.drew.alloc (.cells arr e)) ∧ RV σ' v (.slice (some ⟨w.heap.size, 0, none⟩) need C) := by
  obtain ⟨e1, e2, e3⟩ := Hp.new_eq hn
  subst e3
  have hlen := hr.length
  obtain ⟨σ', k1, k2, k3⟩ := (hw.drew (w.drawn + 1)).new (o := .cells arr e) (y := (0, C * s)) e1 (x := .c cs) (by simp) (fun σ' hm hid => by
    refine ⟨_, 0, C * s, arr, e, hid, by simp, by rw [hcs]; exact Nat.mul_le_mul_right _ hC, by omega, ?_⟩
    have : (arr.toList.drop 0).take cs.length = vs := by
      subst ha; simp [hlen]
    rw [this]; exact hr.mono hm)
  exact ⟨σ', k2, k3.drew, by rw [e2]; exact ⟨_, _, _, C, 0, k1, rfl, by simp, hC, hs, hC2, by simp⟩⟩

theorem length_div {n s m : Nat} (h : m = n * s) (hs : 0 < s) : m / s = n := by rw [h, Nat.mul_div_cancel _ hs]

theorem appendTo_ok {t u e e' : TypeId} {i : TypeInfo} {z : Value} {x y : Operand} {new : List CV} (ht : P.underlying t = some (.slice e)) (hu : P.underlying u = some (.slice e')) (hi : P.info? e = some i) (hz : i.zero = some z)
    (hzs : z.cells.size = i.size) (hs0 : 0 < i.size) (hby : i.bytes ≤ 65536) (hn : sliceCells H i.size (ρ y) = some new) (h : appendTo H i.size (ρ x) new = some (v, H')) :
    OK1 P (.call ⟨.builtin .append, #[x, y], #[t, u]⟩) ty ρ H v H' :=
  OK1.of fun σ w r hw hx => by
    have h1 := hx x (by simp [Op.operands, Call.operands])
    have h2 := hx y (by simp [Op.operands, Call.operands])
    suffices hg : ∃ rv w' σ', (Builtin.append_ #[t, u] ty #[r x, r y]).run P w = .ok rv w' ∧ WOK σ' H' w' ∧ Evo σ H w σ' H' w' ∧ RV σ' v rv by
      obtain ⟨rv, w', σ', e1, e2⟩ := hg
      exact ⟨rv, w', σ', fun _ _ _ _ => by simp [execOp, resolve, invoke, builtin, e1], e2⟩
    obtain ⟨ay, n, cy, news, hry, hnl, hnl2, hnr, hnf⟩ := sliceCells_rv (P := P) hw hn h2
    have hnd : new.length / i.size = n := length_div hnl hs0
    have hnf0 : ∀ d, (Builtin.firstCells i.size n (.slice ay n cy)).run P { w with drawn := d } = .ok news.toArray { w with drawn := d } := fun d => by
      have := hnf n (Nat.le_refl _) d
      rw [hry, ← hnl2, List.take_length] at this; exact this
    rw [hry]
    generalize hcx : ρ x = cx at h h1
    have hfit : ∀ need old, need ≤ 250 → old < need → Builtin.nextslicecap need old * i.bytes ≤ 281474976710656 := fun need old hle ho =>
      growslice_fits ho (by have := Nat.mul_le_mul hle hby; omega)
    have hgrow : ∀ (base : Option Addr) (sLen sCap : Nat) (old : List CV) (olds : List Value), r x = .slice base sLen sCap → old.length = sLen * i.size → RVs σ old olds →
        (Builtin.firstCells i.size sLen (.slice base sLen sCap)).run P w.drew = .ok olds.toArray w.drew → sCap < sLen + n → sLen + n ≤ 250 → ∀ (H0 H1 : Hp), WOK σ H0 w → Evo σ H w σ H0 w → H0.new (.c (old ++ new)) (.so · 0 (sLen + n) i.size) = some (v, H1) →
        ∃ rv w' σ', (Builtin.append_ #[t, u] ty #[r x, .slice ay n cy]).run P w = .ok rv w' ∧ WOK σ' H1 w' ∧ Evo σ H w σ' H1 w' ∧ RV σ' v rv := by
      intro base sLen sCap old olds hrx hol hor hof hlt hle H0 H1 hw0 hev0 hnew
      have hrun := run_app_grow (P := P) (ty := ty) w ht hu hi hz base sLen sCap ay n cy olds news hof (hnf0 _) hlt (by omega) (hfit _ _ hle hlt)
      have hC := grownCap_ge w (sLen + n) sCap e
      have hC2 : grownCap w (sLen + n) sCap e ≤ 9223372036854775807 := by
        have := grownCap_le_maxLen w (sLen + n) sCap e (by simp only [maxLen]; omega)
        simpa [maxLen] using this
      have hol2 := hor.length
      obtain ⟨σ', k1, k2, k3⟩ := grown_rv (e := e) (C := grownCap w (sLen + n) sCap e) (rest := Builtin.zeroCells z.cells (grownCap w (sLen + n) sCap e - (sLen + n)))
        (arr := olds.toArray ++ news.toArray ++ Builtin.zeroCells z.cells (grownCap w (sLen + n) sCap e - (sLen + n))) hw0 hnew (hor.append hnr) (by simp) (by rw [List.length_append, hol, hnl, Nat.add_mul]) hC hC2 hs0 (by
          simp only [Array.size_append, List.size_toArray, hnl2, size_zeroCells, hzs]
          rw [← hol2, hol, ← Nat.add_mul, ← Nat.add_mul]; congr 1; omega)
      exact ⟨_, _, σ', by rw [hrx]; exact hrun, k1, hev0.trans k2, k3⟩
    unfold appendTo at h
    simp only [hnd] at h
    split at h
    · have hrx : r x = .slice none 0 0 := h1
      cases hn0 : Nat.beq n 0 with
      | true =>
        rw [hn0] at h; cases h
        rw [Nat.beq_eq] at hn0
        subst hn0
        rw [hrx]
        exact ⟨_, w, σ, run_app_none ht hu hi ay cy, hw, .refl _ _ _, rfl⟩
      | false =>
        rw [hn0] at h
        simp only [cond_false] at h
        have hn0 : n ≠ 0 := fun hc => by rw [hc] at hn0; cases hn0
        cases hle : Nat.ble n 250 with
        | false => rw [hle] at h; cases h
        | true =>
          rw [hle] at h
          rw [Nat.ble_eq] at hle
          simp only [cond_true] at h
          exact hgrow none 0 0 [] [] hrx (by simp) rfl (by simp [run_firstCells_none]) (by omega) (by omega) H H' hw (.refl _ _ _) (by simpa using h)
    · rename_i id off len cap
      obtain ⟨b, p, c, hb, hrx⟩ := h1
      cases hroom : Nat.ble (len + n) cap with
      | true =>
        rw [hroom] at h
        rw [Nat.ble_eq] at hroom
        simp only [cond_true] at h
        cases hone : new.all oneCell with
        | false => rw [hone] at h; cases h
        | true =>
          rw [hone] at h
          simp only [cond_true] at h
          split at h
          · rename_i l hl
            split at h
            · rename_i l' hsp
              split at h
              · rename_i H1 hwr
                cases h
                obtain ⟨w', k1, k2, k3⟩ := hw.store (P := P) hb hl hsp hnr (ones_rv hone hnr) hwr
                refine ⟨_, w', σ, ?_, k2, k3, b, p, c, hb, rfl⟩
                rw [hrx]
                exact run_app_room ht hu hi _ len cap ay n cy news (hnf0 _) (by rw [Addr.add_none, Nat.add_assoc]; exact k1) hroom
              · cases h
            · cases h
          · cases h
      | false =>
        rw [hroom] at h
        simp only [cond_false] at h
        have hroom : ¬ (len + n ≤ cap) := fun hc => by rw [show Nat.ble (len + n) cap = true by rw [Nat.ble_eq]; exact hc] at hroom; cases hroom
        cases hle : Nat.ble (len + n) 250 with
        | false => rw [hle] at h; cases h
        | true =>
          rw [hle] at h
          rw [Nat.ble_eq] at hle
          simp only [cond_true] at h
          split at h
          · rename_i old hold
            obtain ⟨ao, no, co, olds, hro, hol, hol2, hor, hof⟩ := sliceCells_rv (P := P) hw hold (y := r x) ⟨b, p, c, hb, hrx⟩
            rw [hrx] at hro; cases hro
            have hof0 := hof len (Nat.le_refl _) (w.drawn + 1)
            rw [hrx, ← hol2, List.take_length] at hof0
            exact hgrow _ len cap old olds hrx hol hor hof0 (by omega) hle H H' hw (.refl _ _ _) h
          · cases h
    · rename_i id k len s
      have hr0 := h1
      obtain ⟨b, p, c, cap, q, hb, hrx, hc, hle0, hss0, hcap, hq⟩ := h1
      cases hcd : Nat.ble (len + n) 250 && Nat.blt 0 n && new.all oneCell && Nat.beq s i.size with
      | false => rw [hcd] at h; cases h
      | true =>
        rw [hcd] at h
        simp only [cond_true] at h
        simp only [Bool.and_eq_true, Nat.ble_eq, Nat.blt_eq, Nat.beq_eq] at hcd
        obtain ⟨⟨⟨hle, hn0⟩, hone⟩, rfl⟩ := hcd
        split at h
        · rename_i L old hL hold
          split at h
          · rename_i H0 hwr
            obtain ⟨hf, rfl⟩ := Hp.wr_eq hwr
            have hid := hw.lt hb
            have hg := row_eq hL
            obtain ⟨hw0, hev0⟩ := hw.wr (w' := w) (x := .free) hid hf (by rw [hg]; rfl) hb ⟨rfl, rfl, rfl⟩ rfl (fun _ _ => rfl) (by simp) trivial
            obtain ⟨ao, no, co, olds, hro, hol, hol2, hor, hof⟩ := sliceCells_rv (P := P) hw hold hr0
            rw [hrx] at hro; cases hro
            have hof0 := hof len (Nat.le_refl _) (w.drawn + 1)
            rw [hrx, ← hol2, List.take_length] at hof0
            by_cases hroom : len + n ≤ cap
            · -- it grows where it stands
              have hq := hq (by omega)
              subst hq
              have hent := hw.ent id hid
              rw [hg] at hent
              obtain ⟨b', p', c', arr, et, f1, f2, f3, f4, f5⟩ := hent
              rw [hb] at f1; cases f1
              have hmul : (k + cap) * i.size = k * i.size + cap * i.size := Nat.add_mul _ _ _
              have hmul2 : (len + n) * i.size = len * i.size + n * i.size := Nat.add_mul _ _ _
              have hmul3 : (len + n) * i.size ≤ cap * i.size := Nat.mul_le_mul_right _ hroom
              have hst := run_storeCells_at P b (p + k * i.size + len * i.size) et news 0 arr w f2 (by omega) (ones_rv hone hnr)
              simp only [Nat.add_zero] at hst
              obtain ⟨n1, n2, n3⟩ := Hp.new_eq h
              subst n3
              have hrun := run_app_room (P := P) (ty := ty) ht hu hi ⟨b, p + k * i.size, none⟩ len cap ay n cy news (hnf0 _) (by rw [Addr.add_none]; exact hst) hroom
              have hc0 : c - k * i.size = cap * i.size := by rw [← hc, hmul]; omega
              have hold2 : news.length = n * i.size := hnl2
              obtain ⟨σ', k1, _, k2, k3⟩ := hw.move (w' := w.setRow b (arr.toList.take (p + k * i.size + len * i.size) ++ news ++ arr.toList.drop (p + k * i.size + len * i.size + news.length)).toArray) (x := .c (old ++ new)) (y := (b, p + k * i.size, c - k * i.size))
                hid hf (by rw [hg]; rfl) hb n1 rfl ⟨rfl, rfl, rfl⟩ (setRow_size w b _) (fun b' hne => setRow_other w b b' _ hne) (by simp) (fun σ' hm hid' => by
                  refine ⟨b, p + k * i.size, c - k * i.size, _, et, hid', setRow_heap w b arr _ et _ f2, ?_, ?_, ?_⟩
                  · rw [List.length_append, hol, hnl, hc0]; omega
                  · simp; omega
                  · have e1 : (List.take (old ++ new).length (List.drop (p + k * i.size) (arr.toList.take (p + k * i.size + len * i.size) ++ news ++ arr.toList.drop (p + k * i.size + len * i.size + news.length)))) = olds ++ news := by
                      have e2 : olds = (arr.toList.drop (p + k * i.size)).take (len * i.size) := by
                        have h9 := hof len (Nat.le_refl _) w.drawn
                        have hcells : ∀ j v, ((arr.toList.drop (p + k * i.size)).take (len * i.size))[j]? = some v → w.cell? ((⟨b, p + k * i.size, none⟩ : Addr).add j) = some v := by
                          intro j v hv
                          have hj : j < len * i.size := by have := (List.getElem?_eq_some_iff.1 hv).1; simp at this; omega
                          rw [List.getElem?_take, if_pos hj, List.getElem?_drop, Array.getElem?_toList] at hv
                          simp [Addr.add_none, World.cell?, f2, hv]
                        have h8 := run_firstCells_some (P := P) w i.size len ⟨b, p + k * i.size, none⟩ len cap _ (by simp; omega) hcells
                        rw [hrx, ← hol2, List.take_length] at h9
                        have h7 : Result.ok olds.toArray w = Result.ok ((arr.toList.drop (p + k * i.size)).take (len * i.size)).toArray w := h9.symm.trans h8
                        injection h7 with h7
                        exact List.toArray_inj h7
                      have l0 : (old ++ new).length = len * i.size + news.length := by rw [List.length_append, hol, hnl, hnl2]
                      rw [l0]
                      have l1 : (arr.toList.take (p + k * i.size + len * i.size)).length = p + k * i.size + len * i.size := by simp; omega
                      have d1 : List.drop (p + k * i.size) (arr.toList.take (p + k * i.size + len * i.size) ++ news ++ arr.toList.drop (p + k * i.size + len * i.size + news.length)) = olds ++ (news ++ arr.toList.drop (p + k * i.size + len * i.size + news.length)) := by
                        rw [List.append_assoc, List.drop_append_of_le_length (by omega), e2, List.drop_take, show p + k * i.size + len * i.size - (p + k * i.size) = len * i.size by omega]
                      rw [d1, ← List.append_assoc, ← hol2, ← List.length_append, List.take_left']
                      rfl
                    show RVs σ' (old ++ new) (List.take (old ++ new).length (List.drop (p + k * i.size) (arr.toList.take (p + k * i.size + len * i.size) ++ news ++ arr.toList.drop (p + k * i.size + len * i.size + news.length))))
                    rw [e1]
                    exact (hor.append hnr).mono hm)
              refine ⟨_, _, σ', by rw [hrx]; exact hrun, k2, k3, ?_⟩
              rw [n2]
              exact ⟨b, p + k * i.size, c - k * i.size, cap, p + k * i.size, k1, rfl, by rw [hc0]; simp, hroom, hs0, hcap, by simp⟩
            · exact hgrow _ len cap old olds hrx hol hor hof0 (by omega) hle _ H' hw0 hev0 h
          · cases h
        · cases h
    · cases h
end
end Go.Proofs.YtindppnanjcoaaaGreatDoor.Ev
end
section
namespace Go.Proofs.YtindppnanjcoaaaGreatDoor.Ev
open Go
open Ab (OpRuns run_sizeOf' run_zeroValue' Addr.add_none)

section
variable {P : Program} {o : Op} {ty : TypeId} {ρ : Operand → CV} {H H' : Hp} {v : CV} {wq : Option Nat}

theorem ok_append {ts : Array TypeId} {x y : Operand} (h : evAppend P H ts (ρ x) (ρ y) = some (v, H')) : OK1 P (.call ⟨.builtin .append, #[x, y], ts⟩) ty ρ H v H' := by
  unfold evAppend at h
  split at h
  · rename_i t u hts
    obtain rfl : ts = #[t, u] := by rw [← Array.toArray_toList (xs := ts), hts]
    split at h
    · rename_i e he
      split at h
      · rename_i sz z hs hz
        cases hb : Nat.beq sz z.length && Nat.blt 0 sz && smallT P e with
        | false => rw [hb] at h; cases h
        | true =>
          rw [hb] at h
          simp only [cond_true] at h
          simp only [Bool.and_eq_true, Nat.beq_eq, Nat.blt_eq] at hb
          obtain ⟨i, zv, hi, hzv, rfl⟩ := zeroT_eq hz
          obtain ⟨ie, hie, rfl⟩ := sizeT_eq hs
          rw [hi] at hie; cases hie
          obtain ⟨i2, hi2, hby⟩ := smallT_eq hb.2
          rw [hi] at hi2; cases hi2
          have hzs : zv.cells.size = i.size := by have := hb.1.1; simp at this; omega
          cases hu : (elemT P u).isSome with
          | true =>
            rw [hu] at h
            simp only [cond_true] at h
            obtain ⟨e', hu⟩ := Option.isSome_iff_exists.1 hu
            split at h
            · rename_i new hn
              exact appendTo_ok (elemT_eq he) (elemT_eq hu) hi hzv hzs hb.1.2 hby hn h
            · cases h
          | false =>
            rw [hu] at h
            simp only [cond_false] at h
            split at h
            · rename_i kn k n htn hyn
              cases hle : Nat.ble n 250 with
              | false => rw [hle] at h; cases h
              | true =>
                rw [hle] at h
                simp only [cond_true] at h
                rw [Nat.ble_eq] at hle
                refine OK1.of fun σ w r hw hx => ?_
                have h1 := hx x (by simp [Op.operands, Call.operands])
                have h2 := hx y (by simp [Op.operands, Call.operands])
                rw [hyn] at h2
                have hry : r y = .int k (n : Int) := h2
                suffices hg : ∃ rv w' σ', (Builtin.append_ #[t, u] ty #[r x, r y]).run P w = .ok rv w' ∧ WOK σ' H' w' ∧ Evo σ H w σ' H' w' ∧ RV σ' v rv by
                  obtain ⟨rv, w', σ', e1, e2⟩ := hg
                  exact ⟨rv, w', σ', fun _ _ _ _ => by simp [execOp, resolve, invoke, builtin, e1], e2⟩
                rw [hry]
                have hz0 : RVs σ (rep n (zv.cells.toList.map cv1)) (Builtin.zeroCells zv.cells n).toList := made_rv σ zv.cells n
                have hlz : (rep n (zv.cells.toList.map cv1)).length = n * i.size := by
                  have := hz0.length; rw [this, Array.length_toList, size_zeroCells, hzs]
                have hgrow : ∀ (base : Option Addr) (sLen sCap : Nat) (old : List CV) (olds : List Value), r x = .slice base sLen sCap → old.length = sLen * i.size → RVs σ old olds →
                    (Builtin.firstCells i.size sLen (.slice base sLen sCap)).run P w.drew = .ok olds.toArray w.drew → sCap < sLen + n → sLen + n ≤ 250 → 0 < n → H.new (.c (old ++ rep n (zv.cells.toList.map cv1))) (.so · 0 (sLen + n) i.size) = some (v, H') →
                    ∃ rv w' σ', (Builtin.append_ #[t, u] ty #[r x, .int k (n : Int)]).run P w = .ok rv w' ∧ WOK σ' H' w' ∧ Evo σ H w σ' H' w' ∧ RV σ' v rv := by
                  intro base sLen sCap old olds hrx hol hor hof hlt hle2 hn0 hnew
                  have hfit : Builtin.nextslicecap (sLen + n) sCap * i.bytes ≤ 281474976710656 := growslice_fits hlt (by have := Nat.mul_le_mul hle2 hby; omega)
                  have hrun := Lib.run_append_grow_zeros (P := P) w t u ty e i zv k kn (elemT_eq he) htn hi hzv base sLen sCap olds hof n hn0 hb.1.2 hlt (by omega) (by have := Nat.mul_le_mul hle hby; omega) hfit
                  have hC := grownCap_ge w (sLen + n) sCap e
                  have hC2 : grownCap w (sLen + n) sCap e ≤ 9223372036854775807 := by
                    have := grownCap_le_maxLen w (sLen + n) sCap e (by simp only [maxLen]; omega)
                    simpa [maxLen] using this
                  have hol2 := hor.length
                  obtain ⟨σ', k1, k2, k3⟩ := grown_rv (e := e) (C := grownCap w (sLen + n) sCap e) (rest := Builtin.zeroCells zv.cells (grownCap w (sLen + n) sCap e - (sLen + n)))
                    (arr := olds.toArray ++ Builtin.zeroCells zv.cells n ++ Builtin.zeroCells zv.cells (grownCap w (sLen + n) sCap e - (sLen + n))) hw hnew (hor.append hz0) (by apply Array.ext'; simp) (by rw [List.length_append, hol, hlz, Nat.add_mul]) hC hC2 hb.1.2 (by
                      simp only [Array.size_append, List.size_toArray, size_zeroCells, hzs]
                      rw [← hol2, hol, ← Nat.add_mul, ← Nat.add_mul]; congr 1; omega)
                  exact ⟨_, _, σ', by rw [hrx]; exact hrun, k1, k2, k3⟩
                unfold appendZ at h
                generalize hcx : ρ x = cx at h h1
                split at h
                · have hrx : r x = .slice none 0 0 := h1
                  cases hc : Nat.blt 0 n && Nat.ble n 250 with
                  | false => rw [hc] at h; cases h
                  | true =>
                    rw [hc] at h
                    simp only [Bool.and_eq_true, Nat.blt_eq, Nat.ble_eq] at hc
                    simp only [cond_true] at h
                    exact hgrow none 0 0 [] [] hrx (by simp) rfl (by simp [run_firstCells_none]) (by omega) (by omega) hc.1 (by simpa using h)
                · rename_i id off len cap
                  cases hc : Nat.blt cap (len + n) && Nat.ble (len + n) 250 && Nat.blt 0 n with
                  | false => rw [hc] at h; cases h
                  | true =>
                    rw [hc] at h
                    simp only [Bool.and_eq_true, Nat.blt_eq, Nat.ble_eq] at hc
                    simp only [cond_true] at h
                    split at h
                    · rename_i old hold
                      have h1' := h1
                      obtain ⟨b, p, c, hbk, hrx⟩ := h1
                      obtain ⟨ao, no, co, olds, hro, hol, hol2, hor, hof⟩ := sliceCells_rv (P := P) hw hold h1'
                      rw [hrx] at hro; cases hro
                      have hof0 := hof len (Nat.le_refl _) (w.drawn + 1)
                      rw [hrx, ← hol2, List.take_length] at hof0
                      exact hgrow _ len cap old olds hrx hol hor hof0 hc.1.1 hc.1.2 hc.2 h
                    · cases h
                · cases h
            · cases h
      · cases h
    · cases h
  · cases h

theorem ok_copy {ts : Array TypeId} {x y : Operand} (h : evCopy P H ts (ρ x) (ρ y) = some (v, H')) : OK1 P (.call ⟨.builtin .copy, #[x, y], ts⟩) ty ρ H v H' :=
  OK1.of fun σ w r hw hx => by
    have h1 := hx x (by simp [Op.operands, Call.operands])
    have h2 := hx y (by simp [Op.operands, Call.operands])
    generalize ρ x = cx at h h1
    unfold evCopy at h
    split at h
    · rename_i id k len s t rest hts
      have ht0 : ts[0]? = some t := by rw [← Array.getElem?_toList, hts]; rfl
      split at h
      · rename_i e he
        split at h
        · rename_i sz hs
          cases hss : Nat.beq s sz with
          | false => rw [hss] at h; cases h
          | true =>
            rw [hss] at h
            rw [Nat.beq_eq] at hss
            subst hss
            simp only [cond_true] at h
            split at h
            · rename_i src l hsrc hl
              obtain ⟨b, p, c, cap, q, hb, hrx, hc, hle, hs0, hcap, hq⟩ := h1
              obtain ⟨ay, n, cy, news, hry, hnl, hnl2, hnr, hnf⟩ := sliceCells_rv (P := P) hw hsrc h2
              have hnd : src.length / s = n := length_div hnl hs0
              rw [hnd] at h
              split at h
              · rename_i src' htk
                obtain ⟨e1, e2⟩ := tk_eq htk
                cases hone : src'.all oneCell with
                | false => rw [hone] at h; cases h
                | true =>
                  rw [hone] at h
                  simp only [cond_true] at h
                  split at h
                  · rename_i l' hsp
                    split at h
                    · rename_i H1 hwr
                      cases h
                      obtain ⟨ie, hie, hsz⟩ := sizeT_eq hs
                      have hr' : RVs σ src' (news.take (Nat.min n len * s)) := by rw [e1]; exact hnr.take _
                      have hf := hnf (Nat.min n len) (Nat.min_le_left _ _) w.drawn
                      obtain ⟨w', k1, k2, k3⟩ := hw.store (P := P) hb hl hsp hr' (ones_rv hone hr') hwr
                      have hst : (storeCells ⟨b, q, none⟩ (news.take (Nat.min n len * s))).run P w = .ok () w' := by
                        by_cases hlen : cap = 0
                        · have h0 : Nat.min n len * s = 0 := by
                            have : len = 0 := by omega
                            rw [this]; simp
                          rw [h0] at k1 ⊢
                          simpa [storeCells] using k1
                        · rw [hq (by omega)]; exact k1
                      refine ⟨.int .i64 (Nat.min n len : Nat), w', σ, fun _ _ _ _ => ?_, k2, k3, rfl⟩
                      have hf' : (Builtin.firstCells ie.size (Nat.min n len) (.slice ay n cy)).run P w = .ok (news.take (Nat.min n len * s)).toArray w := by
                        have := hf; rw [hry] at this; rw [hsz]; exact this
                      simp [execOp, resolve, invoke, builtin, Builtin.copy_, ht0, hrx, hry, run_underlying (elemT_eq he), Builtin.lenOf, run_sizeOf' hie, hf', hst, goInt]
                    · cases h
                  · cases h
              · cases h
            · cases h
        · cases h
      · cases h
    · cases h

theorem ok_clear {ts : Array TypeId} {x : Operand} (h : evClear P H ts (ρ x) = some (v, H')) : OK1 P (.call ⟨.builtin .clear, #[x], ts⟩) ty ρ H v H' :=
  OK1.of fun σ w r hw hx => by
    have h1 := hx x (by simp [Op.operands, Call.operands])
    generalize ρ x = cx at h h1
    unfold evClear at h
    split at h
    · rename_i id k len s t rest hts
      have ht0 : ts[0]? = some t := by rw [← Array.getElem?_toList, hts]; rfl
      split at h
      · rename_i e he
        split at h
        · rename_i z l hz hl
          cases hb : Nat.beq s z.length && z.all oneCell && Nat.blt 0 len with
          | false => rw [hb] at h; cases h
          | true =>
            rw [hb] at h
            simp only [cond_true] at h
            simp only [Bool.and_eq_true, Nat.beq_eq, Nat.blt_eq] at hb
            split at h
            · rename_i l' hsp
              split at h
              · rename_i H1 hwr
                cases h
                obtain ⟨b, p, c, cap, q, hbk, hrx, hc, hle, hs0, hcap, hq⟩ := h1
                obtain ⟨i, zv, hi, hzv, rfl⟩ := zeroT_eq hz
                have hz0 : RVs σ (rep len (zv.cells.toList.map cv1)) (Builtin.zeroCells zv.cells len).toList := made_rv σ zv.cells len
                have hone : (rep len (zv.cells.toList.map cv1)).all oneCell = true := by
                  have : ∀ (n : Nat) (l : List CV), l.all oneCell = true → (rep n l).all oneCell = true := by
                    intro n l hl
                    induction n with
                    | zero => rfl
                    | succ n ih => rw [rep, List.all_append, hl, ih]; rfl
                  exact this _ _ hb.1.2
                obtain ⟨w', k1, k2, k3⟩ := hw.store (P := P) hbk hl hsp hz0 (ones_rv hone hz0) hwr
                rw [← hq (by omega)] at k1
                refine ⟨.tuple #[], w', σ, fun _ _ _ _ => ?_, k2, k3, rfl⟩
                have hlen : len ≠ 0 := by omega
                cases len with
                | zero => omega
                | succ len => simp [execOp, resolve, invoke, builtin, Builtin.clear_, ht0, hrx, run_underlying (elemT_eq he), run_zeroValue' hi hzv, k1]
              · cases h
            · cases h
        · cases h
      · cases h
    · cases h

theorem ok_lenM {ts : Array TypeId} {x : Operand} {id : Nat} (hx0 : ρ x = .m id) (h : evLenM P H ts id = some (v, H')) : OK1 P (.call ⟨.builtin .len, #[x], ts⟩) ty ρ H v H' := by
  unfold evLenM at h
  split at h
  · rename_i t hts
    obtain rfl : ts = #[t] := by rw [← Array.toArray_toList (xs := ts), hts]
    split at h
    · rename_i kt et es cl hu hg
      cases h
      refine OK1.val fun σ w r hw hx => ?_
      have h1 := hx x (by simp [Op.operands, Call.operands])
      rw [hx0] at h1
      obtain ⟨b, p, c, hb, hrx⟩ := h1
      have hent := hw.ent id (hw.lt hb)
      rw [hg] at hent
      obtain ⟨_, arr, ha, hr⟩ := ent_m hent hb
      have hl := hr.len
      simp only [Array.length_toList] at hl
      exact ⟨.int .i64 es.length, fun _ _ _ _ => by simp [execOp, resolve, invoke, builtin, Builtin.len_, run_underlying hu, hrx, getObj, Sem.run, ha, goInt, hl], rfl⟩
    · cases h
  · cases h

theorem ok_cap {ts : Array TypeId} {x : Operand} (h : evCap P H ts (ρ x) = some (v, H')) : OK1 P (.call ⟨.builtin .cap, #[x], ts⟩) ty ρ H v H' := by
  generalize hcx : ρ x = cx at h
  unfold evCap at h
  split at h
  · rename_i id off len c t hts
    obtain rfl : ts = #[t] := by rw [← Array.toArray_toList (xs := ts), hts]
    cases he : (elemT P t).isSome with
    | false => rw [he] at h; cases h
    | true =>
      rw [he] at h; cases h
      obtain ⟨e, he⟩ := Option.isSome_iff_exists.1 he
      refine OK1.val fun σ w r hw hx => ?_
      have h1 := hx x (by simp [Op.operands, Call.operands])
      rw [hcx] at h1
      obtain ⟨b, p, c', hb, hrx⟩ := h1
      exact ⟨.int .i64 c, fun _ _ _ _ => by simp [execOp, resolve, invoke, builtin, Builtin.cap_, run_underlying (elemT_eq he), hrx, goInt], rfl⟩
  · rename_i id k len s t hts
    obtain rfl : ts = #[t] := by rw [← Array.toArray_toList (xs := ts), hts]
    cases he : (elemT P t).isSome with
    | false => rw [he] at h; cases h
    | true =>
      rw [he] at h
      simp only [cond_true] at h
      obtain ⟨e, he⟩ := Option.isSome_iff_exists.1 he
      split at h
      · rename_i l hl
        cases h
        refine OK1.val fun σ w r hw hx => ?_
        have h1 := hx x (by simp [Op.operands, Call.operands])
        rw [hcx] at h1
        obtain ⟨b, p, c, cap, q, hb, hrx, hc, hle, hs0, hcap, hq⟩ := h1
        have hent := hw.ent id (hw.lt hb)
        rw [row_eq hl] at hent
        obtain ⟨b', p', c', arr, et, f1, f2, f3, f4, f5⟩ := hent
        rw [hb] at f1; cases f1
        have hdiv : l.length / s - k ≤ cap := by
          have : l.length / s ≤ (k + cap) * s / s := Nat.div_le_div_right (by omega)
          rw [Nat.mul_div_cancel _ hs0] at this
          omega
        exact ⟨.int .i64 cap, fun _ _ _ _ => by simp [execOp, resolve, invoke, builtin, Builtin.cap_, run_underlying (elemT_eq he), hrx, goInt], cap, rfl, hdiv⟩
      · cases h
  · cases h

theorem ok_pureB {b : Builtin} {ts : Array TypeId} {xs : Array Operand} (h : evPure P b ts ty (xs.toList.map ρ) = some v) : OK1 P (.call ⟨.builtin b, xs, ts⟩) ty ρ H v H :=
  OK1.val fun σ w r hw hx => by
    unfold evPure at h
    cases hb : pureB b with
    | false => rw [hb] at h; cases h
    | true =>
      rw [hb] at h
      simp only [cond_true] at h
      split at h
      · rename_i vs hvs
        split at h
        · rename_i u hu
          cases h
          have hv : vs = xs.toList.map r := (toVs_eq hvs (maps_rv fun x hx' => hx x (by simpa [Op.operands, Call.operands] using hx'))).symm
          subst hv
          have hrun := pureV_run P _ _ hu w
          refine ⟨u, fun _ _ _ _ => ?_, cv1_rv σ u⟩
          have e : (xs.toList.map r).toArray = xs.map r := by rw [← Array.toList_map, Array.toArray_toList]
          rw [e] at hrun
          cases b <;> first | (cases hb; done) | simpa [execOp, resolve, invoke, builtin] using hrun
        · cases h
      · cases h

theorem ok_B {b : Builtin} {ts : Array TypeId} {xs : Array Operand} (h : evB P H b ts ty (xs.toList.map ρ) = some (v, H')) : OK1 P (.call ⟨.builtin b, xs, ts⟩) ty ρ H v H' := by
  have h1 : ∀ {c : CV}, xs.toList.map ρ = [c] → ∃ x, xs = #[x] ∧ ρ x = c := by
    intro c hc
    obtain ⟨x, hx, hxc⟩ := List.map_eq_singleton_iff.1 hc
    exact ⟨x, by rw [← Array.toArray_toList (xs := xs), hx], hxc⟩
  have h2 : ∀ {c d : CV}, xs.toList.map ρ = [c, d] → ∃ x y, xs = #[x, y] ∧ ρ x = c ∧ ρ y = d := by
    intro c d hc
    rcases hxs : xs.toList with _ | ⟨x, _ | ⟨y, _ | ⟨z, l⟩⟩⟩ <;> rw [hxs] at hc <;> simp at hc
    exact ⟨x, y, by rw [← Array.toArray_toList (xs := xs), hxs], hc.1, hc.2⟩
  have hval : ∀ {c : Option CV}, val H c = some (v, H') → c = some v ∧ H' = H := by
    intro c hc; cases c with
    | none => cases hc
    | some c => cases hc; exact ⟨rfl, rfl⟩
  unfold evB at h
  split at h
  · rename_i id heq
    obtain ⟨x, rfl, hx⟩ := h1 heq
    split at h
    · exact ok_lenM hx h
    · cases h
  · rename_i heq
    obtain ⟨x, rfl, hx⟩ := h1 heq
    split at h
    · rw [← hx] at h; exact ok_cap h
    · cases h
  · rename_i heq
    obtain ⟨x, rfl, hx⟩ := h1 heq
    split at h
    · rw [← hx] at h; exact ok_cap h
    · rw [← hx] at h; exact ok_clear h
    · cases h
  · split at h
    · split at h
      · rename_i heq
        obtain ⟨x, y, rfl, hx, hy⟩ := h2 heq
        rw [← hx, ← hy] at h
        exact ok_append h
      · cases h
    · split at h
      · rename_i heq
        obtain ⟨x, y, rfl, hx, hy⟩ := h2 heq
        rw [← hx, ← hy] at h
        exact ok_copy h
      · cases h
    · obtain ⟨h5, rfl⟩ := hval h
      exact ok_pureB h5
end
end Go.Proofs.YtindppnanjcoaaaGreatDoor.Ev
end
section
namespace Go.Proofs.YtindppnanjcoaaaGreatDoor.Ev
open Go
open Ab (OpRuns run_sizeOf' run_zeroValue' Addr.add_none)

section
variable {P : Program} {o : Op} {ty : TypeId} {ρ : Operand → CV} {H H' : Hp} {v : CV} {wq : Option Nat}

/-- An object of the heap is written. -/
theorem WOK.obj {σ : Sg} {w : World} (hw : WOK σ H w) {id : Nat} {x : AO} {ob : Obj} {b c : Nat} (hb : σ id = some (b, 0, c)) (hl : (H.get id).wrt = true) (hwr : H.wr id x = some H') (hx : x ≠ .res)
    (he : b < w.heap.size → Ent σ { w with heap := w.heap.setIfInBounds b ob } id x) : WOK σ H' { w with heap := w.heap.setIfInBounds b ob } ∧ Evo σ H w σ H' { w with heap := w.heap.setIfInBounds b ob } := by
  obtain ⟨hf, rfl⟩ := Hp.wr_eq hwr
  have hid := hw.lt hb
  obtain ⟨z, hz1, hz2⟩ := (hw.ent id hid).blk (AO.wrt_live hl)
  rw [hb] at hz1; cases hz1
  exact hw.wr hid hf hl hb ⟨rfl, rfl, rfl⟩ (by simp) (fun b' hne => by simp [Array.getElem?_setIfInBounds_ne (Ne.symm hne)]) hx (he hz2)

theorem RVm.upd {σ : Sg} {y : CV} {k u : Value} (hu : RV σ y u) : ∀ {c : List (CV × CV × Nat)} {l : List MapEntry}, RVm σ c l → ∀ {i : Nat} {e : MapEntry}, l[i]? = some e → e.key = k → RVm σ (updAt c i y) (l.modify i fun e => { e with key := k, val := u })
  | [], _, h, i, e, he, _ => by cases h; simp at he
  | (a, x, b) :: c, _, ⟨e0, r, h1, h2, h3, h4, h5⟩, i, e, he, hk => by
    subst h1
    cases i with
    | zero =>
      simp at he; subst he
      exact ⟨_, r, rfl, by simpa [← hk] using h2, hu, h4, h5⟩
    | succ i => exact ⟨e0, _, rfl, h2, h3, h4, RVm.upd hu h5 (i := i) (by simpa using he) hk⟩
theorem RVm.app {σ : Sg} {a x : CV} {e : MapEntry} (h1 : RV σ a e.key) (h2 : RV σ x e.val) : ∀ {c : List (CV × CV × Nat)} {l : List MapEntry}, RVm σ c l → RVm σ (c ++ [(a, x, e.born)]) (l ++ [e])
  | [], _, h => by cases h; exact ⟨e, [], rfl, h1, h2, rfl, rfl⟩
  | (_, _, _) :: _, _, ⟨e0, r, k1, k2, k3, k4, k5⟩ => by subst k1; exact ⟨e0, _, rfl, k2, k3, k4, RVm.app h1 h2 k5⟩

theorem ok_mapUpdate {t : TypeId} {x k y : Operand} (h : evMapUpdate P t (ρ x) (ρ k) (ρ y) H = some (v, H')) : OK1 P (.mapUpdate t x k y) ty ρ H v H' := by
  generalize hcx : ρ x = cx at h
  unfold evMapUpdate at h
  split at h
  · rename_i kt et id hu
    split at h
    · rename_i es cl hg
      split at h
      · rename_i i hf
        split at h
        · rename_i H1 hwr
          cases h
          refine OK1.skip rfl fun σ w r hw hx => ?_
          have h1 := hx x (by simp [Op.operands])
          have h2 := hx k (by simp [Op.operands])
          have h3 := hx y (by simp [Op.operands])
          rw [hcx] at h1
          obtain ⟨b, p, c, hb, hrx⟩ := h1
          have hent := hw.ent id (hw.lt hb)
          rw [hg] at hent
          obtain ⟨rfl, arr, ha, hr⟩ := ent_m hent hb
          obtain ⟨c1, c2⟩ := findK_ok hf h2 hr false w
          rcases c2 with ⟨c2, _⟩ | ⟨i', e, c2, c3, c4, c5, c6⟩
          · cases c2
          · cases c2
            obtain ⟨k1, k2⟩ := hw.obj (ob := .map (arr.modify i fun e => { e with key := r k, val := r y }) cl) hb (by rw [hg]; rfl) hwr (by simp) (fun hlt =>
              ⟨b, c, arr.modify i fun e => { e with key := r k, val := r y }, hb, by simp [hlt], by rw [Array.toList_modify]; exact RVm.upd h3 hr c3 c6⟩)
            refine ⟨_, σ, fun _ _ _ _ => ?_, k1, k2⟩
            have hei : arr[i]? = some e := by rw [← Array.getElem?_toList]; exact c3
            simp [execOp, Instr.mapUpdate, run_underlying hu, hrx, getObj, Sem.run, ha, c1, c4, hei, Instr.keyThatStays, c5, setObj]
        · cases h
      · rename_i hf
        split at h
        · rename_i H1 hwr
          cases h
          refine OK1.skip rfl fun σ w r hw hx => ?_
          have h1 := hx x (by simp [Op.operands])
          have h2 := hx k (by simp [Op.operands])
          have h3 := hx y (by simp [Op.operands])
          rw [hcx] at h1
          obtain ⟨b, p, c, hb, hrx⟩ := h1
          have hent := hw.ent id (hw.lt hb)
          rw [hg] at hent
          obtain ⟨rfl, arr, ha, hr⟩ := ent_m hent hb
          obtain ⟨c1, c2⟩ := findK_ok hf h2 hr false w
          rcases c2 with ⟨_, c4⟩ | ⟨i', e, c2, _⟩
          · obtain ⟨k1, k2⟩ := hw.obj (ob := .map (arr.push { key := r k, val := r y, born := cl }) (cl + 1)) hb (by rw [hg]; rfl) hwr (by simp) (fun hlt =>
              ⟨b, c, arr.push { key := r k, val := r y, born := cl }, hb, by simp [hlt], by rw [Array.toList_push]; exact RVm.app (e := { key := r k, val := r y, born := cl }) h2 h3 hr⟩)
            refine ⟨_, σ, fun _ _ _ _ => ?_, k1, k2⟩
            simp [execOp, Instr.mapUpdate, run_underlying hu, hrx, getObj, Sem.run, ha, c1, c4, setObj]
          · cases c2
        · cases h
      · cases h
    · cases h
  · cases h

theorem RVm.find {σ : Sg} {b : Nat} : ∀ {c : List (CV × CV × Nat)} {l : List MapEntry}, RVm σ c l → ∀ {q : CV × CV × Nat}, c.find? (fun e => Nat.beq e.2.2 b) = some q → ∃ e, l.find? (fun e => e.born == b) = some e ∧ RV σ q.1 e.key ∧ RV σ q.2.1 e.val
  | [], _, _, q, hq => by simp at hq
  | (a, x, n) :: c, _, ⟨e0, r, h1, h2, h3, h4, h5⟩, q, hq => by
    subst h1
    simp only [List.find?_cons] at hq ⊢
    cases hb : Nat.beq n b with
    | true =>
      rw [hb] at hq; cases hq
      rw [Nat.beq_eq] at hb
      exact ⟨e0, by simp [h4, hb], h2, h3⟩
    | false =>
      rw [hb] at hq
      have hne : n ≠ b := fun hc => by rw [hc] at hb; simp at hb
      have : (e0.born == b) = false := by rw [h4]; simpa using hne
      rw [this]
      exact RVm.find h5 hq

theorem ok_entry {x : Operand} (h : evEntry (ρ x) H = some v) : OK1 P (.entry x) ty ρ H v H :=
  OK1.val fun σ w r hw hx => by
    have h1 := hx x (by simp [Op.operands])
    generalize ρ x = cx at h h1
    unfold evEntry at h
    split at h
    · rename_i id
      obtain ⟨b, p, c, hb, hrx⟩ := h1
      split at h
      · rename_i m since seen st hg
        split at h
        · rename_i es cl bb hm hs
          cases hc : Nat.beq cl st with
          | false => rw [hc] at h; cases h
          | true =>
            rw [hc] at h
            rw [Nat.beq_eq] at hc
            subst hc
            simp only [cond_true] at h
            split at h
            · rename_i e he
              cases h
              have hent := hw.ent id (hw.lt hb)
              rw [hg] at hent
              obtain ⟨b', c', mb, f1, f2, y, f3, rfl⟩ := hent
              rw [hb] at f1; cases f1
              have hent2 := hw.ent m (hw.lt f3)
              rw [hm] at hent2
              obtain ⟨bm, pm, cm⟩ := y
              obtain ⟨_, arr, ha, hr⟩ := ent_m hent2 f3
              obtain ⟨e', g1, g2, g3⟩ := hr.find he
              have hfind : arr.find? (fun e => e.born == bb) = some e' := by rw [← Array.find?_toList]; exact g1
              have hback : (⟨seen⟩ : Array Nat).back? = some bb := by simpa [Array.back?_eq_getElem?, List.getLast?_eq_getElem?] using hs
              exact ⟨.tuple #[e'.key, e'.val], fun _ _ _ _ => by simp [execOp, Instr.entry, hrx, getObj, Sem.run, f2, hback, ha, hfind], [e'.key, e'.val], rfl, _, _, rfl, g2, _, _, rfl, g3, rfl⟩
            · cases h
        · cases h
      · cases h
    · cases h

theorem bytes_rv (σ : Sg) (l : List UInt8) : RVs σ (l.map fun b => CV.i .u8 b.toNat) (l.map fun b => Value.int .u8 b.toNat) := by
  induction l with
  | nil => rfl
  | cons b l ih => exact ⟨_, _, rfl, rfl, ih⟩

theorem push_modify {α : Type} (a : Array α) (x : α) (f : α → α) : (a.push x).modify a.size f = a.push (f x) := by
  apply Array.ext_getElem?
  intro i
  rw [Array.getElem?_modify]
  by_cases h : i = a.size
  · subst h; simp
  · rw [if_neg (fun hc => h hc.symm), Array.getElem?_push, Array.getElem?_push, if_neg h, if_neg h]

theorem run_s2b (elem : TypeId) (z : ByteArray) (w : World) : ∃ arr : Array Value, arr = z.data.map (fun b => Value.int .u8 b.toNat) ++ Array.replicate (grownCap w z.size 0 elem - z.size) (.int .u8 0) ∧
    (Conv.stringToBytes elem z).run P w = .ok (.slice (some ⟨w.heap.size, 0, none⟩) z.size (grownCap w z.size 0 elem)) { w.drew with heap := w.heap.push (.cells arr elem (arr.size, arr.size + 1)) } := by
  refine ⟨_, rfl, ?_⟩
  generalize harr : z.data.map (fun b => Value.int .u8 b.toNat) ++ Array.replicate (grownCap w z.size 0 elem - z.size) (.int .u8 0) = arr
  have hch : (choose (.appendCap z.size 0 elem)).run P w = .ok (grownCap w z.size 0 elem) w.drew := rfl
  have hsh : (w.drew.alloc (.cells arr elem)).shape? w.heap.size = some (elem, arr.size) := by simp only [World.shape?, World.alloc, World.drew, Array.getElem?_push_size]
  have hfz : (w.drew.alloc (.cells arr elem)).freeze ⟨w.heap.size, arr.size, none⟩ 1 = { w.drew with heap := w.heap.push (.cells arr elem (arr.size, arr.size + 1)) } := by
    simp only [World.freeze, Nat.one_ne_zero, if_false, World.alloc, World.drew, push_modify]
    simp
  have hmk : (markStringish ⟨w.heap.size, 0, none⟩).run P (w.drew.alloc (.cells arr elem)) = .ok () { w.drew with heap := w.heap.push (.cells arr elem (arr.size, arr.size + 1)) } := by
    have h1 : (shape w.heap.size).run P (w.drew.alloc (.cells arr elem)) = .ok (some (elem, arr.size)) (w.drew.alloc (.cells arr elem)) := by
      show Result.ok ((w.drew.alloc (.cells arr elem)).shape? w.heap.size) _ = _
      rw [hsh]
    have h2 : (freeze ⟨w.heap.size, arr.size, none⟩ 1).run P (w.drew.alloc (.cells arr elem)) = .ok () { w.drew with heap := w.heap.push (.cells arr elem (arr.size, arr.size + 1)) } := by
      show Result.ok () ((w.drew.alloc (.cells arr elem)).freeze ⟨w.heap.size, arr.size, none⟩ 1) = _
      rw [hfz]
    simp only [markStringish, Sem.run_bind, h1, Result.andThen_ok, h2]
  have hnw : (newRow elem arr).run P w.drew = .ok ⟨w.heap.size, 0, none⟩ (w.drew.alloc (.cells arr elem)) := by
    simp only [newRow, Sem.run_bind, run_newObj, Result.andThen_ok, Sem.run_pure]
    rfl
  simp only [Conv.stringToBytes, Sem.run_bind, hch, Result.andThen_ok, harr, hnw, hmk, Sem.run_pure]

theorem ok_convert {s d : TypeId} {x : Operand} (h : evConvert P s d (ρ x) H = some (v, H')) : OK1 P (.convert s d x) ty ρ H v H' := by
  unfold evConvert at h
  split at h
  · rename_i y hy
    split at h
    · rename_i u hu
      cases h
      exact OK1.val fun σ w r hw hx => by
        have h1 := toV_eq hy (hx x (by simp [Op.operands]))
        exact ⟨u, fun _ _ _ _ => by simp [execOp, h1, pureV_run P _ _ hu w], cv1_rv σ u⟩
    · split at h
      · rename_i z e he hpv
        split at h
        · rename_i hu
          cases hsrc : strT P s && Nat.ble z.size 4294967296 with
          | false => rw [hsrc] at h; cases h
          | true =>
          rw [hsrc] at h
          simp only [cond_true] at h
          simp only [Bool.and_eq_true, Nat.ble_eq] at hsrc
          have hus : P.underlying s = some .string := by
            have := hsrc.1; unfold strT at this; split at this
            · assumption
            · cases this
          refine OK1.of fun σ w r hw hx => ?_
          have hrx : r x = .string z := toV_eq hy (hx x (by simp [Op.operands]))
          obtain ⟨e1, e2, e3⟩ := Hp.new_eq h
          subst e3
          let cap := grownCap w z.size 0 e
          have hC : z.size ≤ cap := grownCap_ge w z.size 0 e
          have hC2 : cap ≤ 9223372036854775807 := by
            have := grownCap_le_maxLen w z.size 0 e (by simp only [maxLen]; omega)
            simpa [maxLen] using this
          obtain ⟨arr, harr, hrun⟩ := run_s2b (P := P) e z w
          have hzs : z.data.size = z.size := rfl
          have hsz : arr.size = cap := by
            rw [harr]
            simp only [Array.size_append, Array.size_map, Array.size_replicate, hzs]
            show z.size + (cap - z.size) = cap
            omega
          obtain ⟨σ', k1, k2, k3⟩ := (hw.drew (w.drawn + 1)).new (o := .cells arr e (arr.size, arr.size + 1)) (y := (0, cap)) e1 (x := .k (z.data.toList.map fun b => .i .u8 b.toNat)) (by simp) (fun σ' hm hid => by
            have hz : (z.data.toList.map fun b => CV.i .u8 b.toNat).length = z.size := by rw [List.length_map, Array.length_toList]; rfl
            refine ⟨_, 0, cap, arr, e, (arr.size, arr.size + 1), hid, by simp, by rw [hz]; exact hC, by omega, ?_⟩
            have : (arr.toList.drop 0).take (z.data.toList.map fun b => CV.i .u8 b.toNat).length = z.data.toList.map fun b => Value.int .u8 b.toNat := by
              rw [hz, List.drop_zero, harr, Array.toList_append, Array.toList_map, List.take_left']
              rw [List.length_map, Array.length_toList]; rfl
            rw [this]; exact bytes_rv _ _)
          refine ⟨.slice (some ⟨w.heap.size, 0, none⟩) z.size cap, _, σ', fun _ _ _ _ => ?_, k2, k3.drew, by rw [e2]; exact ⟨_, _, _, cap, 0, k1, rfl, by simp, hC, by simp, hC2, by simp⟩⟩
          simp only [execOp, Go.convert, Sem.run_bind, run_underlying hus, run_underlying (elemT_eq he), run_underlying hu, hrx, hrun, Result.andThen_ok, Sem.run_pure]
          rfl
        · cases h
      · cases h
  · cases h
end
end Go.Proofs.YtindppnanjcoaaaGreatDoor.Ev
end
