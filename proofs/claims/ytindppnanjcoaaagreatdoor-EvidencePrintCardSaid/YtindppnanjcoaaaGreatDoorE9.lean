/- Operations that make regions or write them. Operations on slices, maps, texts. Operations on parts of values, maps, texts; lengths. Conditions: none. -/
import Derived.Test.YtindppnanjcoaaaGreatDoorE6
import Derived.Laws.MakeOwn
section
namespace Go.Proofs.YtindppnanjcoaaaGreatDoor.Ev
open Go
open Ab (OpRuns run_sizeOf' run_zeroValue' Addr.add_none)

/-- A new region where one is kept for it. -/
theorem WOK.newAt {σ : Sg} {H : Hp} {w : World} (hw : WOK σ H w) {id : Nat} {x : AO} {o : Obj} {y : Nat × Nat} (hi : id < H.n) (hf : H.fl ≤ id) (hr : H.get id = .res) (hx : x ≠ .res)
    (he : ∀ σ' : Sg, (∀ j z, σ j = some z → σ' j = some z) → σ' id = some (w.heap.size, y) → Ent σ' { w with heap := w.heap.push o } id x) :
    ∃ σ' : Sg, σ' id = some (w.heap.size, y) ∧ WOK σ' ⟨(setF AO 4 id).s x H.h, H.n, H.fl⟩ { w with heap := w.heap.push o } ∧
      Evo σ H w σ' ⟨(setF AO 4 id).s x H.h, H.n, H.fl⟩ { w with heap := w.heap.push o } := by
  have hle := hw.le
  have hnone : σ id = none := by have := hw.ent id hi; rw [hr] at this; exact this
  refine ⟨fun i => if i = id then some (w.heap.size, y) else σ i, by simp, ?_, ?_⟩
  all_goals
    have hext : ∀ j z, σ j = some z → (fun i => if i = id then some (w.heap.size, y) else σ i) j = some z := by
      intro j z hz
      have : j ≠ id := fun hc => by rw [hc, hnone] at hz; cases hz
      simp [this, hz]
    have hget : ∀ j, j < H.n → j ≠ id → (⟨(setF AO 4 id).s x H.h, H.n, H.fl⟩ : Hp).get j = H.get j := fun j hj hne => Hp.get_set_ne _ _ _ _ _ _ (by omega) (by omega) hne
    have hself : (⟨(setF AO 4 id).s x H.h, H.n, H.fl⟩ : Hp).get id = x := Hp.get_set_same _ _ _ _ _
    have hheap : ∀ b, b < w.heap.size → (w.heap.push o)[b]? = w.heap[b]? := fun b hb => by rw [Array.getElem?_push]; simp [Nat.ne_of_lt hb]
    have hblk : ∀ j z, j < H.n → (H.get j).live = true → σ j = some z → z.1 < w.heap.size := fun j z hj hl hz => by
      obtain ⟨z', h1, h2⟩ := (hw.ent j hj).blk hl
      rw [hz] at h1; cases h1; exact h2
  · refine ⟨fun j hj => ?_, hw.le, hw.fl, fun j hj => ?_, ?_⟩
    · have : j ≠ id := by simp at hj; omega
      simp only [this, if_false]; exact hw.nn j hj
    · by_cases h : j = id
      · subst h; rw [hself]; exact he _ hext (by simp)
      · rw [hget j hj h]
        exact (hw.ent j hj).mono hext (fun hr' => by
          have := hw.ent j hj; rw [hr'] at this
          simp only [h, if_false]; exact this) (fun z hz hl => hheap _ (hblk j z hj hl hz))
    · intro j j' z z' h1 h2 h3 h4 h5 h6 h7 h8
      by_cases h : j = id <;> by_cases h' : j' = id
      · omega
      · exfalso
        rw [hget j' h2 h'] at h5
        simp only [h', if_false] at h7
        have := hblk j' z' h2 h5 h7
        simp only [h, if_true, Option.some.injEq] at h6
        subst h6; simp at h8; omega
      · exfalso
        rw [hget j h1 h] at h4
        simp only [h, if_false] at h6
        have := hblk j z h1 (AO.wrt_live h4) h6
        simp only [h', if_true, Option.some.injEq] at h7
        subst h7; simp at h8; omega
      · rw [hget j h1 h] at h4
        rw [hget j' h2 h'] at h5
        simp only [h, if_false] at h6
        simp only [h', if_false] at h7
        exact hw.sep j j' z z' h1 h2 h3 h4 h5 h6 h7 h8
  · refine ⟨⟨rfl, rfl, rfl⟩, by simp, hext, fun j hj hr' => ?_, fun j hj => by have : j ≠ id := (by omega); simp [this], Nat.le_refl _, rfl, fun j hj => hget j (Nat.lt_of_lt_of_le hj hw.fl) (by omega), fun b hb _ => hheap b hb, ?_, ?_⟩
    · have : j ≠ id := fun hc => hr' (hc ▸ hr)
      exact ⟨by simp [this], by rw [hget j hj this]; exact hr'⟩
    · intro j z h1 h2 h3 h4 h5
      by_cases h : j = id
      · exfalso; simp only [h, if_true, Option.some.injEq] at h4; subst h4; simp at h5
      · simp only [h, if_false] at h4
        rw [hget j h1 h] at h3
        exact ⟨j, z, h1, h2, h3, h4, rfl⟩
    · intro j z h1 h2 h3 h4 h5
      by_cases h : j = id
      · exfalso; simp only [h, if_true, Option.some.injEq] at h4; subst h4; simp at h5
      · simp only [h, if_false] at h4
        rw [hget j h1 h] at h3
        exact ⟨j, z, h1, h2, h3, h4, rfl⟩

theorem put_ok {H H' : Hp} {wq : Option Nat} {x : AO} {K : Nat → CV} {v : CV} (h : put H wq x K = some (v, H')) (hq : ∀ id, wq = some id → id < H.n) (hx : x ≠ .res) :
    ∃ id, v = K id ∧ ∀ σ w (o : Obj) (y : Nat × Nat), WOK σ H w → (∀ σ' : Sg, (∀ j z, σ j = some z → σ' j = some z) → σ' id = some (w.heap.size, y) → Ent σ' { w with heap := w.heap.push o } id x) →
      ∃ σ' : Sg, σ' id = some (w.heap.size, y) ∧ WOK σ' H' { w with heap := w.heap.push o } ∧ Evo σ H w σ' H' { w with heap := w.heap.push o } := by
  unfold put at h
  split at h
  · obtain ⟨h1, h2, h3⟩ := Hp.new_eq h
    subst h3
    exact ⟨H.n, h2, fun σ w o y hw he => hw.new h1 hx he⟩
  · rename_i id
    split at h
    · rename_i hr
      split at h
      · rename_i H1 hwr
        cases h
        obtain ⟨h1, h2⟩ := Hp.wr_eq hwr
        subst h2
        exact ⟨id, rfl, fun σ w o y hw he => hw.newAt (hq id rfl) h1 hr hx he⟩
      · cases h
    · cases h

theorem oneCell_rv {σ : Sg} {c : CV} (h : oneCell c = true) {y : Value} (hr : RV σ c y) : y.cells = #[y] ∧ y.oneCell' = true := by
  cases c with
  | i k n => obtain rfl : y = _ := hr; exact ⟨rfl, rfl⟩
  | b q => obtain rfl : y = _ := hr; exact ⟨rfl, rfl⟩
  | v x => obtain rfl : y = x := hr; cases y <;> first | exact ⟨rfl, rfl⟩ | cases h
  | sl => obtain ⟨b, p, c, _, rfl⟩ := hr; exact ⟨rfl, rfl⟩
  | so => obtain ⟨b, p, c, cap, q, _, rfl, _⟩ := hr; exact ⟨rfl, rfl⟩
  | p => obtain ⟨b, p, c, _, rfl⟩ := hr; exact ⟨rfl, rfl⟩
  | m => obtain ⟨b, p, c, _, rfl⟩ := hr; exact ⟨rfl, rfl⟩
  | f => obtain ⟨l, rfl, _⟩ := hr; exact ⟨rfl, rfl⟩
  | cp => obtain ⟨n, rfl, _⟩ := hr; exact ⟨rfl, rfl⟩
  | a => cases h
  | t => cases h
  | any => cases h

theorem cellsO_rv {σ : Sg} {c : CV} {l : List CV} (h : cellsO c = some l) {y : Value} (hr : RV σ c y) : RVs σ l y.cells.toList := by
  unfold cellsO at h
  split at h
  · cases h; obtain ⟨m, rfl, hm⟩ := hr; exact hm
  · cases ho : oneCell c with
    | false => rw [ho] at h; cases h
    | true =>
      rw [ho] at h; cases h
      rw [(oneCell_rv ho hr).1]
      exact ⟨y, [], rfl, hr, rfl⟩

theorem ones_rv {σ : Sg} : ∀ {l : List CV} {ys : List Value}, l.all oneCell = true → RVs σ l ys → ∀ y ∈ ys, y.oneCell' = true
  | [], _, _, h => by cases h; simp
  | a :: l, _, h, ⟨y, r, h1, h2, h3⟩ => by
    subst h1
    simp only [List.all_cons, Bool.and_eq_true] at h
    intro z hz
    simp only [List.mem_cons] at hz
    rcases hz with rfl | hz
    · exact (oneCell_rv h.1 h2).2
    · exact ones_rv h.2 h3 z hz

theorem cells_rv {σ : Sg} {c : CV} (h : (cells c).all oneCell = true) {y : Value} (hr : RV σ c y) : RVs σ (cells c) y.cells.toList := by
  cases hc : c with
  | a l => subst hc; obtain ⟨m, rfl, hm⟩ := hr; exact hm
  | _ => subst hc; simp only [cells, List.all_cons, List.all_nil, Bool.and_true] at h; rw [(oneCell_rv h hr).1]; exact ⟨y, [], rfl, hr, rfl⟩

theorem ovr_eq {α : Type} : ∀ {l cs r : List α}, ovr l cs = some r → cs.length ≤ l.length ∧ r = cs ++ l.drop cs.length
  | l, [], r, h => by simp [ovr] at h; simp [h]
  | [], c :: cs, r, h => by simp [ovr] at h
  | x :: l, c :: cs, r, h => by
    simp only [ovr] at h
    split at h
    · rename_i s hs
      cases h
      obtain ⟨h1, h2⟩ := ovr_eq hs
      exact ⟨by simpa using h1, by simp [h2]⟩
    · cases h
theorem splice_eq {α : Type} : ∀ {l : List α} {o : Nat} {cs r : List α}, splice l o cs = some r → o + cs.length ≤ l.length ∧ r = l.take o ++ cs ++ l.drop (o + cs.length)
  | [], o, cs, r, h => by
    simp only [splice] at h
    cases o with
    | zero =>
      simp only [show Nat.beq 0 0 = true from rfl, cond_true] at h
      obtain ⟨h1, h2⟩ := ovr_eq h
      exact ⟨by simpa using h1, by simpa using h2⟩
    | succ o => cases h
  | x :: l, 0, cs, r, h => by
    have h : ovr (x :: l) cs = some r := h
    obtain ⟨h1, h2⟩ := ovr_eq h
    exact ⟨by simpa using h1, by simpa using h2⟩
  | x :: l, o + 1, cs, r, h => by
    have h : (match splice l o cs with | some r => some (x :: r) | none => none) = some r := h
    split at h
    · rename_i s hs
      cases h
      obtain ⟨h1, h2⟩ := splice_eq hs
      refine ⟨by simp; omega, ?_⟩
      rw [h2, show o + 1 + cs.length = (o + cs.length) + 1 by omega]
      simp
    · cases h

/-- What is written over a part of a row. -/
theorem splice_rv {σ : Sg} {l cs l' : List CV} {o : Nat} (h : splice l o cs = some l') {ys vs : List Value} (h1 : RVs σ l ys) (h2 : RVs σ cs vs) : RVs σ l' (ys.take o ++ vs ++ ys.drop (o + vs.length)) := by
  obtain ⟨_, e⟩ := splice_eq h
  rw [e, ← h2.length]
  exact ((h1.take o).append h2).append (h1.drop _)

theorem fold_toList (off : Nat) (v : Array Value) (arr : Array Value) (h : off + v.size ≤ arr.size) :
    (v.zipIdx.foldl (fun cs (c : Value × Nat) => cs.setIfInBounds (off + c.2) c.1) arr).toList = arr.toList.take off ++ v.toList ++ arr.toList.drop (off + v.size) := by
  rw [← Array.foldl_toList, Array.toList_zipIdx]
  obtain ⟨f1, f2⟩ := Ab.foldl_set off v.toList 0 arr
  apply List.ext_getElem?
  intro k
  rw [Array.getElem?_toList, f2 k]
  simp only [Nat.add_zero, Array.length_toList]
  have l1 : (List.take off arr.toList).length = off := by simp; omega
  by_cases h1 : k < off
  · rw [if_neg (by omega), List.append_assoc, List.getElem?_append_left (by omega), List.getElem?_take, if_pos h1, Array.getElem?_toList]
  · rw [List.append_assoc, List.getElem?_append_right (by omega), l1]
    by_cases h2 : k < off + v.size
    · rw [if_pos (by omega), List.getElem?_append_left (by simp; omega)]
    · rw [if_neg (by omega), List.getElem?_append_right (by simp; omega), List.getElem?_drop, Array.getElem?_toList]
      congr 1
      simp; omega

theorem fill_ok {σ : Sg} {ρ : Operand → CV} {r : Operand → Value} {place place' : Nat → Option (Nat × Nat)} (hp : ∀ i x, place i = some x → place' i = some x) : ∀ {ps : List (Nat × Operand)} {cs cs' : List CV} {arr : Array Value},
    (∀ x, x ∈ ps.map (·.2) → RV σ (ρ x) (r x)) → fillC place cs (ps.map fun p => (p.1, ρ p.2)) = some cs' → RVs σ cs arr.toList → ∃ arr', Instr.fill place' arr (ps.map fun p => (p.1, r p.2)) = some arr' ∧ RVs σ cs' arr'.toList
  | [], cs, cs', arr, _, h, hr => by cases h; exact ⟨arr, rfl, hr⟩
  | (i, x) :: ps, cs, cs', arr, hx, h, hr => by
    simp only [List.map_cons, fillC] at h
    split at h
    · rename_i off size l hpl hcl
      cases hb : Nat.beq l.length size with
      | false => rw [hb] at h; cases h
      | true =>
        rw [hb] at h
        simp only [cond_true] at h
        rw [Nat.beq_eq] at hb
        split at h
        · rename_i c1 hs
          have h2 := cellsO_rv hcl (hx x (by simp))
          have hlen := h2.length
          obtain ⟨hle, _⟩ := splice_eq hs
          have hcl2 := hr.length
          simp only [Array.length_toList] at hlen hcl2
          have hf := fold_toList off (r x).cells arr (by omega)
          have h3 := splice_rv hs hr h2
          simp only [Array.length_toList] at h3
          rw [← hf] at h3
          obtain ⟨arr', e1, e2⟩ := fill_ok hp (fun y hy => hx y (by simp at hy ⊢; exact .inr hy)) h h3
          refine ⟨arr', ?_, e2⟩
          simp only [List.map_cons, Instr.fill, hp _ _ hpl]
          rw [if_neg (by simp; omega)]
          exact e1
        · cases h
    · cases h

section
variable {P : Program} {o : Op} {ty : TypeId} {ρ : Operand → CV} {H H' : Hp} {v : CV} {wq : Option Nat}

theorem zeroT_eq {t : TypeId} {z : List CV} (h : zeroT P t = some z) : ∃ i y, P.info? t = some i ∧ i.zero = some y ∧ z = y.cells.toList.map cv1 := by
  unfold zeroT at h
  split at h
  · rename_i i hi
    split at h
    · rename_i y hy
      cases h; exact ⟨i, y, hi, hy, rfl⟩
    · cases h
  · cases h
theorem sizeT_eq {t : TypeId} {s : Nat} (h : sizeT P t = some s) : ∃ i, P.info? t = some i ∧ i.size = s := by
  unfold sizeT at h
  split at h
  · rename_i i hi; cases h; exact ⟨i, hi, rfl⟩
  · cases h
theorem elemT_eq {t e : TypeId} (h : elemT P t = some e) : P.underlying t = some (.slice e) := by
  unfold elemT at h
  split at h
  · cases h; assumption
  · cases h

/-- A row of cells in a new block. -/
theorem ent_row {σ σ' : Sg} {w : World} {id : Nat} {l : List CV} {arr : Array Value} {et : TypeId} (hr : RVs σ l arr.toList) (hm : ∀ j z, σ j = some z → σ' j = some z) (hid : σ' id = some (w.heap.size, 0, arr.size)) :
    Ent σ' { w with heap := w.heap.push (.cells arr et (0, 0)) } id (.c l) := by
  have hl := hr.length
  simp only [Array.length_toList] at hl
  refine ⟨w.heap.size, 0, arr.size, arr, et, hid, by simp, by omega, by omega, ?_⟩
  rw [List.drop_zero, hl, List.take_of_length_le (by simp)]
  exact hr.mono hm

theorem ok_alloc {e : TypeId} {z : List CV} (hz : zeroT P e = some z) (h : put H wq (.c z) (.p · 0) = some (v, H')) (hq : ∀ id, wq = some id → id < H.n) : OK1 P (.alloc e) ty ρ H v H' :=
  OK1.of fun σ w r hw _ => by
    obtain ⟨i, y, hi, hy, rfl⟩ := zeroT_eq hz
    obtain ⟨id, rfl, k⟩ := put_ok h hq (by simp)
    obtain ⟨σ', k1, k2, k3⟩ := k σ w (.cells y.cells e (0, 0)) (0, y.cells.size) hw (fun σ' hm hid => ent_row (cv1s_rv σ _) hm hid)
    exact ⟨.pointer (some ⟨w.heap.size, 0, none⟩), _, σ', fun _ _ _ _ => by simp [execOp, Instr.alloc, newVar, newRow, run_zeroValue' hi hy, run_newObj], k2, k3, _, _, _, k1, rfl⟩

theorem ok_box {e : TypeId} {x : Operand} {l : List CV} (hl : cellsO (ρ x) = some l) (h : put H wq (.c l) (.p · 0) = some (v, H')) (hq : ∀ id, wq = some id → id < H.n) : OK1 P (.box e x) ty ρ H v H' :=
  OK1.of fun σ w r hw hx => by
    have h1 := cellsO_rv hl (hx x (by simp [Op.operands]))
    obtain ⟨id, rfl, k⟩ := put_ok h hq (by simp)
    obtain ⟨σ', k1, k2, k3⟩ := k σ w (.cells (r x).cells e (0, 0)) (0, (r x).cells.size) hw (fun σ' hm hid => ent_row h1 hm hid)
    exact ⟨.pointer (some ⟨w.heap.size, 0, none⟩), _, σ', fun _ _ _ _ => by simp [execOp, Instr.box, newVar, newRow, run_newObj], k2, k3, _, _, _, k1, rfl⟩

theorem ok_build {t : TypeId} {ps : Array (Nat × Operand)} {E : Env} (h : evBuild P t ps E = some v) : OK1 P (.build t ps) ty (evO E) H v H :=
  OK1.val fun σ w r hw hx => by
    unfold evBuild at h
    split at h
    · rename_i z pl hz hpl
      split at h
      · rename_i cs hf
        cases h
        obtain ⟨i, y, hi, hy, rfl⟩ := zeroT_eq hz
        have hx' : ∀ x, x ∈ ps.toList.map (·.2) → RV σ (evO E x) (r x) := fun x hx'' => hx x (by simpa [Op.operands] using hx'')
        have key : ∀ place', (∀ i x, pl i = some x → place' i = some x) → (∀ arr', Instr.fill place' y.cells (ps.toList.map fun p => (p.1, r p.2)) = some arr' → P.built t (ps.toList.map fun p => (p.1, r p.2)) = some arr') →
            ∃ rv, (∀ pos after guard dst, (execOp r ⟨dst, .build t ps, ty, pos, after, guard⟩).run P w = .ok (.value rv) w) ∧ RV σ (.a cs) rv := by
          intro place' hp hb
          obtain ⟨arr', e1, e2⟩ := fill_ok (r := r) (arr := y.cells) hp hx' hf (cv1s_rv σ _)
          have := run_build (P := P) w t (ps.map fun p => (p.1, r p.2)) arr' (by simpa using hb arr' e1)
          exact ⟨.agg arr', fun _ _ _ _ => by simp [execOp, this], arr'.toList, rfl, e2⟩
        unfold placesT at hpl
        split at hpl
        · rename_i fs hu
          split at hpl
          · rename_i pls hpls
            cases hpl
            refine key (pls.toArray[·]?) (fun i x hx => by rw [nth_eq] at hx; simpa using hx) (fun arr' ha => ?_)
            simp only [Program.built, hi, hu, hy, hpls]
            exact ha
          · cases hpl
        · rename_i n e hu
          split at hpl
          · rename_i s hs
            cases hpl
            obtain ⟨ie, hie, rfl⟩ := sizeT_eq hs
            refine key (fun i => some (i * ie.size, ie.size)) (fun i x hx => hx) (fun arr' ha => ?_)
            simp only [Program.built, hi, hu, hy, hie]
            exact ha
          · cases hpl
        · cases hpl
      · cases h
    · cases h

theorem rep_map {α β : Type} (f : α → β) : ∀ (n : Nat) (l : List α), rep n (l.map f) = (rep n l).map f
  | 0, _ => rfl
  | n + 1, l => by simp [rep, rep_map f n l]
theorem rep_range (z : Array Value) : ∀ (n : Nat), rep n z.toList = (List.range (n * z.size)).map fun i => z[i % z.size]!
  | 0 => by simp [rep]
  | n + 1 => by
    rw [rep, rep_range z n, Nat.add_mul, Nat.one_mul, Nat.add_comm, List.range_add, List.map_append, List.map_map]
    congr 1
    · apply List.ext_getElem?
      intro k
      by_cases hk : k < z.size
      · simp [hk, Nat.mod_eq_of_lt hk]
      · rw [List.getElem?_eq_none (by simp; omega), List.getElem?_eq_none (by simp; omega)]
    · apply List.map_congr_left
      intro k _
      simp

theorem ok_buildSlice {t len : Nat} {ps : Array (Nat × Operand)} {E : Env} (h : evBuildSlice P t len ps E H wq = some (v, H')) (hq : ∀ id, wq = some id → id < H.n) : OK1 P (.buildSlice t len ps) ty (evO E) H v H' :=
  OK1.of fun σ w r hw hx => by
    unfold evBuildSlice at h
    split at h
    · rename_i e he
      split at h
      · rename_i s z hs hz
        cases hb : Nat.beq s z.length && Nat.ble (len * s) 65536 with
        | false => rw [hb] at h; cases h
        | true =>
          rw [hb] at h
          simp only [cond_true] at h
          simp only [Bool.and_eq_true, Nat.beq_eq, Nat.ble_eq] at hb
          split at h
          · rename_i cs hf
            obtain ⟨i, y, hi, hy, rfl⟩ := zeroT_eq hz
            obtain ⟨ie, hie, rfl⟩ := sizeT_eq hs
            rw [hi] at hie; cases hie
            have hu := elemT_eq he
            have hsz : i.size = y.cells.size := by simpa using hb.1
            obtain ⟨id, rfl, k⟩ := put_ok h hq (by simp)
            let zero : Array Value := if len * i.size = 0 then #[] else y.cells
            have hz0 : RVs σ (rep len (y.cells.toList.map cv1)) ((Array.range (len * i.size)).map fun k => zero[k % zero.size]!).toList := by
              rw [rep_map, rep_range]
              have : ((Array.range (len * i.size)).map fun k => zero[k % zero.size]!).toList = (List.range (len * y.cells.size)).map fun k => y.cells[k % y.cells.size]! := by
                simp only [zero]
                by_cases h0 : len * i.size = 0
                · rw [if_pos h0]; rw [hsz] at h0; simp [hsz, h0]
                · rw [if_neg h0, hsz]; simp
              rw [this]; exact cv1s_rv σ _
            obtain ⟨arr', e1, e2⟩ := fill_ok (r := r) (place' := fun k => some (k * i.size, i.size)) (fun _ _ h => h) (fun x hx' => hx x (by simpa [Op.operands] using hx')) hf hz0
            obtain ⟨σ', k1, k2, k3⟩ := k σ w (.cells arr' e (0, 0)) (0, arr'.size) hw (fun σ' hm hid => ent_row e2 hm hid)
            refine ⟨.slice (some ⟨w.heap.size, 0, none⟩) len len, _, σ', fun _ _ _ _ => ?_, k2, k3, _, _, _, k1, by simp⟩
            have hfill : Instr.fill (fun k => some (k * i.size, i.size)) ((Array.range (len * i.size)).map fun k => zero[k % zero.size]!) (ps.map fun p => (p.1, r p.2)).toList = some arr' := by rw [← e1]; simp
            have hng : ¬ (len * i.size > 2 ^ 24) := by omega
            have hrun : (Instr.buildSlice t len (ps.map fun p => (p.1, r p.2))).run P w = .ok (.slice (some ⟨w.heap.size, 0, none⟩) len len) { w with heap := w.heap.push (.cells arr' e (0, 0)) } := by
              simp only [Instr.buildSlice, Sem.run_bind, run_underlying hu, Result.andThen_ok, run_sizeOf' hi, if_neg hng]
              by_cases h0 : len * i.size = 0
              · have hz : zero = #[] := by simp [zero, h0]
                rw [hz] at hfill
                rw [if_pos h0]
                simp only [Sem.run_pure, Result.andThen_ok, hfill, newRow, Sem.run_bind, run_newObj]
              · have hz : zero = y.cells := by simp only [zero, if_neg h0]
                rw [hz] at hfill
                rw [if_neg h0]
                simp only [Sem.run_bind, run_zeroValue' hi hy, Sem.run_pure, Result.andThen_ok, hfill, newRow, run_newObj]
            simp only [execOp, Sem.run_bind, hrun, Result.andThen_ok, Sem.run_pure]
          · cases h
      · cases h
    · cases h

/-- A row is written. -/
theorem WOK.store {σ : Sg} {w : World} (hw : WOK σ H w) {id off : Nat} {l l' cs : List CV} {vs : List Value} {b p c : Nat} (hb : σ id = some (b, p, c)) (hl : row H id = some l) (hs : splice l off cs = some l') (hr : RVs σ cs vs)
    (h1 : ∀ u ∈ vs, u.oneCell' = true) (h : H.wr id (.c l') = some H') : ∃ w', (storeCells ⟨b, p + off, none⟩ vs).run P w = .ok () w' ∧ WOK σ H' w' ∧ Evo σ H w σ H' w' := by
  obtain ⟨hf, rfl⟩ := Hp.wr_eq h
  have hg := row_eq hl
  have hid := hw.lt hb
  have he := hw.ent id hid
  rw [hg] at he
  obtain ⟨b', p', c', arr, et, e1, e2, e3, e4, e5⟩ := he
  rw [hb] at e1; cases e1
  obtain ⟨hle, hl'⟩ := splice_eq hs
  have hlen := hr.length
  have hone := run_storeCells_at P b (p + off) et vs 0 arr w e2 (by omega) h1
  refine ⟨_, hone, ?_⟩
  have hle' : l'.length = l.length := by rw [hl']; simp; omega
  refine hw.wr (w' := w.setRow b _) hid hf (by rw [hg]; rfl) hb ⟨rfl, rfl, rfl⟩ (setRow_size w b _) (fun b' hne => setRow_other w b b' _ hne) (by simp) ?_
  refine ⟨b, p, c, _, et, hb, setRow_heap w b arr _ et _ e2, by omega, by simp; omega, ?_⟩
  rw [hle']
  have h3 := splice_rv hs e5 hr
  have : ((List.drop p (arr.toList.take (p + off + 0) ++ vs ++ arr.toList.drop (p + off + 0 + vs.length))).take l.length) = ((arr.toList.drop p).take l.length).take off ++ vs ++ ((arr.toList.drop p).take l.length).drop (off + vs.length) := by
    apply List.ext_getElem?
    intro k
    have l1 : (List.take (p + off) arr.toList).length = p + off := by simp; omega
    have l2 : (((arr.toList.drop p).take l.length).take off).length = off := by simp; omega
    by_cases hk : k < l.length
    · rw [List.getElem?_take, if_pos hk, List.getElem?_drop, Nat.add_zero, List.append_assoc, List.append_assoc]
      by_cases hko : k < off
      · rw [List.getElem?_append_left (by rw [l1]; omega), List.getElem?_append_left (by rw [l2]; exact hko), List.getElem?_take, if_pos (show p + k < p + off by omega), List.getElem?_take, if_pos hko, List.getElem?_take, if_pos hk, List.getElem?_drop]
      · refine Eq.trans (b := (vs ++ arr.toList.drop (p + off + vs.length))[k - off]?) ?_ (Eq.trans (b := (vs ++ ((arr.toList.drop p).take l.length).drop (off + vs.length))[k - off]?) ?_ ?_)
        · rw [List.getElem?_append_right (by rw [l1]; omega), l1, show p + k - (p + off) = k - off by omega]
        rotate_left
        · symm; rw [List.getElem?_append_right (by rw [l2]; omega), l2]
        by_cases h2 : k - off < vs.length
        · rw [List.getElem?_append_left h2, List.getElem?_append_left h2]
        · have e1 : off + vs.length + (k - off - vs.length) = k := by omega
          have e2 : p + off + vs.length + (k - off - vs.length) = p + k := by omega
          rw [List.getElem?_append_right (Nat.le_of_not_lt h2), List.getElem?_append_right (Nat.le_of_not_lt h2), List.getElem?_drop, List.getElem?_drop, e1, e2, List.getElem?_take, if_pos hk, List.getElem?_drop]
    · rw [List.getElem?_eq_none (by simp; omega), List.getElem?_eq_none (by simp; omega)]
  show RVs σ l' ((List.drop p (arr.toList.take (p + off + 0) ++ vs ++ arr.toList.drop (p + off + 0 + vs.length))).take l.length)
  rw [this]
  exact h3

theorem ok_store {t : TypeId} {x y : Operand} (h : evStore P t (ρ x) (ρ y) H = some (v, H')) : OK1 P (.store t x y) ty ρ H v H' := by
  unfold evStore at h
  split at h
  · rename_i id off hcx
    split at h
    · rename_i l s hl hs
      cases hb : Nat.beq (cells (ρ y)).length s && (cells (ρ y)).all oneCell with
      | false => rw [hb] at h; cases h
      | true =>
        rw [hb] at h
        simp only [cond_true] at h
        simp only [Bool.and_eq_true, Nat.beq_eq] at hb
        split at h
        · rename_i l' hsp
          split at h
          · rename_i H1 hwr
            cases h
            refine OK1.skip rfl fun σ w r hw hx => ?_
            have h1 := hx x (by simp [Op.operands])
            have h2 := hx y (by simp [Op.operands])
            rw [hcx] at h1
            obtain ⟨b, p, c, hbk, hrx⟩ := h1
            have h3 := cells_rv hb.2 h2
            obtain ⟨ie, hie, hsz⟩ := sizeT_eq hs
            obtain ⟨w', k1, k2, k3⟩ := hw.store (P := P) hbk hl hsp h3 (ones_rv hb.2 h3) hwr
            refine ⟨w', σ, fun _ _ _ _ => ?_, k2, k3⟩
            have hsize : (r y).cells.size = ie.size := by have := h3.length; simp at this; omega
            simp only [execOp, Instr.storeAt, Instr.sureAddr, hrx, Sem.run_bind, Sem.run_pure, Result.andThen_ok, storeVar, run_sizeOf' hie, hsize, ne_eq, not_true_eq_false, if_false, k1]
          · cases h
        · cases h
    · cases h
  · cases h
end
end Go.Proofs.YtindppnanjcoaaaGreatDoor.Ev
end
section
namespace Go.Proofs.YtindppnanjcoaaaGreatDoor.Ev
open Go
open Ab (OpRuns run_sizeOf' run_zeroValue' Addr.add_none)

section
variable {P : Program} {o : Op} {ty : TypeId} {ρ : Operand → CV} {H H' : Hp} {v : CV} {wq : Option Nat}

theorem ok_nilCheck {x : Operand} {id k : Nat} (h : ρ x = .p id k) : OK1 P (.nilCheck x) ty ρ H (.p id k) H :=
  OK1.val fun σ w r hw hx => by
    have h1 := hx x (by simp [Op.operands])
    rw [h] at h1
    obtain ⟨b, p, c, hb, hr⟩ := h1
    exact ⟨_, fun _ _ _ _ => by simp [execOp, hr], b, p, c, hb, rfl⟩

theorem maps_rv {σ : Sg} {ρ : Operand → CV} {r : Operand → Value} : ∀ {l : List Operand}, (∀ x, x ∈ l → RV σ (ρ x) (r x)) → RVs σ (l.map ρ) (l.map r)
  | [], _ => rfl
  | x :: l, h => ⟨r x, _, rfl, h x (by simp), maps_rv fun y hy => h y (by simp [hy])⟩

theorem ok_makeFunc {fn : Fn} {fst cs : Array Operand} (h : fst.isEmpty = true) : OK1 P (.makeFunc fn fst cs) ty ρ H (.f fn (cs.toList.map ρ)) H :=
  OK1.val fun σ w r hw hx => by
    have h0 : fst = #[] := by simpa using h
    subst h0
    exact ⟨.func fn #[] (cs.map r), fun _ _ _ _ => by simp [execOp, Instr.makeFunc], cs.toList.map r, by simp [← Array.toList_map], maps_rv fun x hx' => hx x (by simpa [Op.operands] using hx')⟩

theorem ok_makeMap {t : TypeId} (h : put H wq (.m [] 0) .m = some (v, H')) (hq : ∀ id, wq = some id → id < H.n) : OK1 P (.makeMap t none) ty ρ H v H' :=
  OK1.of fun σ w r hw _ => by
    obtain ⟨id, rfl, k⟩ := put_ok h hq (by simp)
    obtain ⟨σ', k1, k2, k3⟩ := k σ w (.map #[] 0) (0, 0) hw (fun σ' hm hid => ⟨w.heap.size, 0, #[], hid, by simp, rfl⟩)
    exact ⟨.map (some w.heap.size), _, σ', fun _ _ _ _ => by simp [execOp, Instr.makeMap, run_newObj], k2, k3, _, _, _, k1, rfl⟩

theorem smallT_eq {e : TypeId} (h : smallT P e = true) : ∃ i, P.info? e = some i ∧ i.bytes ≤ 65536 := by
  unfold smallT at h
  split at h
  · rename_i i hi; exact ⟨i, hi, by simpa [Nat.ble_eq] using h⟩
  · cases h

theorem made_rv (σ : Sg) (z : Array Value) (n : Nat) : RVs σ (rep n (z.toList.map cv1)) (madeCells z (n * z.size)).toList := by
  rw [rep_map, rep_range]
  have : (madeCells z (n * z.size)).toList = (List.range (n * z.size)).map fun i => z[i % z.size]! := by simp [madeCells]
  rw [this]; exact cv1s_rv σ _

theorem ok_makeSlice {t : TypeId} {l c : Operand} (h : evMakeSlice P t (ρ l) (ρ c) H wq = some (v, H')) (hq : ∀ id, wq = some id → id < H.n) : OK1 P (.makeSlice t l c) ty ρ H v H' :=
  OK1.of fun σ w r hw hx => by
    have h1 := hx l (by simp [Op.operands])
    have h2 := hx c (by simp [Op.operands])
    unfold evMakeSlice at h
    split at h
    · rename_i e he
      split at h
      · rename_i s z l' c' hs hz hl hc
        cases hb : Nat.beq s z.length && Nat.ble l' c' && Nat.ble c' 65536 && smallT P e with
        | false => rw [hb] at h; cases h
        | true =>
          rw [hb] at h
          simp only [cond_true] at h
          simp only [Bool.and_eq_true, Nat.beq_eq, Nat.ble_eq] at hb
          obtain ⟨i, y, hi, hy, rfl⟩ := zeroT_eq hz
          obtain ⟨ie, hie, rfl⟩ := sizeT_eq hs
          rw [hi] at hie; cases hie
          obtain ⟨i2, hi2, hby⟩ := smallT_eq hb.2
          rw [hi] at hi2; cases hi2
          have hsz : i.size = y.cells.size := by simpa using hb.1.1.1
          obtain ⟨k1, hk1⟩ := asN_rv hl h1
          obtain ⟨k2, hk2⟩ := asN_rv hc h2
          have hmul : i.bytes * c' ≤ 65536 * 65536 := Nat.mul_le_mul hby hb.1.2
          have hrun := run_make (P := P) w t e i y (elemT_eq he) hi hy k1 k2 (l' : Int) (c' : Int) (by omega) (by omega) (by rw [← Int.natCast_mul]; omega) (by omega)
          obtain ⟨id, rfl, k⟩ := put_ok h hq (by simp)
          obtain ⟨σ', e1, e2, e3⟩ := k σ w (.cells (madeCells y.cells (c' * i.size)) e) (0, (madeCells y.cells (c' * i.size)).size) hw (fun σ' hm hid => ent_row (by rw [hsz]; exact made_rv σ _ _) hm hid)
          refine ⟨.slice (some ⟨w.heap.size, 0, none⟩) l' c', _, σ', fun _ _ _ _ => ?_, e2, e3, _, _, _, e1, by simp⟩
          simp only [Int.toNat_natCast] at hrun
          simp only [execOp, Sem.run_bind, hk1, hk2, hrun, Result.andThen_ok, Sem.run_pure]
          rfl
      · cases h
    · cases h

/-- Bounds of a slice expression. -/
theorem bnd_some {σ : Sg} {c : CV} {d y n : Nat} (h : bnd (some c) d y = some n) {x : Value} (hr : RV σ c x) (code : BoundsCode) (w : World) : n ≤ y ∧ (Instr.sliceBound x y code).run P w = .ok n w := by
  simp only [bnd] at h
  split at h
  · rename_i m hm
    obtain ⟨k, rfl⟩ := asN_rv hm hr
    cases hb : Nat.ble m y with
    | false => rw [hb] at h; cases h
    | true =>
      rw [hb] at h; cases h
      rw [Nat.ble_eq] at hb
      refine ⟨hb, ?_⟩
      simp only [Instr.sliceBound, asIntOf, Sem.run_bind, Sem.run_pure, Result.andThen_ok]
      rw [if_pos (by omega)]
      simp
  · cases h
theorem bnd_none {d y n : Nat} (h : bnd none d y = some n) : n = d ∧ d ≤ y := by
  simp only [bnd] at h
  cases hb : Nat.ble d y with
  | false => rw [hb] at h; cases h
  | true => rw [hb] at h; cases h; exact ⟨rfl, by simpa [Nat.ble_eq] using hb⟩

theorem bounds_run {σ : Sg} {ρ : Operand → CV} {r : Operand → Value} {lo hi : Option Operand} {len cap h l : Nat} (isS : Bool) (hlo : ∀ x, lo = some x → RV σ (ρ x) (r x)) (hhi : ∀ x, hi = some x → RV σ (ρ x) (r x))
    (h1 : (hi = none ∧ h = len ∧ len ≤ cap) ∨ ∃ x y, hi = some x ∧ bnd (some (ρ x)) len y = some h ∧ h ≤ cap) (h2 : bnd (lo.map ρ) 0 h = some l) (w : World) :
    l ≤ h ∧ h ≤ cap ∧ (Instr.sliceBounds isS len cap (lo.map r) (hi.map r) none).run P w = .ok (l, h, cap) w := by
  have hl : l ≤ h ∧ ((match lo.map r with | some v => Instr.sliceBound v h .sliceB | none => pure 0 : Sem Nat)).run P w = .ok l w := by
    cases lo with
    | none => obtain ⟨rfl, _⟩ := bnd_none h2; exact ⟨Nat.zero_le _, rfl⟩
    | some x => exact bnd_some h2 (hlo x rfl) _ w
  have hh : h ≤ cap ∧ ((match hi.map r with | some v => Instr.sliceBound v cap (if isS then .sliceAcap else .sliceAlen) | none => pure len : Sem Nat)).run P w = .ok h w := by
    rcases h1 with ⟨rfl, rfl, hle⟩ | ⟨x, y, rfl, hb, hle⟩
    · exact ⟨hle, rfl⟩
    · have hb' : bnd (some (ρ x)) len cap = some h := by
        simp only [bnd] at hb ⊢
        split at hb
        · rename_i m hm
          cases hc : Nat.ble m y with
          | false => rw [hc] at hb; cases hb
          | true =>
            rw [hc] at hb; cases hb
            rw [show Nat.ble h cap = true by rw [Nat.ble_eq]; exact hle]; rfl
        · cases hb
      exact bnd_some hb' (hhi x rfl) _ w
  refine ⟨hl.1, hh.1, ?_⟩
  cases hlo : lo <;> cases hhi : hi <;> simp only [hlo, hhi, Option.map] at hl hh <;> simp [Instr.sliceBounds, hh.2, hl.2]
  all_goals first | done | (have e1 := hh.2; have e2 := hl.2; simp at e1 e2; simp [e1, e2])

theorem bnd_or {hi : Option Operand} {d y n : Nat} (h : bnd (hi.map ρ) d y = some n) : (hi = none ∧ n = d ∧ d ≤ y) ∨ ∃ x z, hi = some x ∧ bnd (some (ρ x)) d z = some n ∧ n ≤ y := by
  cases hi with
  | none => obtain ⟨h1, h2⟩ := bnd_none h; exact .inl ⟨rfl, h1, h2⟩
  | some x =>
    refine .inr ⟨x, y, rfl, h, ?_⟩
    simp only [Option.map, bnd] at h
    split at h
    · rename_i m hm
      cases hc : Nat.ble m y with
      | false => rw [hc] at h; cases h
      | true => rw [hc] at h; cases h; simpa [Nat.ble_eq] using hc
    · cases h

theorem ok_slice {t : TypeId} {x : Operand} {lo hi : Option Operand} (h : evSlice P H t (ρ x) (lo.map ρ) (hi.map ρ) = some (v, H')) : OK1 P (.slice t x lo hi none) ty ρ H v H' := by
  have hH : H' = H ∧ ∀ σ w r, WOK σ H w → (∀ y, y ∈ (Op.slice t x lo hi none).operands → RV σ (ρ y) (r y)) → ∃ rv, (Instr.sliceAt t (r x) (lo.map r) (hi.map r) none).run P w = .ok rv w ∧ RV σ v rv := by
    have hops : ∀ {σ : Sg} {r : Operand → Value}, (∀ y, y ∈ (Op.slice t x lo hi none).operands → RV σ (ρ y) (r y)) → RV σ (ρ x) (r x) ∧ (∀ y, lo = some y → RV σ (ρ y) (r y)) ∧ (∀ y, hi = some y → RV σ (ρ y) (r y)) :=
      fun hx => ⟨hx x (by simp [Op.operands]), fun y hy => hx y (by simp [Op.operands, hy]), fun y hy => hx y (by simp [Op.operands, hy])⟩
    unfold evSlice at h
    split at h
    · rename_i id o len cap hcx
      split at h
      · rename_i e he
        split at h
        · rename_i s hh hs hb
          split at h
          · rename_i l hl
            cases h
            refine ⟨rfl, fun σ w r hw hx => ?_⟩
            obtain ⟨g1, g2, g3⟩ := hops hx
            rw [hcx] at g1
            obtain ⟨b, p, c, hbk, hrx⟩ := g1
            obtain ⟨ie, hie, rfl⟩ := sizeT_eq hs
            obtain ⟨k1, k2, k3⟩ := bounds_run (P := P) true g2 g3 (bnd_or hb) hl w
            refine ⟨.slice (some ⟨b, p + (bif Nat.beq cap l then o else o + l * ie.size), none⟩) (hh - l) (cap - l), ?_, b, p, c, hbk, rfl⟩
            simp only [Instr.sliceAt, Instr.slice, Sem.run_bind, run_underlying (elemT_eq he), Result.andThen_ok, hrx, k3, run_sizeOf' hie, Sem.run_pure]
            by_cases hcl : cap = l
            · simp [hcl]
            · have : Nat.beq cap l = false := by rw [← Bool.not_eq_true, Nat.beq_eq]; exact hcl
              simp [hcl, this, Addr.add_none, Nat.add_assoc]
          · cases h
        · cases h
      · cases h
    · rename_i id k len s hcx
      split at h
      · rename_i e he
        split at h
        · rename_i s' hs
          cases hss : Nat.beq s s' with
          | false => rw [hss] at h; cases h
          | true =>
            rw [hss] at h
            simp only [cond_true] at h
            rw [Nat.beq_eq] at hss
            subst hss
            split at h
            · rename_i hh hb
              split at h
              · rename_i l hl
                cases h
                refine ⟨rfl, fun σ w r hw hx => ?_⟩
                obtain ⟨g1, g2, g3⟩ := hops hx
                rw [hcx] at g1
                obtain ⟨b, p, c, cap, q, hbk, hrx, hc, hle, hs0, hcap, hq⟩ := g1
                obtain ⟨ie, hie, hies⟩ := sizeT_eq hs
                have hb' : (hi = none ∧ hh = len ∧ len ≤ cap) ∨ ∃ x z, hi = some x ∧ bnd (some (ρ x)) len z = some hh ∧ hh ≤ cap := by
                  split at hb
                  · rename_i h1 hb1
                    cases hb
                    rcases bnd_or hb1 with ⟨e1, e2, _⟩ | ⟨y, z, e1, e2, e3⟩
                    · exact .inl ⟨e1, e2, hle⟩
                    · exact .inr ⟨y, z, e1, e2, by omega⟩
                  · split at hb
                    · rename_i l0 hl0
                      have hid := hw.lt hbk
                      have hent := hw.ent id hid
                      rw [row_eq hl0] at hent
                      obtain ⟨b', p', c', arr, et, f1, f2, f3, f4, f5⟩ := hent
                      rw [hbk] at f1; cases f1
                      have hdiv : l0.length / s - k ≤ cap := by
                        have : l0.length / s ≤ (k + cap) * s / s := Nat.div_le_div_right (by omega)
                        rw [Nat.mul_div_cancel _ hs0] at this
                        omega
                      rcases bnd_or hb with ⟨e1, e2, e3⟩ | ⟨y, z, e1, e2, e3⟩
                      · exact .inl ⟨e1, e2, hle⟩
                      · exact .inr ⟨y, z, e1, e2, by omega⟩
                    · cases hb
                obtain ⟨k1, k2, k3⟩ := bounds_run (P := P) true g2 g3 hb' hl w
                have hrun : (Instr.sliceAt t (r x) (lo.map r) (hi.map r) none).run P w = .ok (.slice (if cap = l then some ⟨b, q, none⟩ else some ⟨b, q + l * s, none⟩) (hh - l) (cap - l)) w := by
                  simp only [Instr.sliceAt, Instr.slice, Sem.run_bind, run_underlying (elemT_eq he), Result.andThen_ok, hrx, k3, run_sizeOf' hie, hies, Sem.run_pure]
                  by_cases hcl : cap = l
                  · simp [hcl]
                  · simp [hcl, Addr.add_none]
                rw [hrun]
                refine ⟨_, rfl, b, p, c, cap - l, (if cap = l then q else q + l * s), hbk, ?_, ?_, by omega, hs0, by omega, fun h0 => ?_⟩
                · by_cases hcl : cap = l <;> simp [hcl]
                · rw [← hc]; congr 1; omega
                · rw [if_neg (by omega), hq (by omega), Nat.add_mul, Nat.add_assoc]
              · cases h
            · cases h
        · cases h
      · cases h
    · rename_i id off hcx
      split at h
      · rename_i n e hu
        split at h
        · rename_i s hh hs hb
          split at h
          · rename_i l hl
            cases h
            refine ⟨rfl, fun σ w r hw hx => ?_⟩
            obtain ⟨g1, g2, g3⟩ := hops hx
            rw [hcx] at g1
            obtain ⟨b, p, c, hbk, hrx⟩ := g1
            obtain ⟨ie, hie, rfl⟩ := sizeT_eq hs
            obtain ⟨k1, k2, k3⟩ := bounds_run (P := P) false g2 g3 (bnd_or hb) hl w
            refine ⟨.slice (some ⟨b, p + (bif Nat.beq n l then off else off + l * ie.size), none⟩) (hh - l) (n - l), ?_, b, p, c, hbk, rfl⟩
            simp only [Instr.sliceAt, Sem.run_bind, run_underlying hu, Result.andThen_ok, Instr.sureAddr, hrx, k3, run_sizeOf' hie, Sem.run_pure]
            by_cases hcl : n = l
            · simp [hcl]
            · have : Nat.beq n l = false := by rw [← Bool.not_eq_true, Nat.beq_eq]; exact hcl
              simp [hcl, this, Addr.add_none, Nat.add_assoc]
          · cases h
        · cases h
      · cases h
    · have hp : ∀ {c : CV} {s : Sem Value}, (match pureV P s with | some v => some (cv1 v, H) | none => none) = some (v, H') → ∃ u, pureV P s = some u ∧ v = cv1 u ∧ H' = H := by
        intro c s hh
        split at hh
        · rename_i u hu; cases hh; exact ⟨u, hu, rfl, rfl⟩
        · cases hh
      have hm : ∀ {o : Option Operand} {u : Value}, (o.map ρ).map toV = some (some u) → ∃ y, o = some y ∧ toV (ρ y) = some u := by
        intro o u hh
        cases o with
        | none => cases hh
        | some y => exact ⟨y, rfl, by simpa using hh⟩
      have hn : ∀ {o : Option Operand}, (o.map ρ).map toV = none → o = none := by
        intro o hh; cases o with
        | none => rfl
        | some y => cases hh
      split at h
      · rename_i hx0 hl0 hh0
        obtain ⟨u, hu, rfl, rfl⟩ := hp (c := .any) h
        obtain ⟨y, rfl, hy⟩ := hm hl0
        obtain ⟨z, rfl, hz⟩ := hm hh0
        refine ⟨rfl, fun σ w r hw hx => ?_⟩
        obtain ⟨g1, g2, g3⟩ := hops hx
        simp only [Option.map, toV_eq hx0 g1, toV_eq hy (g2 y rfl), toV_eq hz (g3 z rfl)]
        exact ⟨u, pureV_run P _ _ hu w, cv1_rv σ u⟩
      · rename_i hx0 hl0 hh0
        obtain ⟨u, hu, rfl, rfl⟩ := hp (c := .any) h
        obtain ⟨y, rfl, hy⟩ := hm hl0
        obtain rfl := hn hh0
        refine ⟨rfl, fun σ w r hw hx => ?_⟩
        obtain ⟨g1, g2, g3⟩ := hops hx
        simp only [Option.map, toV_eq hx0 g1, toV_eq hy (g2 y rfl)]
        exact ⟨u, pureV_run P _ _ hu w, cv1_rv σ u⟩
      · rename_i hx0 hl0 hh0
        obtain ⟨u, hu, rfl, rfl⟩ := hp (c := .any) h
        obtain ⟨z, rfl, hz⟩ := hm hh0
        obtain rfl := hn hl0
        refine ⟨rfl, fun σ w r hw hx => ?_⟩
        obtain ⟨g1, g2, g3⟩ := hops hx
        simp only [Option.map, toV_eq hx0 g1, toV_eq hz (g3 z rfl)]
        exact ⟨u, pureV_run P _ _ hu w, cv1_rv σ u⟩
      · rename_i hx0 hl0 hh0
        obtain ⟨u, hu, rfl, rfl⟩ := hp (c := .any) h
        obtain rfl := hn hl0
        obtain rfl := hn hh0
        refine ⟨rfl, fun σ w r hw hx => ?_⟩
        obtain ⟨g1, g2, g3⟩ := hops hx
        simp only [Option.map, toV_eq hx0 g1]
        exact ⟨u, pureV_run P _ _ hu w, cv1_rv σ u⟩
      · cases h
  obtain ⟨rfl, hH⟩ := hH
  refine OK1.val fun σ w r hw hx => ?_
  obtain ⟨rv, h1, h2⟩ := hH σ w r hw hx
  exact ⟨rv, fun _ _ _ _ => by simp [execOp, h1], h2⟩
end
end Go.Proofs.YtindppnanjcoaaaGreatDoor.Ev
end
section
namespace Go.Proofs.YtindppnanjcoaaaGreatDoor.Ev
open Go
open Ab (OpRuns run_sizeOf' run_zeroValue' Addr.add_none)

section
variable {P : Program} {o : Op} {ty : TypeId} {ρ : Operand → CV} {H H' : Hp} {v : CV} {wq : Option Nat}

theorem ok_indexA {t : TypeId} {x y : Operand} (h : evIndexA P t (ρ x) (ρ y) = some v) : OK1 P (.indexAddr t x y) ty ρ H v H :=
  OK1.val fun σ w r hw hx => by
    have h1 := hx x (by simp [Op.operands])
    have h2 := hx y (by simp [Op.operands])
    generalize ρ x = cx at h h1
    unfold evIndexA at h
    split at h
    · rename_i i n e hi hu
      split at h
      · rename_i s id off hs
        obtain ⟨b, p, c, hb, hrx⟩ := h1
        obtain ⟨ie, hie, rfl⟩ := sizeT_eq hs
        obtain ⟨k, hk⟩ := asN_rv hi h2
        cases hlt : Nat.blt i n with
        | false => rw [hlt] at h; cases h
        | true =>
          rw [hlt] at h; cases h
          rw [Nat.blt_eq] at hlt
          refine ⟨.pointer (some ⟨b, p + (off + i * ie.size), none⟩), fun _ _ _ _ => ?_, b, p, c, hb, rfl⟩
          simp [execOp, Instr.indexAt, asIntOf, Instr.sureAddr, hrx, hk, run_underlying hu, hlt, run_sizeOf' hie, Addr.add_none, Nat.add_assoc]
      · cases h
    · cases h

/-- A part of a value. -/
theorem partC_rv {σ : Sg} {t : TypeId} {l : List CV} {off : Nat} {v : CV} (h : partC P t l off = some v) {m : List Value} (hr : RVs σ l m) (w : World) : ∃ u, (part t ⟨m⟩ off).run P w = .ok u w ∧ RV σ v u := by
  unfold partC at h
  split at h
  · rename_i d hd
    cases hag : notAgg d with
    | true =>
      rw [hag] at h
      obtain ⟨u, hu, hv⟩ := hr.nth (show nth l off = some v from h)
      exact ⟨u, by simp [part, Ab.run_isAgg' hd, ← notAgg_eq, hag, hu], hv⟩
    | false =>
      rw [hag] at h
      simp only [cond_false] at h
      split at h
      · rename_i n hn
        split at h
        · rename_i r hrr
          cases h
          obtain ⟨ie, hie, rfl⟩ := sizeT_eq hn
          rw [drp_eq] at hrr
          obtain ⟨e1, e2⟩ := tk_eq hrr
          refine ⟨.agg ((⟨m⟩ : Array Value).extract off (off + ie.size)), by simp [part, Ab.run_isAgg' hd, ← notAgg_eq, hag, run_sizeOf' hie], ((⟨m⟩ : Array Value).extract off (off + ie.size)).toList, rfl, ?_⟩
          have : ((⟨m⟩ : Array Value).extract off (off + ie.size)).toList = (m.drop off).take ie.size := by
            simp [Array.toList_extract, List.extract]
          rw [this, e1]
          exact (hr.drop off).take _
        · cases h
      · cases h
  · cases h

theorem ok_index {t : TypeId} {x y : Operand} (h : evIndex P t (ρ x) (ρ y) = some v) : OK1 P (.index t x y) ty ρ H v H :=
  OK1.val fun σ w r hw hx => by
    have h1 := hx x (by simp [Op.operands])
    have h2 := hx y (by simp [Op.operands])
    generalize ρ x = cx at h h1
    unfold evIndex at h
    split at h
    · rename_i n e l i hu hi
      obtain ⟨m, hm, hr⟩ := h1
      obtain ⟨k, hk⟩ := asN_rv hi h2
      split at h
      · rename_i s hs
        obtain ⟨ie, hie, rfl⟩ := sizeT_eq hs
        cases hlt : Nat.blt i n with
        | false => rw [hlt] at h; cases h
        | true =>
          rw [hlt] at h
          rw [Nat.blt_eq] at hlt
          obtain ⟨u, e1, e2⟩ := partC_rv h hr w
          exact ⟨u, fun _ _ _ _ => by simp [execOp, Instr.index, asIntOf, hm, hk, run_underlying hu, hlt, run_sizeOf' hie, e1], e2⟩
      · cases h
    · rename_i s i hu hi
      obtain ⟨k, hk⟩ := asN_rv hi h2
      have hrx : r x = .string s := h1
      split at h
      · rename_i b hb
        cases h
        rw [nth_eq] at hb
        have hlt : i < s.size := by have := (List.getElem?_eq_some_iff.1 hb).1; rw [Array.length_toList] at this; exact this
        have hget : s[i]? = some b := by
          rw [getElem?_pos s i hlt]
          have := (List.getElem?_eq_some_iff.1 hb).2
          simp only [Option.some.injEq]
          rw [← this]; rfl
        exact ⟨.int .u8 b.toNat, fun _ _ _ _ => by simp [execOp, Instr.index, asIntOf, hrx, hk, run_underlying hu, hget], rfl⟩
      · cases h
    · cases h

/- Maps. -/
theorem keyRows_eq {σ : Sg} : ∀ {es : List (CV × CV × Nat)} {rs es' : List MapEntry}, keyRows es = some rs → RVm σ es es' → rs = es'.map (fun e => ⟨e.key, undef, e.born⟩)
  | [], _, _, h, hr => by cases h; cases hr; rfl
  | (k, x, b) :: l, _, _, h, ⟨e, r, h1, h2, h3, h4, h5⟩ => by
    simp only [keyRows] at h
    split at h
    · rename_i u s hu hs
      cases h
      rw [h1, keyRows_eq hs h5]
      simp [toV_eq hu h2, h4]
    · cases h

theorem findNow_eq {d : TypeDesc} {k : Value} : ∀ {es : List MapEntry} {j : Nat} {res : Option (Nat × Value)}, Instr.findNow d k (es.map fun e => ⟨e.key, undef, e.born⟩) j = some res →
    (res = none ∧ Instr.findNow d k es j = some none) ∨ ∃ i u e, res = some (i, u) ∧ j ≤ i ∧ es[i - j]? = some e ∧ Instr.findNow d k es j = some (some (i, e.val))
  | [], j, res, h => by
    have h : some none = some res := h
    cases h; exact .inl ⟨rfl, rfl⟩
  | e :: es, j, res, h => by
    simp only [List.map_cons, Instr.findNow] at h ⊢
    split at h
    · rename_i hs
      cases h
      exact .inr ⟨j, _, e, rfl, Nat.le_refl _, by simp, by simp [hs]⟩
    · rename_i hs
      rcases findNow_eq h with ⟨rfl, h2⟩ | ⟨i, u, e', rfl, h2, h3, h4⟩
      · exact .inl ⟨rfl, by simp [hs, h2]⟩
      · exact .inr ⟨i, u, e', rfl, by omega, by rw [show i - j = (i - (j + 1)) + 1 by omega]; simpa using h3, by simp [hs, h4]⟩
    · cases h

theorem RVm.len {σ : Sg} : ∀ {c : List (CV × CV × Nat)} {y : List MapEntry}, RVm σ c y → c.length = y.length
  | [], _, h => by cases h; rfl
  | (_, _, _) :: _, _, ⟨e, r, h1, _, _, _, h5⟩ => by subst h1; simp [RVm.len h5]
theorem RVm.get {σ : Sg} : ∀ {c : List (CV × CV × Nat)} {y : List MapEntry}, RVm σ c y → ∀ {i : Nat} {e : MapEntry}, y[i]? = some e → ∃ k x, c[i]? = some (k, x, e.born) ∧ RV σ k e.key ∧ RV σ x e.val
  | [], _, h, i, e, he => by cases h; simp at he
  | (k, x, b) :: l, _, ⟨e0, r, h1, h2, h3, h4, h5⟩, i, e, he => by
    subst h1
    cases i with
    | zero => simp at he; subst he; exact ⟨k, x, by simp [h4], h2, h3⟩
    | succ i => simpa using RVm.get h5 (i := i) (by simpa using he)

theorem ba_eq {a b : ByteArray} (h : (a == b) = true) : a = b := by
  cases a; cases b
  have h : (ByteArray.beq _ _) = true := h
  simp [ByteArray.beq] at h
  simp [h]
theorem same_bits {d : TypeDesc} (hd : keyD d = true) {k x : Value} (h : Instr.sameNow d k x = some true) : Instr.sameBits 10000 x k = true := by
  cases d with
  | int ik =>
    cases k <;> try (cases h; done)
    cases x <;> try (cases h; done)
    simp only [Instr.sameNow] at h
    split at h
    · simp at h; simp_all [Instr.sameBits]
    · cases h
  | string =>
    cases k <;> try (cases h; done)
    cases x <;> try (cases h; done)
    simp only [Instr.sameNow, Option.some.injEq] at h
    have := ba_eq h
    subst this
    simp only [Instr.sameBits]
    exact h
  | _ => cases hd

theorem same_key {d : TypeDesc} (hd : keyD d = true) {k x : Value} (h : Instr.sameNow d k x = some true) : x = k := by
  cases d with
  | int ik =>
    cases k <;> try (cases h; done)
    cases x <;> try (cases h; done)
    simp only [Instr.sameNow] at h
    split at h
    · simp at h; simp_all
    · cases h
  | string =>
    cases k <;> try (cases h; done)
    cases x <;> try (cases h; done)
    simp only [Instr.sameNow, Option.some.injEq] at h
    rw [ba_eq h]
  | _ => cases hd

/-- What a look into a map comes to. -/
theorem findK_ok {σ : Sg} {kt : TypeId} {ck : CV} {es : List (CV × CV × Nat)} {res : Option Nat} (h : findK P kt ck es = some res) {k : Value} {arr : Array MapEntry} (hk : RV σ ck k) (hr : RVm σ es arr.toList) (b : Bool) (w : World) :
    (Instr.checkKey b 10000 kt k).run P w = .ok () w ∧
    ((res = none ∧ (Instr.findKey kt k arr.toList).run P w = .ok none w) ∨ ∃ i e, res = some i ∧ arr.toList[i]? = some e ∧ (Instr.findKey kt k arr.toList).run P w = .ok (some (i, e.val)) w ∧ Instr.sameBits 10000 e.key k = true ∧ e.key = k) := by
  unfold findK at h
  split at h
  · rename_i d hd
    cases hb : keyD d with
    | false => rw [hb] at h; cases h
    | true =>
      rw [hb] at h
      simp only [cond_true] at h
      split at h
      · rename_i k0 rs hk0 hrs
        obtain rfl := toV_eq hk0 hk
        have hrs := keyRows_eq hrs hr
        have hc : (Instr.checkKey b 10000 kt k).run P w = .ok () w := by
          have : ∀ n, (Instr.checkKey b (n + 1) kt k).run P w = .ok () w := by
            intro n
            cases d <;> first | (cases hb; done) | (cases k <;> simp [Instr.checkKey, run_underlying hd])
          exact this 9999
        refine ⟨hc, ?_⟩
        have fk : ∀ r, Instr.findNow d k arr.toList 0 = some r → (Instr.findKey kt k arr.toList).run P w = .ok r w := by
          intro r hr; simp [Instr.findKey, run_underlying hd, hr]
        split at h
        · rename_i i u hf
          cases h
          rw [hrs] at hf
          rcases findNow_eq hf with ⟨h1, _⟩ | ⟨i', u', e, h1, h2, h3, h4⟩
          · cases h1
          · cases h1
            simp only [Nat.sub_zero] at h3
            refine .inr ⟨i, e, rfl, h3, fk _ h4, ?_⟩
            -- the key that is found is the key
            have key : ∀ (es : List MapEntry) (j i : Nat) (u : Value), Instr.findNow d k es j = some (some (i, u)) → ∃ e, es[i - j]? = some e ∧ j ≤ i ∧ Instr.sameNow d k e.key = some true := by
              intro es
              induction es with
              | nil => intro j i u h; cases h
              | cons e es ih =>
                intro j i u h
                simp only [Instr.findNow] at h
                split at h
                · rename_i hs; cases h; exact ⟨e, by simp, Nat.le_refl _, hs⟩
                · obtain ⟨e', g1, g2, g3⟩ := ih _ _ _ h
                  exact ⟨e', by rw [show i - j = (i - (j + 1)) + 1 by omega]; simpa using g1, by omega, g3⟩
                · cases h
            obtain ⟨e', g1, _, g3⟩ := key _ _ _ _ h4
            rw [Nat.sub_zero, h3] at g1
            cases g1
            exact ⟨same_bits hb g3, same_key hb g3⟩
        · rename_i hf
          cases h
          rw [hrs] at hf
          rcases findNow_eq hf with ⟨_, h2⟩ | ⟨i', u', e, h1, _⟩
          · exact .inl ⟨rfl, fk _ h2⟩
          · cases h1
        · cases h
      · cases h
  · cases h

theorem ent_m {σ : Sg} {w : World} {id b p c cl : Nat} {es : List (CV × CV × Nat)} (h : Ent σ w id (.m es cl)) (hb : σ id = some (b, p, c)) : p = 0 ∧ ∃ arr, w.heap[b]? = some (.map arr cl) ∧ RVm σ es arr.toList := by
  obtain ⟨b', c', arr, h1, h2, h3⟩ := h
  rw [hb] at h1; cases h1
  exact ⟨rfl, arr, h2, h3⟩

theorem ok_lookup {t : TypeId} {x k : Operand} {ok : Bool} (h : evLookup P t (ρ x) (ρ k) ok H = some v) : OK1 P (.lookup t x k ok) ty ρ H v H :=
  OK1.val fun σ w r hw hx => by
    have h1 := hx x (by simp [Op.operands])
    have h2 := hx k (by simp [Op.operands])
    generalize ρ x = cx at h h1
    unfold evLookup at h
    split at h
    · rename_i kt et id hu
      obtain ⟨b, p, c, hb, hrx⟩ := h1
      split at h
      · rename_i es cl hg
        have hent := hw.ent id (hw.lt hb)
        rw [hg] at hent
        obtain ⟨_, arr, ha, hr⟩ := ent_m hent hb
        split at h
        · rename_i i hf
          obtain ⟨c1, c2⟩ := findK_ok hf h2 hr arr.isEmpty w
          rcases c2 with ⟨c2, _⟩ | ⟨i', e, c2, c3, c4, _⟩
          · cases c2
          · cases c2
            obtain ⟨ck, cx', d1, d2, d3⟩ := hr.get c3
            split at h
            · rename_i e0 he0
              rw [nth_eq, d1] at he0
              cases he0
              cases h
              cases ok with
              | false => exact ⟨e.val, fun _ _ _ _ => by simp [execOp, Instr.lookup, run_underlying hu, hrx, getObj, Sem.run, ha, c1, c4], d3⟩
              | true => exact ⟨.tuple #[e.val, .bool true], fun _ _ _ _ => by simp [execOp, Instr.lookup, run_underlying hu, hrx, getObj, Sem.run, ha, c1, c4], [e.val, .bool true], rfl, _, _, rfl, d3, _, _, rfl, rfl, rfl⟩
            · cases h
        · rename_i hf
          obtain ⟨c1, c2⟩ := findK_ok hf h2 hr arr.isEmpty w
          rcases c2 with ⟨_, c4⟩ | ⟨i', e, c2, _⟩
          · split at h
            · rename_i z hz
              cases h
              unfold zeroV at hz
              split at hz
              · rename_i i hi
                split at hz
                · rename_i y hy
                  cases hz
                  cases ok with
                  | false => exact ⟨y, fun _ _ _ _ => by simp [execOp, Instr.lookup, run_underlying hu, hrx, getObj, Sem.run, ha, c1, c4, run_zeroValue' hi hy], cvOf_rv σ y⟩
                  | true => exact ⟨.tuple #[y, .bool false], fun _ _ _ _ => by simp [execOp, Instr.lookup, run_underlying hu, hrx, getObj, Sem.run, ha, c1, c4, run_zeroValue' hi hy], [y, .bool false], rfl, _, _, rfl, cvOf_rv σ y, _, _, rfl, rfl, rfl⟩
                · cases hz
              · cases hz
            · cases h
          · cases c2
        · cases h
      · cases h
    · cases h

theorem ok_unOp {op : UnOp} {t : TypeId} {x : Operand} {y u : Value} (hy : toV (ρ x) = some y) (hu : pureV P (Op.unary op y) = some u) : OK1 P (.unOp op t x) ty ρ H (cv1 u) H :=
  OK1.val fun σ w r hw hx => by
    have h1 := toV_eq hy (hx x (by simp [Op.operands]))
    exact ⟨u, fun _ _ _ _ => by simp [execOp, h1, pureV_run P _ _ hu w], cv1_rv σ u⟩

theorem ok_range {t : TypeId} {x : Operand} (h : evRange P t (ρ x) H = some (v, H')) : OK1 P (.range t x) ty ρ H v H' :=
  OK1.of fun σ w r hw hx => by
    have h1 := hx x (by simp [Op.operands])
    generalize ρ x = cx at h h1
    unfold evRange at h
    split at h
    · rename_i s hu
      obtain ⟨e1, e2, e3⟩ := Hp.new_eq h
      subst e3
      have hrx : r x = .string s := h1
      obtain ⟨σ', k1, k2, k3⟩ := hw.new (o := .stringIter s 0) (y := (0, 0)) e1 (x := .si s 0) (by simp) (fun σ' hm hid => ⟨_, _, hid, by simp⟩)
      exact ⟨.pointer (some ⟨w.heap.size, 0, none⟩), _, σ', fun _ _ _ _ => by simp [execOp, Instr.range, run_underlying hu, hrx, run_newObj], k2, k3, by rw [e2]; exact ⟨_, _, _, k1, rfl⟩⟩
    · rename_i kt et id hu
      obtain ⟨b, p, c, hb, hrx⟩ := h1
      split at h
      · rename_i es cl hg
        have hent := hw.ent id (hw.lt hb)
        rw [hg] at hent
        obtain ⟨_, arr, ha, hr⟩ := ent_m hent hb
        obtain ⟨e1, e2, e3⟩ := Hp.new_eq h
        subst e3
        obtain ⟨σ', k1, k2, k3⟩ := hw.new (o := .mapIter (some b) cl #[] cl) (y := (0, 0)) e1 (x := .mi (some id) cl [] cl) (by simp) (fun σ' hm hid => ⟨_, _, _, hid, by simp, (b, p, c), hm _ _ hb, rfl⟩)
        exact ⟨.pointer (some ⟨w.heap.size, 0, none⟩), _, σ', fun _ _ _ _ => by simp [execOp, Instr.range, run_underlying hu, hrx, getObj, Sem.run, ha, newObj], k2, k3, by rw [e2]; exact ⟨_, _, _, k1, rfl⟩⟩
      · cases h
    · cases h
end
end Go.Proofs.YtindppnanjcoaaaGreatDoor.Ev
end
