/- Sorting lists that are written in place: the library's contracts in terms of plain lists. Conditions: none. -/
import Derived.Test.YtkdefjliknpliaaGreatDoorAb30
import Derived.Test.YtkdefjliknpliaaGreatDoorDr
import Derived.Shelf.SlSortCmp.NoneTotal
namespace Go.Proofs.YtkdefjliknpliaaGreatDoor.Ab
open Go Go.Sort

def plainV : D → Value
  | .bool b => .bool b
  | .int k n => .int k n
  | .str s => .string ⟨s.toArray⟩
  | .raw v => v
  | _ => undef
def D.scalar : D → Bool
  | .bool _ | .int _ _ | .str _ => true
  | _ => false
theorem rep_plain {Pr : Nat → Nat → Prop} {w : World} {x : D} {v : Value} (hx : x.scalar = true) (h : RepD Pr w x v) : v = plainV x := by
  cases h <;> first | rfl | (simp [D.scalar] at hx)
theorem plain_rep {Pr : Nat → Nat → Prop} {w : World} {x : D} (hx : x.scalar = true) : RepD Pr w x (plainV x) := by
  cases x <;> first | (simp [D.scalar] at hx; done) | constructor
theorem plain_one {x : D} (hx : x.scalar = true) : (plainV x).oneCell' = true := by
  cases x <;> first | (simp [D.scalar] at hx; done) | rfl

/-- Rows of plain data: how many cells, and what lies in them. -/
structure Pl {α : Type} (f : α → D) (s : Nat) : Prop where
  len : ∀ x, (f x).cells.length = s
  sc : ∀ x, ∀ c ∈ (f x).cells, c.scalar = true
def encP {α : Type} (f : α → D) (x : α) : List Value := (f x).cells.map plainV

section
variable {α : Type} {f : α → D} {s : Nat}
theorem Pl.one (hp : Pl f s) (x : α) : ∀ v ∈ encP f x, v.oneCell' = true := fun v hv => by
  simp only [encP, List.mem_map] at hv
  obtain ⟨c, hc, rfl⟩ := hv
  exact plain_one (hp.sc x c hc)
theorem flat_getP (hs : ∀ x, (f x).cells.length = s) : ∀ {l : List α} {k : Nat} {x : D}, (D.flat (l.map f))[k]? = some x → ∃ y, l[k / s]? = some y ∧ (f y).cells[k % s]? = some x
  | [], k, x, h => by simp [D.flat] at h
  | y :: l, k, x, h => by
    rw [List.map_cons, flat_cons, List.getElem?_append, hs] at h
    split at h
    · rename_i hk
      exact ⟨y, by rw [Nat.div_eq_of_lt hk]; rfl, by rw [Nat.mod_eq_of_lt hk]; exact h⟩
    · rename_i hk
      obtain ⟨z, h1, h2⟩ := flat_getP hs h
      have h0 : 0 < s := by
        rcases Nat.eq_zero_or_pos s with h0 | h0
        · subst h0
          have := (List.getElem?_eq_some_iff.1 h2).1
          rw [hs] at this; omega
        · exact h0
      have e1 : k / s = (k - s) / s + 1 := by rw [← Nat.sub_add_cancel (show s ≤ k by omega), Nat.add_div_right _ h0]; simp
      have e2 : k % s = (k - s) % s := by rw [← Nat.sub_add_cancel (show s ≤ k by omega), Nat.add_mod_right]; simp
      exact ⟨z, by rw [e1]; exact h1, by rw [e2]; exact h2⟩
theorem flatP_len (hs : ∀ x, (f x).cells.length = s) (l : List α) : (D.flat (l.map f)).length = l.length * s := by
  induction l with
  | nil => simp [D.flat]
  | cons y l ih => rw [List.map_cons, flat_cons, List.length_append, ih, hs]; simp [Nat.add_mul, Nat.add_comm]
theorem flatK_at [Inhabited α] (hp : Pl f s) {l : List α} {k : Nat} {x : D} (h : (D.flat (l.map f))[k]? = some x) : (flatK (encP f) s l.toArray)[k]? = some (plainV x) ∧ x.scalar = true := by
  have hk : k < l.length * s := by have := (List.getElem?_eq_some_iff.1 h).1; rwa [flatP_len hp.len] at this
  obtain ⟨y, h1, h2⟩ := flat_getP hp.len h
  have hk2 : k < (flatK (encP f) s l.toArray).size := by simpa using hk
  refine ⟨?_, hp.sc y x (List.mem_of_getElem? h2)⟩
  have h3 := get_flatK (encP f) s l.toArray k (by simpa using hk)
  rw [getElem!_pos (flatK (encP f) s l.toArray) k hk2] at h3
  rw [Array.getElem?_eq_getElem hk2, h3]
  have h4 : l.toArray[k / s]! = y := by
    obtain ⟨q1, q2⟩ := List.getElem?_eq_some_iff.1 h1
    rw [getElem!_pos l.toArray (k / s) (by simpa using q1)]; simpa using q2
  obtain ⟨q1, q2⟩ := List.getElem?_eq_some_iff.1 h2
  rw [h4]
  have h5 : (encP f y)[k % s]! = plainV x := by
    have : k % s < (encP f y).length := by simpa [encP] using q1
    rw [getElem!_pos (encP f y) (k % s) this]; simp [encP, q2]
  rw [h5]

/-- A world in which a list holds other elements. -/
theorem WOK.putL [Inhabited α] {g : G} {w : World} {H : List HE} {id b cap : Nat} {l l' : List α} {e : TypeId} (hp : Pl f s) (hw : WOK g w H) (hH : H[id]? = some (.lst (l.map f) e s)) (ht : g.τ id = some (0, some ⟨b, 0, none⟩, cap)) (h0 : 0 < cap) (hl : l'.length = l.length) (n : Nat) :
    WOK g (putRowK (encP f) s (Sort.ahead w n) b 0 l'.toArray) (H.set id (.lst (l'.map f) e s)) ∧ Evo g w g (putRowK (encP f) s (Sort.ahead w n) b 0 l'.toArray) := by
  obtain ⟨a1, cap1, f1, f2, f3, f4⟩ := hw.lst id _ e s hH
  rw [ht] at f1; injection f1 with f1; injection f1 with _ f1; injection f1 with f1 f1'
  subst f1; subst f1'
  obtain ⟨b0, arr, q1, q0, q2, q3, q4, q5⟩ := f4 h0
  injection q1 with q1; injection q1 with q1
  subst q1
  have hll : l'.length * s ≤ cap * s := Nat.mul_le_mul_right s (by rw [List.length_map] at f2; omega)
  refine hw.storeLst (arr' := putCells (fun v : Value => v) 0 (flatK (encP f) s l'.toArray) arr) hH ht h0 q0 ⟨rfl, rfl, rfl⟩ (by simp [putRowK]) ?_ ?_ (by simpa [hl] using f2) (by simp [putCells, q3]) ?_
  · simp only [putRowK, putRow, mapBlock, heap_ahead, Array.getElem?_modify, if_true, q2, Option.map_some, onCells]
    rfl
  · intro b' hb'
    simp only [putRowK, putRow, mapBlock, heap_ahead, Array.getElem?_modify, if_neg (Ne.symm hb')]
  · intro k x v hx hv
    obtain ⟨h1, h2⟩ := flatK_at hp hx
    have hk : k < (flatK (encP f) s l'.toArray).size := (Array.getElem?_eq_some_iff.1 h1).1
    have hka : k < arr.size := by rw [q3]; simp at hk; omega
    simp only [putCells, Array.getElem?_mapIdx, Array.getElem?_eq_getElem hka, Option.map_some, Option.some.injEq, Nat.zero_le, true_and, Nat.zero_add, Nat.sub_zero, if_pos hk] at hv
    rw [getElem!_pos (flatK (encP f) s l'.toArray) k hk, (Array.getElem?_eq_some_iff.1 h1).2] at hv
    have hv' : plainV x = v := hv
    rw [← hv']; exact plain_rep h2

theorem WOK.grown {g : G} {w : World} {H : List HE} (hw : WOK g w H) (os : Array Obj) : WOK g (grow w os) H ∧ Evo g w g (grow w os) :=
  hw.below ⟨rfl, rfl, rfl, by simp [grow], fun k hk => by simp [grow, Array.getElem?_append, hk]⟩

/-- What a function of data does in a world of its own: the world behind it is the world before it, further drawn and grown. -/
theorem Fn.grows {P : Program} {c : FuncId} {ds : List D} {k : IntKind} {r : Int} (h : Fn P c ds (.int k r)) {w : World} (Pr : Nat → Nat → Prop) (hPr : ∀ b o, Pr b o → b < w.heap.size)
    (hkc : ∀ x ∈ KC, (∀ o, o < x.2.size → Pr x.1 o) ∧ ∃ et fr, w.heap[x.1]? = some (.cells x.2 et fr)) {vals : Array Value} (hs : vals.size = ds.length)
    (ha : ∀ (i : Nat) x v, ds[i]? = some x → vals[i]? = some v → RepD Pr w x v) :
    Calls P c vals w fun e w' => e = .returned (.int k r) ∧ ∃ q os', w' = grow (w.drewN q) os' := by
  have hw : WOK ⟨fun _ => none, fun _ => none, fun _ _ => False, fun _ => False, Pr⟩ w [] := by
    refine ⟨hPr, fun b h => h.elim, ?_, ?_, ?_, ?_, ?_, ?_, fun _ _ => ⟨rfl, rfl, fun _ h => h⟩, fun x hx => ⟨fun h => h, (hkc x hx).1, (hkc x hx).2⟩⟩ <;> (intros; simp_all)
  refine (Dr.calls_dr (h _ w vals hw (by simpa using hs) (fun i x v hx hv => ?_))).mono ?_
  · simp only [List.getElem?_map, Option.map_eq_some_iff] at hx
    obtain ⟨d, hd, rfl⟩ := hx
    exact .d (ha i d v hd hv)
  · rintro e w' ⟨⟨rv, res, g', H', rfl, h2, h3, h4, h5⟩, h6⟩
    subst h5
    have h7 := h6 ⟨rv, rfl⟩
    cases h4 with
    | d h8 =>
      cases h8
      refine ⟨rfl, w'.drawn - w.drawn, w'.heap.extract w.heap.size w'.heap.size, ?_⟩
      have hheap : w'.heap = w.heap ++ w'.heap.extract w.heap.size w'.heap.size := by
        apply Array.ext_getElem?
        intro i
        by_cases hi : i < w.heap.size
        · rw [Array.getElem?_append_left hi]; exact h3.keep i hi (fun h => h)
        · rw [Array.getElem?_append_right (by omega), Array.getElem?_extract]
          by_cases hi2 : i < w'.heap.size
          · rw [if_pos (by omega)]; congr 1; omega
          · rw [if_neg (by omega), Array.getElem?_eq_none (by omega)]
      obtain ⟨s1, s2, s3⟩ := h3.same
      obtain ⟨h', t', d', o', u'⟩ := w'
      obtain ⟨h0, t0, d0, o0, u0⟩ := w
      simp only at s1 s2 s3 h7 hheap
      subst s1; subst s2; subst s3
      simp only [grow, World.drewN, World.mk.injEq, and_true, true_and]
      exact ⟨hheap, by omega⟩

/-- Sorted by insertion. -/
def insS {α : Type} (lt : α → α → Bool) (x : α) : List α → List α
  | [] => [x]
  | y :: l => if lt y x then y :: insS lt x l else x :: y :: l
def isort {α : Type} (lt : α → α → Bool) : List α → List α
  | [] => []
  | x :: l => insS lt x (isort lt l)
theorem insS_perm {α : Type} (lt : α → α → Bool) (x : α) : ∀ l : List α, (insS lt x l).Perm (x :: l)
  | [] => .refl _
  | y :: l => by
    simp only [insS]
    split
    · exact ((insS_perm lt x l).cons y).trans (.swap x y l)
    · exact .refl _
theorem isort_perm {α : Type} (lt : α → α → Bool) : ∀ l : List α, (isort lt l).Perm l
  | [] => .refl _
  | x :: l => (insS_perm lt x _).trans ((isort_perm lt l).cons x)
theorem isort_len {α : Type} (lt : α → α → Bool) (l : List α) : (isort lt l).length = l.length := (isort_perm lt l).length_eq
theorem insS_sorted {α : Type} {lt : α → α → Bool} (hO : SWO lt) (x : α) : ∀ {l : List α}, l.Pairwise (fun a b => (!lt b a) = true) → (insS lt x l).Pairwise (fun a b => (!lt b a) = true)
  | [], _ => by simp [insS]
  | y :: l, h => by
    obtain ⟨h1, h2⟩ := List.pairwise_cons.1 h
    simp only [insS]
    split
    · rename_i hyx
      refine List.pairwise_cons.2 ⟨fun z hz => ?_, insS_sorted hO x h2⟩
      rcases List.mem_cons.1 ((insS_perm lt x l).mem_iff.1 hz) with rfl | hz
      · cases hzy : lt z y with
        | false => rfl
        | true => have := hO.trans _ _ _ hyx hzy; rw [hO.irrefl] at this; cases this
      · exact h1 z hz
    · rename_i hyx
      have hyx : lt y x = false := by simpa using hyx
      refine List.pairwise_cons.2 ⟨fun z hz => ?_, h⟩
      rcases List.mem_cons.1 hz with rfl | hz
      · simp [hyx]
      · have h3 := h1 z hz
        simp only [Bool.not_eq_true'] at h3 ⊢
        exact hO.ntrans _ _ _ h3 hyx
theorem isort_sorted {α : Type} {lt : α → α → Bool} (hO : SWO lt) : ∀ l : List α, (isort lt l).Pairwise (fun a b => (!lt b a) = true)
  | [] => .nil
  | x :: l => insS_sorted hO x (isort_sorted hO l)
theorem merge_isort {α : Type} {lt : α → α → Bool} (hO : SWO lt) (hT : ∀ x y, lt x y = false → lt y x = false → x = y) (l : List α) : (l.mergeSort fun x y => !lt y x) = isort lt l := by
  refine List.Perm.eq_of_pairwise (le := fun x y => (!lt y x) = true) ?_ ?_ (isort_sorted hO l) ((List.mergeSort_perm _ _).trans (isort_perm lt l).symm)
  · intro x y _ _ h1 h2
    simp only [Bool.not_eq_true'] at h1 h2
    exact hT x y h2 h1
  · refine List.pairwise_mergeSort ?_ ?_ l
    · intro x y z h1 h2
      simp only [Bool.not_eq_true'] at h1 h2 ⊢
      exact hO.ntrans _ _ _ h2 h1
    · intro x y
      cases h1 : lt y x with
      | false => simp
      | true =>
        cases h2 : lt x y with
        | false => simp
        | true => have := hO.trans _ _ _ h1 h2; rw [hO.irrefl] at this; cases this

/-- What the library says of its sort with a function, at this program. -/
structure SortsF [Inhabited α] (P : Program) (fs c : FuncId) (enc : α → List Value) (s : Nat) (cf : α → α → Int) : Prop where
  nil : ∀ p cap w, Calls P fs #[.slice p 0 cap, .func (.func c) #[] #[]] w fun e w' => e = .returned (.tuple #[]) ∧ w' = w
  row : ∀ b cap (d : Array α) w, CmpLays P c #[] enc s cf b 0 d.size w → HoldsK enc s w b 0 d → b < w.heap.size → d.size < 4611686018427387904 →
    Calls P fs #[.slice (some ⟨b, 0, none⟩) d.size cap, .func (.func c) #[] #[]] w fun e w' => e = .returned (.tuple #[]) ∧ ∃ n os, w' = sortWorldK enc s w b 0 n (d.toList.mergeSort fun x y => !(ltOf cf) y x).toArray os

/-- A list in the heap: its memory. -/
theorem WOK.lstAt [Inhabited α] {g : G} {w : World} {H : List HE} {id : Nat} {l : List α} {e : TypeId} {v : Value} (hp : Pl f s) (hw : WOK g w H) (hH : H[id]? = some (.lst (l.map f) e s)) (hr : Rep g w (.hs id 0 l.length s) v) :
    ∃ a cap, v = .slice a l.length cap ∧ (l ≠ [] → ∃ b, a = some ⟨b, 0, none⟩ ∧ g.τ id = some (0, some ⟨b, 0, none⟩, cap) ∧ 0 < cap ∧ (∀ o, ¬ g.Pr b o) ∧ g.X b ∧ HoldsK (encP f) s w b 0 l.toArray) := by
  obtain ⟨a1, cap1, f1, f2, f3, f4⟩ := hw.lst id _ e s hH
  cases hr with
  | hs h1 h2 =>
    rw [f1] at h1; injection h1 with h1; injection h1 with h1 h3; injection h3 with h3 h4
    subst h1; subst h3; subst h4
    obtain ⟨r1, r2, r3, r4⟩ := hs0 (h2 rfl)
    subst r1; subst r2; subst r3
    refine ⟨_, _, rfl, fun hne => ?_⟩
    have hpos : 0 < l.length := List.length_pos_iff.2 hne
    have hcap := Nat.lt_of_lt_of_le hpos r4
    obtain ⟨b0, arr, q1, q0, q2, q3, q4, q5⟩ := f4 hcap
    subst q1
    refine ⟨b0, rfl, f1, hcap, q4, hw.blk id _ b0 hH (by simp [G.blk, f1, hcap]), fun j hj => ?_⟩
    have hj' : j < l.length * s := by simpa using hj
    have hx : ∃ x, (D.flat (l.map f))[j]? = some x := by
      have : j < (D.flat (l.map f)).length := by rw [flatP_len hp.len]; exact hj'
      exact ⟨_, List.getElem?_eq_getElem this⟩
    obtain ⟨x, hx⟩ := hx
    obtain ⟨h5, h6⟩ := flatK_at hp hx
    have hja : j < arr.size := by
      rw [q3]; rw [List.length_map] at f2
      exact Nat.lt_of_lt_of_le hj' (Nat.mul_le_mul_right s f2)
    have h7 := rep_plain h6 (q5 j x arr[j] hx (Array.getElem?_eq_getElem hja))
    rw [getElem!_pos (flatK (encP f) s l.toArray) j hj]
    have h8 : (flatK (encP f) s l.toArray)[j] = plainV x := (Array.getElem?_eq_some_iff.1 h5).2
    rw [h8, ← h7]
    have h9 : w.cell? ⟨b0, 0 + j, none⟩ = some arr[j] := by simp [World.cell?, q2, hja]
    exact ⟨h9, by simp [World.frozen?, q2]⟩

theorem ACall.sortF [Inhabited α] {P : Program} {fs c : FuncId} {cf : α → α → Int} {e : TypeId} {l : List α} (hS : SortsF P fs c (encP f) s cf) (hp : Pl f s) (hg : ∀ x, f x = .agg (f x).cells) (hc : ∀ x y, Fn P c [f x, f y] (.int .i64 (cf x y)))
    (hO : SWO (ltOf cf)) (hT : ∀ x y, ltOf cf x y = false → ltOf cf y x = false → x = y) (hlen : l.length < 4611686018427387904) :
    ACall P fs [.hs 0 0 l.length s, .fn (.func c) []] [.lst (l.map f) e s] fun r H' => r = .tup [] ∧ H' = [.lst ((isort (ltOf cf) l).map f) e s] := by
  intro g w vals hw hs ha
  obtain ⟨v0, v1, rfl⟩ : ∃ v0 v1, vals = #[v0, v1] := by
    obtain ⟨vs⟩ := vals
    match vs, hs with
    | [a, b], _ => exact ⟨a, b, rfl⟩
  have h0 := ha 0 _ v0 rfl rfl
  have h1 := ha 1 _ v1 rfl rfl
  cases h1 with
  | @fn _ _ arr hsz _ =>
    obtain rfl : arr = #[] := Array.eq_empty_of_size_eq_zero (by simpa using hsz)
    obtain ⟨a, cap, rfl, hne⟩ := hw.lstAt hp rfl h0
    by_cases hl : l = []
    · subst hl
      refine (hS.nil a cap w).mono ?_
      rintro e' w' ⟨rfl, rfl⟩
      exact ⟨_, .tup [], g, _, rfl, hw, Evo.refl g w', .tup rfl (by simp), rfl, rfl⟩
    · obtain ⟨b, rfl, hτ, hcap, hpr, hX, hH⟩ := hne hl
      have hb : b < w.heap.size := hw.xs b hX
      have hcl : CmpLays P c #[] (encP f) s cf b 0 l.toArray.size w := fun m os dk hdk x y => by
        obtain ⟨w1, w2⟩ := hw.putL (id := 0) (l' := dk.toList) hp rfl hτ hcap (by simpa using hdk) m
        obtain ⟨w3, w4⟩ := w1.grown os
        have hW : sortWorldK (encP f) s w b 0 m dk os = grow (putRowK (encP f) s (Sort.ahead w m) b 0 dk.toList.toArray) os := rfl
        rw [hW]
        refine Fn.grows (hc x y) g.Pr w3.pr (fun x hx => (w3.kc x hx).2) rfl (fun i d v hd hv => ?_)
        match i, hd, hv with
        | 0, hd, hv =>
          simp only [List.getElem?_cons_zero, Option.some.injEq] at hd; subst hd
          have hv' : Value.agg (encP f x).toArray = v := by simpa using hv
          subst hv'
          rw [hg x]
          refine .agg _ _ (by simp [encP]) (fun j d v hd hv => ?_)
          have : v = plainV d := by simp only [encP, List.getElem?_toArray, List.getElem?_map, hd, Option.map_some, Option.some.injEq] at hv; exact hv.symm
          subst this
          exact plain_rep (hp.sc x d (List.mem_of_getElem? hd))
        | 1, hd, hv =>
          simp only [List.getElem?_cons_succ, List.getElem?_cons_zero, Option.some.injEq] at hd; subst hd
          have hv' : Value.agg (encP f y).toArray = v := by simpa using hv
          subst hv'
          rw [hg y]
          refine .agg _ _ (by simp [encP]) (fun j d v hd hv => ?_)
          have : v = plainV d := by simp only [encP, List.getElem?_toArray, List.getElem?_map, hd, Option.map_some, Option.some.injEq] at hv; exact hv.symm
          subst this
          exact plain_rep (hp.sc y d (List.mem_of_getElem? hd))
        | i + 2, hd, _ => simp at hd
      refine (hS.row b cap l.toArray w hcl hH hb (by simpa using hlen)).mono ?_
      rintro e' w' ⟨rfl, n, os, rfl⟩
      obtain ⟨w1, w2⟩ := hw.putL (id := 0) (l' := isort (ltOf cf) l) hp rfl hτ hcap (isort_len _ l) n
      obtain ⟨w3, w4⟩ := w1.grown os
      have hW : sortWorldK (encP f) s w b 0 n (l.toArray.toList.mergeSort fun x y => !(ltOf cf) y x).toArray os = grow (putRowK (encP f) s (Sort.ahead w n) b 0 (isort (ltOf cf) l).toArray) os := by
        rw [List.toList_toArray, merge_isort hO hT]; rfl
      rw [hW]
      exact ⟨_, .tup [], g, _, rfl, w3, w2.trans w4, .tup rfl (by simp), rfl, rfl⟩
end
end Go.Proofs.YtkdefjliknpliaaGreatDoor.Ab
