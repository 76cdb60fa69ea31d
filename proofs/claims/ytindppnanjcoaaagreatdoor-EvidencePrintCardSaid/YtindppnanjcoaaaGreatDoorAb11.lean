/- From a walk to a row: what comes in reads as data of its type, and a law that returns true leaves what came in as it was. Conditions: none. -/
import Derived.Test.YtindppnanjcoaaaGreatDoorAb10
import Derived.Carry
import Derived.RowKit
import Derived.ChangeSame
import Derived.ChangeArms
import Derived.JoinedOf
import Derived.Handed
namespace Go.Proofs.YtindppnanjcoaaaGreatDoor.Ab
open Go Go.RowKit Go.ChangeShapes Go.WideShapes

def isRow (P : Program) (t : TypeId) : Bool := match P.underlying t with
  | some (.struct _) | some (.array _ _) => true
  | _ => false
/-- The places of the parts of a struct or an array, and their types. -/
def partsOf (P : Program) (t : TypeId) : List (Nat × TypeId) := match P.underlying t with
  | some (.struct fs) => fs.toList.map fun f => (f.offset, f.type)
  | some (.array n e) => (List.range n).map fun i => (i * P.cellsOf e, e)
  | _ => []
def fitB (P : Program) : Nat → List (Nat × TypeId) → Nat → Bool
  | off, [], n => off == n
  | off, f :: fs, n => f.1 == off && fitB P (off + P.cellsOf f.2) fs n
/-- Types of plain data. -/
def plainB (P : Program) : Nat → TypeId → Bool
  | 0, _ => false
  | d + 1, t => match P.underlying t with
    | some .bool | some (.int _) | some .string => true
    | some (.slice e) => decide (0 < P.cellsOf e) && plainB P d e
    | some (.struct _) | some (.array _ _) => fitB P 0 (partsOf P t) (P.cellsOf t) && (partsOf P t).all fun f => plainB P d f.2
    | _ => false
/-- The datum that some cells make up. -/
def mkD (agg : Bool) (c : List D) : D := match agg, c with
  | false, [y] => y
  | _, c => .agg c

/-- The cells of a datum of a type. -/
inductive Ty (P : Program) (N : Nat) : TypeId → List D → Prop
  | bool {t : TypeId} (ht : P.underlying t = some .bool) (b : Bool) : Ty P N t [.bool b]
  | int {t : TypeId} {k : IntKind} (ht : P.underlying t = some (.int k)) (n : Int) (hn : (Lit.int k n).wf = true) : Ty P N t [.int k n]
  | str {t : TypeId} (ht : P.underlying t = some .string) (s : List UInt8) (hs : s.length ≤ N) : Ty P N t [.str s]
  | sl {t e : TypeId} (ht : P.underlying t = some (.slice e)) (l : List (List D)) (hl : l.length ≤ N) (h : ∀ x ∈ l, Ty P N e x) : Ty P N t [.sl (l.map (mkD (isRow P e)))]
  | row {t : TypeId} (ht : isRow P t = true) (ps : List (List D)) (hl : ps.length = (partsOf P t).length) (h : ∀ (i : Nat) f x, (partsOf P t)[i]? = some f → ps[i]? = some x → Ty P N f.2 x) : Ty P N t ps.flatten

theorem Ty.cells {P : Program} {N : Nat} {t : TypeId} {c : List D} (h : Ty P N t c) : (mkD (isRow P t) c).cells = c := by
  cases h with
  | bool ht b => simp [isRow, ht, mkD, D.cells]
  | int ht n hn => simp [isRow, ht, mkD, D.cells]
  | str ht s hs => simp [isRow, ht, mkD, D.cells]
  | sl ht l hl h => simp [isRow, ht, mkD, D.cells]
  | row ht ps hl h => rw [ht]; rfl

/-- Places that hold something. -/
def PrW (W : World) (b o : Nat) : Prop := (W.cell? ⟨b, o, none⟩).isSome = true

def RepL (W : World) (c : List D) (cs : List Value) : Prop := c.length = cs.length ∧ ∀ (i : Nat) y v, c[i]? = some y → cs[i]? = some v → RepD (PrW W) W y v

section
variable {H : Type} {enc : TypeId × Value → H} {P : Program} {W : World}

theorem flat_len {s : Nat} : ∀ {L : List (List D)}, (∀ c ∈ L, c.length = s) → L.flatten.length = L.length * s
  | [], _ => by simp
  | c :: L, h => by
    rw [List.flatten_cons, List.length_append, flat_len (fun x hx => h x (List.mem_cons_of_mem _ hx)), h c (List.mem_cons_self ..), List.length_cons, Nat.succ_mul]; omega
theorem flat_at11 {s : Nat} (hpos : 0 < s) : ∀ {L : List (List D)}, (∀ c ∈ L, c.length = s) → ∀ {k : Nat} {c : List D}, L[k / s]? = some c → L.flatten[k]? = c[k % s]?
  | [], _, k, c, hc => by simp at hc
  | x :: L, h, k, c, hc => by
    have hx := h x (List.mem_cons_self ..)
    rw [List.flatten_cons, List.getElem?_append]
    by_cases hk : k < s
    · rw [Nat.div_eq_of_lt hk] at hc
      simp at hc; subst hc
      rw [if_pos (by omega), Nat.mod_eq_of_lt hk]
    · have hk' : s ≤ k := by omega
      obtain ⟨j, rfl⟩ : ∃ j, k = j + s := ⟨k - s, by omega⟩
      rw [Nat.add_div_right _ hpos] at hc
      rw [if_neg (by omega), hx, Nat.add_sub_cancel, Nat.add_mod_right]
      exact flat_at11 hpos (fun y hy => h y (List.mem_cons_of_mem _ hy)) (by simpa using hc)
theorem mapM_each {α β : Type} {f : α → Option β} : ∀ {l : List α} {r : List β}, l.mapM f = some r → ∀ {i : α}, i ∈ l → ∃ y, f i = some y
  | [], _, _, _, hi => by simp at hi
  | a :: l, r, h, i, hi => by
    simp only [List.mapM_cons, Option.bind_eq_bind, Option.bind_eq_some_iff] at h
    obtain ⟨b, hb, bs, hbs, _⟩ := h
    rcases List.mem_cons.1 hi with rfl | hi
    · exact ⟨b, hb⟩
    · exact mapM_each hbs hi
theorem mapM_mem {α β : Type} {f : α → Option β} : ∀ {l : List α} {r : List β}, l.mapM f = some r → ∀ {i : α} {y : β}, i ∈ l → f i = some y → y ∈ r
  | [], r, _, i, _, hi, _ => by cases hi
  | a :: l, r, h, i, y, hi, hy => by
    rw [List.mapM_cons] at h
    cases hfa : f a with
    | none => rw [hfa] at h; simp at h
    | some b =>
      cases hfl : l.mapM f with
      | none => rw [hfa, hfl] at h; simp at h
      | some t =>
        rw [hfa, hfl] at h
        simp at h; subst h
        rcases List.mem_cons.1 hi with rfl | hi
        · rw [hfa] at hy; injection hy with hy; subst hy; exact List.mem_cons_self ..
        · exact List.mem_cons_of_mem _ (mapM_mem hfl hi hy)
theorem fitB_le : ∀ {fs : List (Nat × TypeId)} {off n : Nat}, fitB P off fs n = true → off ≤ n
  | [], off, n, h => by simp [fitB] at h; omega
  | f :: fs, off, n, h => by
    simp only [fitB, Bool.and_eq_true, beq_iff_eq] at h
    have := fitB_le h.2
    omega

theorem parts_rep {N : Nat} {cs : List Value} : ∀ {fs : List (Nat × TypeId)} {off : Nat}, fitB P off fs cs.length = true →
    (∀ f ∈ fs, ∃ c, Ty P N f.2 c ∧ RepL W c ((cs.drop f.1).take (P.cellsOf f.2))) →
    ∃ ps : List (List D), ps.length = fs.length ∧ (∀ (i : Nat) f x, fs[i]? = some f → ps[i]? = some x → Ty P N f.2 x) ∧ RepL W ps.flatten (cs.drop off)
  | [], off, hf, _ => by
    simp only [fitB, beq_iff_eq] at hf
    exact ⟨[], rfl, by simp, by simp [hf], by simp⟩
  | f :: fs, off, hf, h => by
    simp only [fitB, Bool.and_eq_true, beq_iff_eq] at hf
    obtain ⟨rfl, hf⟩ := hf
    obtain ⟨ps, h1, h2, h3, h4⟩ := parts_rep hf (fun g hg => h g (List.mem_cons_of_mem _ hg))
    obtain ⟨c, hc, hl, hr⟩ := h f (List.mem_cons_self ..)
    have hle := fitB_le hf
    have hcl : c.length = P.cellsOf f.2 := by rw [hl, List.length_take, List.length_drop]; omega
    refine ⟨c :: ps, by simp [h1], fun i g x hg hx => ?_, ?_, fun i y v hy hv => ?_⟩
    · cases i with
      | zero => simp at hg hx; subst hg; subst hx; exact hc
      | succ i => exact h2 i g x (by simpa using hg) (by simpa using hx)
    · rw [List.flatten_cons, List.length_append, h3, hcl, List.length_drop, List.length_drop]; omega
    · rw [List.flatten_cons, List.getElem?_append] at hy
      rw [List.getElem?_drop] at hv
      split at hy
      · rename_i hlt
        refine hr i y v hy ?_
        rw [List.getElem?_take, if_pos (by omega), List.getElem?_drop]; exact hv
      · rename_i hge
        refine h4 (i - c.length) y v hy ?_
        rw [List.getElem?_drop, hcl, show f.1 + P.cellsOf f.2 + (i - P.cellsOf f.2) = f.1 + i by omega]; exact hv

theorem pick_list {R : Nat → List D → Prop} : ∀ len, (∀ i, i < len → ∃ c, R i c) → ∃ L : List (List D), L.length = len ∧ ∀ (i : Nat) c, L[i]? = some c → R i c
  | 0, _ => ⟨[], rfl, by simp⟩
  | len + 1, h => by
    obtain ⟨L, h1, h2⟩ := pick_list len (fun i hi => h i (by omega))
    obtain ⟨c, hc⟩ := h len (by omega)
    refine ⟨L ++ [c], by simp [h1], fun i c' hc' => ?_⟩
    rw [List.getElem?_append] at hc'
    split at hc'
    · exact h2 i c' hc'
    · rename_i hge
      have : i = L.length := by
        have := (List.getElem?_eq_some_iff.1 hc').1
        simp at this; omega
      subst this
      simp at hc'
      subst hc'
      rw [h1]; exact hc

theorem addr_add_add (a : Addr) (i j : Nat) : (a.add i).add j = a.add (i + j) := by
  unfold Addr.add
  by_cases h1 : i = 0 <;> by_cases h2 : j = 0 <;> simp_all [Nat.add_assoc]
theorem one_rep {y : D} {v : Value} (h : RepD (PrW W) W y v) : RepL W [y] [v] := by
  refine ⟨rfl, fun i a b ha hb => ?_⟩
  cases i with
  | zero => simp at ha hb; subst ha; subst hb; exact h
  | succ i => simp at ha

theorem nil_rep : RepD (PrW W) W (.sl []) (.slice none 0 0) :=
  .sl [] none 0 0 (fun _ => undef) (fun _ h => nomatch h) (Nat.le_refl 0) (fun h => absurd rfl h) (fun k x h => by simp [D.flat] at h)

/-- What is said of a reading's size, handed on to its parts. -/
structure Sm (N : Nat) (S : DataW H → Prop) : Prop where
  str : ∀ s : ByteArray, S (.lit (.string s.data.toList)) → s.size ≤ maxLen → s.size ≤ N
  sl : ∀ es sp : List (DataW H), S (.slice es sp) → es.length ≤ maxLen → es.length ≤ N ∧ ∀ e ∈ es, S e
  ag : ∀ ps : List (DataW H), S (.agg ps) → ∀ p ∈ ps, S p
theorem trod_ty {N : Nat} {S : DataW H → Prop} (hS : Sm N S) : ∀ (d : Nat) {t : TypeId} {cs : List Value} {fuel : Nat} {x : DataW H × List MemPlace}, plainB P d t = true → S x.1 →
    DataW.trod enc P W 0 (fun _ => true) true fuel t cs = some x → ∃ c, Ty P N t c ∧ RepL W c cs
  | 0, _, _, _, _, hp, _, _ => by simp [plainB] at hp
  | d + 1, t, cs, 0, x, _, _, h => by simp [DataW.trod] at h
  | d + 1, t, cs, fuel + 1, x, hp, hsm, h => by
    have hrow : isRow P t = true → fitB P 0 (partsOf P t) (P.cellsOf t) = true → ((partsOf P t).all fun f => plainB P d f.2) = true → cs.length = P.cellsOf t →
        (∀ f ∈ partsOf P t, ∃ x', S x'.1 ∧ DataW.trod enc P W 0 (fun _ => true) true fuel f.2 ((cs.drop f.1).take (P.cellsOf f.2)) = some x') → ∃ c, Ty P N t c ∧ RepL W c cs := by
      intro hr hf ha hl hx
      have := parts_rep (W := W) (cs := cs) (by rw [hl]; exact hf) (fun f hf => by
        obtain ⟨x', hx1, hx'⟩ := hx f hf
        exact trod_ty hS d (List.all_eq_true.1 ha f hf) hx1 hx')
      obtain ⟨ps, h1, h2, h3⟩ := this
      exact ⟨ps.flatten, .row hr ps h1 h2, by simpa using h3⟩
    unfold plainB at hp
    cases hu : P.underlying t with
    | none => rw [hu] at hp; simp at hp
    | some td =>
      rw [hu] at hp
      unfold DataW.trod at h
      rw [hu] at h
      cases td with
      | bool =>
        split at h <;> simp_all
        exact ⟨_, .bool hu _, one_rep (.bool _)⟩
      | int k =>
        split at h <;> simp_all
        obtain ⟨⟨rfl, hw⟩, _⟩ := h
        exact ⟨_, .int hu _ hw, one_rep (.int _ _)⟩
      | string =>
        split at h <;> simp_all
        rename_i s
        have hx1 : x.1 = .lit (.string s.data.toList) := by obtain ⟨_, h2⟩ := h; simp [← h2]
        refine ⟨_, .str hu s.data.toList (by rw [Array.length_toList]; exact hS.str s (hx1 ▸ hsm) h.1), one_rep ?_⟩
        have : RepD (PrW W) W (.str s.data.toList) (.string ⟨s.data.toList.toArray⟩) := .str _
        simpa using this
      | slice e =>
        simp only [Bool.and_eq_true, decide_eq_true_eq] at hp
        obtain ⟨hpos, hpe⟩ := hp
        have hd : DataW.trod enc P W 0 (fun _ => true) true (fuel + 1) t cs = some x := by unfold DataW.trod; rw [hu]; exact h
        rcases DataW.trod_slice hu hd with ⟨rfl, _⟩ | ⟨a, len, cap, elems, rest, n, hn, rfl, hxe, _, hlc, hcm, hel, hes, _⟩
        · exact ⟨_, .sl hu [] (Nat.zero_le _) (fun _ h => nomatch h), one_rep nil_rep⟩
        · obtain rfl : fuel = n := by omega
          obtain ⟨hlN, hsub⟩ := hS.sl (elems.map (·.1)) (rest.map (·.1)) (by rw [hxe] at hsm; exact hsm) (by simp; omega)
          simp only [List.length_map] at hlN
          have hch := pick_list (R := fun i c => ∃ vs, Ty P N e c ∧ W.cells? 0 (a.add (i * P.cellsOf e)) (P.cellsOf e) = some vs ∧ RepL W c vs) len (fun i hi => by
            have := hes i hi
            have he : ∃ y, elems[i]? = some y := ⟨elems[i]'(by omega), by simp [hel, hi]⟩
            obtain ⟨y, hy⟩ := he
            rw [hy, Option.bind_eq_some_iff] at this
            obtain ⟨vs, h1, h2⟩ := this
            obtain ⟨c, h3, h4⟩ := trod_ty hS d hpe (hsub _ (List.mem_map.2 ⟨y, List.mem_of_getElem? hy, rfl⟩)) h2
            exact ⟨c, vs, h3, h1, h4⟩)
          obtain ⟨L, hL, hLc⟩ := hch
          have hty : ∀ c ∈ L, Ty P N e c := by
            intro c hc
            obtain ⟨i, hi, rfl⟩ := List.mem_iff_getElem.1 hc
            obtain ⟨_, h1, _⟩ := hLc i _ (List.getElem?_eq_getElem hi)
            exact h1
          have hsz : ∀ (i : Nat) c, L[i]? = some c → c.length = P.cellsOf e := by
            intro i c hc
            obtain ⟨vs, _, h2, h3, _⟩ := hLc i c hc
            rw [h3]; exact (World.cells?_some h2).2.1
          have hcs : ∀ c ∈ L, c.length = P.cellsOf e := by
            intro c hc
            obtain ⟨i, hi, rfl⟩ := List.mem_iff_getElem.1 hc
            exact hsz i _ (List.getElem?_eq_getElem hi)
          have hflat : D.flat (L.map (mkD (isRow P e))) = L.flatten := by
            unfold D.flat
            rw [List.flatMap_def, List.map_map]
            have e : L.map (D.cells ∘ mkD (isRow P e)) = L.map id := List.map_congr_left (fun c hc => (hty c hc).cells)
            rw [e, List.map_id]
          have hat : ∀ (k : Nat), k < len * P.cellsOf e → ∃ y v, L.flatten[k]? = some y ∧ W.cell? (a.add k) = some v ∧ RepD (PrW W) W y v := by
            intro k hk
            have hq : k / P.cellsOf e < len := by rw [Nat.div_lt_iff_lt_mul hpos]; exact hk
            have hLq : L[k / P.cellsOf e]? = some (L[k / P.cellsOf e]'(by omega)) := List.getElem?_eq_getElem (by omega)
            obtain ⟨vs, _, h2, h3, h4⟩ := hLc _ _ hLq
            have hm : k % P.cellsOf e < P.cellsOf e := Nat.mod_lt _ hpos
            have hc := (World.cells?_some h2).2.2 (k % P.cellsOf e) hm
            have hvl := (World.cells?_some h2).2.1
            have hvs : vs[k % P.cellsOf e]? = some (vs[k % P.cellsOf e]'(by omega)) := List.getElem?_eq_getElem (by omega)
            have hys : (L[k / P.cellsOf e]'(by omega))[k % P.cellsOf e]? = some ((L[k / P.cellsOf e]'(by omega))[k % P.cellsOf e]'(by omega)) := List.getElem?_eq_getElem (by omega)
            refine ⟨_, _, ?_, ?_, h4 _ _ _ hys hvs⟩
            · rw [← hys]
              exact flat_at11 hpos hcs hLq
            · rw [hvs] at hc
              have ea : (a.add (k / P.cellsOf e * P.cellsOf e)).add (k % P.cellsOf e) = a.add k := by
                rw [addr_add_add, Nat.div_add_mod']
              rw [← ea]; exact hc
          have hab : len ≠ 0 → a.spot = none := by
            intro h0
            obtain ⟨_, _, _, hc, _⟩ := hat 0 (Nat.mul_pos (by omega) hpos)
            have := World.cell?_spot hc
            simpa [Addr.add] using this
          have hrep : RepD (PrW W) W (.sl (L.map (mkD (isRow P e)))) (.slice (some a) len cap) := by
            have key := RepD.sl (Pr := PrW W) (w := W) (L.map (mkD (isRow P e))) (some a) cap (P.cellsOf e) (fun k => (W.cell? (a.add k)).getD undef)
              (by
                intro y hy
                obtain ⟨c, hc, rfl⟩ := List.mem_map.1 hy
                rw [(hty c hc).cells]; exact hcs c hc)
              (by simp [hL]; exact hlc)
              (fun hne => by
                have h0 : len ≠ 0 := by
                  intro h0
                  rw [h0] at hL
                  exact hne (by simp [List.eq_nil_of_length_eq_zero hL])
                have hs := hab h0
                obtain ⟨ab, ao, as⟩ := a
                simp at hs; subst hs
                refine ⟨ab, ao, rfl, fun k hk => ?_⟩
                obtain ⟨_, v, _, hc, _⟩ := hat k (by simpa [hL] using hk)
                rw [add_plain] at hc ⊢
                have hc' : W.cell? ⟨ab, ao + k, none⟩ = some v := hc
                refine ⟨by rw [PrW, hc']; rfl, ?_⟩
                show W.cell? ⟨ab, ao + k, none⟩ = some ((W.cell? ⟨ab, ao + k, none⟩).getD undef)
                rw [hc']; rfl)
              (fun k y hy => by
                rw [hflat] at hy
                have hk : k < len * P.cellsOf e := by
                  have := (List.getElem?_eq_some_iff.1 hy).1
                  rw [flat_len hcs, hL] at this
                  exact this
                obtain ⟨y', v, h1, h2, h3⟩ := hat k hk
                rw [hy] at h1
                obtain rfl := Option.some.inj h1
                simp [h2]; exact h3)
            simpa [hL] using key
          exact ⟨_, .sl hu L (by omega) hty, one_rep hrep⟩
      | struct fs =>
        have hd : DataW.trod enc P W 0 (fun _ => true) true (fuel + 1) t cs = some x := by unfold DataW.trod; rw [hu]; exact h
        simp only [Bool.and_eq_true] at hp
        obtain ⟨xs, n, hn, hxe, hl, hlen, hf⟩ := DataW.trod_struct hu hd
        obtain rfl : fuel = n := by omega
        refine hrow (by simp [isRow, hu]) hp.1 hp.2 hl fun f hfm => ?_
        simp only [partsOf, hu, List.mem_map] at hfm
        obtain ⟨g, hg, rfl⟩ := hfm
        obtain ⟨i, hi, rfl⟩ := List.mem_iff_getElem.1 hg
        have hi' : i < fs.size := by simpa using hi
        have := hf i _ (Array.getElem?_eq_getElem hi')
        exact ⟨xs[i]'(by omega), hS.ag (xs.map (·.1)) (by rw [hxe] at hsm; exact hsm) _ (List.mem_map.2 ⟨_, List.getElem_mem _, rfl⟩), by rw [show fs.toList[i] = fs[i] by simp, this]; exact List.getElem?_eq_getElem (by omega)⟩
      | array n e =>
        simp only [Bool.and_eq_true] at hp
        simp only at h
        split at h
        · rename_i hl
          simp only [Option.map_eq_some_iff] at h
          obtain ⟨xs, hx, hxe⟩ := h
          refine hrow (by simp [isRow, hu]) hp.1 hp.2 hl fun f hfm => ?_
          simp only [partsOf, hu, List.mem_map, List.mem_range] at hfm
          obtain ⟨i, hi, rfl⟩ := hfm
          obtain ⟨y, hy⟩ := mapM_each hx (by simpa using hi)
          refine ⟨y, hS.ag (xs.map (·.1)) (by rw [← hxe] at hsm; exact hsm) _ (List.mem_map.2 ⟨y, ?_, rfl⟩), hy⟩
          exact mapM_mem hx (by simpa using hi) hy
        · cases h
      | _ => simp at hp

/-- Arguments as data of their types. -/
def TyAll (P : Program) (N : Nat) : List TypeId → List D → Prop
  | [], [] => True
  | t :: ts, x :: xs => (∃ c, Ty P N t c ∧ x = mkD (isRow P t) c) ∧ TyAll P N ts xs
  | _, _ => False

theorem val_rep {N : Nat} {t : TypeId} {c : List D} {v : Value} {r : Reach} {base : Nat} (h : Ty P N t c) (hr : RepL W c v.cells.toList) (hv : Value.okWide P W r base t v) : RepD (PrW W) W (mkD (isRow P t) c) v := by
  cases h with
  | bool ht b =>
    simp only [Value.okWide, ht, Cell.okWide] at hv
    have : mkD (isRow P t) [D.bool b] = D.bool b := by simp [isRow, ht, mkD]
    rw [this]
    cases v <;> simp_all [Cell.ok]
    exact hr.2 0 _ _ rfl (by simp [Value.cells])
  | int ht n hn =>
    simp only [Value.okWide, ht, Cell.okWide] at hv
    rename_i k
    have : mkD (isRow P t) [D.int k n] = D.int k n := by simp [isRow, ht, mkD]
    rw [this]
    cases v <;> simp_all [Cell.ok]
    exact hr.2 0 _ _ rfl (by simp [Value.cells])
  | str ht s hs =>
    simp only [Value.okWide, ht, Cell.okWide] at hv
    have : mkD (isRow P t) [D.str s] = D.str s := by simp [isRow, ht, mkD]
    rw [this]
    cases v <;> simp_all [Cell.ok]
    exact hr.2 0 _ _ rfl (by simp [Value.cells])
  | sl ht l hl h =>
    rename_i e
    have : mkD (isRow P t) [D.sl (l.map (mkD (isRow P e)))] = D.sl (l.map (mkD (isRow P e))) := by simp [isRow, ht, mkD]
    rw [this]
    obtain ⟨a, len, cap, rfl⟩ := okWide_slice ht hv
    exact hr.2 0 _ _ rfl (by simp [Value.cells])
  | row ht ps hl h =>
    rw [ht]
    have : ∃ cs, v = .agg cs := by
      unfold isRow at ht
      unfold Value.okWide at hv
      split at hv
      · exact ⟨_, hv.choose_spec.1⟩
      · exact ⟨_, hv.choose_spec.1⟩
      · split at ht <;> simp_all
    obtain ⟨cs, rfl⟩ := this
    exact .agg _ cs (by have := hr.1; simp [Value.cells] at this ⊢; omega) (fun i x v hx hv => hr.2 i x v hx (by simpa [Value.cells] using hv))

theorem args_ty {N : Nat} {S : DataW H → Prop} (hS : Sm N S) {r : Reach} {base : Nat} : ∀ {ts : List TypeId} {vs : List Value} {ds : List (DataW H)} {ps : List MemPlace}, DataW.TrodAll enc P W 0 (fun _ => true) true ts vs ds ps → (∀ d ∈ ds, S d) → ts.all (plainB P 30) = true →
    (∀ (j : Nat) t v, ts[j]? = some t → vs[j]? = some v → Value.okWide P W r base t v) →
    ∃ xs, TyAll P N ts xs ∧ xs.length = vs.length ∧ ds.length = ts.length ∧ ∀ (i : Nat) x v, xs[i]? = some x → vs[i]? = some v → RepD (PrW W) W x v
  | [], [], [], _, _, _, _, _ => ⟨[], trivial, rfl, rfl, by simp⟩
  | t :: ts, v :: vs, d :: ds, _, h, hds, hp, hv => by
    obtain ⟨p, q, ⟨fuel, h1⟩, h2, _⟩ := h
    simp only [List.all_cons, Bool.and_eq_true] at hp
    obtain ⟨c, hc, hr⟩ := trod_ty hS 30 hp.1 (hds d (List.mem_cons_self ..)) h1
    obtain ⟨xs, k1, k2, k3, k4⟩ := args_ty hS h2 (fun d' hd' => hds d' (List.mem_cons_of_mem _ hd')) hp.2 (fun j t v ht hv' => hv (j + 1) t v (by simpa using ht) (by simpa using hv'))
    refine ⟨mkD (isRow P t) c :: xs, ⟨⟨c, hc, rfl⟩, k1⟩, by simp [k2], by simp [k3], fun i x u hx hu => ?_⟩
    cases i with
    | zero => simp at hx hu; subst hx; subst hu; exact val_rep hc hr (hv 0 t v rfl rfl)
    | succ i => exact k4 i x u (by simpa using hx) (by simpa using hu)
  | [], [], _ :: _, _, h, _, _, _ => h.elim
  | [], _ :: _, _, _, h, _, _, _ => h.elim
  | _ :: _, [], _, _, h, _, _, _ => h.elim
  | _ :: _, _ :: _, [], _, h, _, _, _ => h.elim

theorem trodAll_below {W' : World} (hl : laidOutB P = true) (hb : Below W.heap.size W W') {sp : Nat → Bool} : ∀ {ts : List TypeId} {vs : List Value} {ds : List (DataW H)} {ps : List MemPlace},
    ts.all (fun t => P.readableRec t && decide (t < P.types.size)) = true → DataW.TrodAll enc P W 0 (fun _ => true) true ts vs ds ps → (∀ x ∈ ps, x.block < W.heap.size) → (∀ x ∈ ps, sp x.block = true) → DataW.TrodAll enc P W' 0 sp true ts vs ds ps
  | [], [], [], _, _, h, _, _ => h
  | t :: ts, v :: vs, d :: ds, _, hr, h, hlt, hs => by
    obtain ⟨p, q, h1, h2, rfl⟩ := h
    simp only [List.all_cons, Bool.and_eq_true, decide_eq_true_eq] at hr
    exact ⟨p, q, WideElems.Trod_stays hl hr.1.1 hr.1.2 h1 (fun x hx => hb.same (hlt x (List.mem_append_left _ hx))) (fun x hx => hs x (List.mem_append_left _ hx)),
      trodAll_below hl hb hr.2 h2 (fun x hx => hlt x (List.mem_append_right _ hx)) (fun x hx => hs x (List.mem_append_right _ hx)), rfl⟩
  | [], [], _ :: _, _, _, h, _, _ => h.elim
  | [], _ :: _, _, _, _, h, _, _ => h.elim
  | _ :: _, [], _, _, _, h, _, _ => h.elim
  | _ :: _, _ :: _, [], _, _, h, _, _ => h.elim

/-- A LAW: what is true whatever comes in, and leaves it as it was. -/
theorem law_callsS {N : Nat} {S : DataW H → Prop} (hS : Sm N S) {f : FuncId} {fn : Func} {s : ChangeSpec} {ts : List TypeId} {tb : TypeId} {fresh handsOn again : Bool} (hts : fn.params.toList = ts) (hrt : fn.resultTypes = #[tb]) (hb : P.underlying tb = some .bool) (hvars : s.vars = [])
    (hplain : ts.all (plainB P 30) = true) (hlaid : laidOutB P = true) (hread : ts.all (fun t => P.readableRec t && decide (t < P.types.size)) = true)
    (hspec : ∀ ds : List (DataW H), ds.length = ts.length → (s.fn H ds).results = [.lit (.bool true)] ∧ (s.fn H ds).args = ds ∧ (s.fn H ds).vars = [])
    {base : Nat} {args : Array Value} {ds gs : List (DataW H)} {before : List MemPlace}
    (hkc : ∀ x ∈ KC, ∃ et fr, W.heap[x.1]? = some (.cells x.2 et fr))
    (hlaw : ∀ xs, TyAll P N ts xs → Fn P f xs (.bool true))
    (hval : ∀ (j : Nat) t v, fn.params[j]? = some t → args[j]? = some v → Value.okWide P W .any base t v)
    (hW : DataW.Whole enc P fn.params.toList s.vars false W args.toList ds gs before) (hds : ∀ d ∈ ds, S d) :
    Calls P f args W fun e W' => ∃ v, e = .returned v ∧ s.post enc P fn false fresh handsOn again W args v W' := by
  have hlt := hW.lt
  have hW' := hW
  rw [hts, hvars] at hW
  obtain ⟨p, q, hA, hV, rfl, hfz, _⟩ := hW
  obtain ⟨rfl, rfl⟩ : gs = [] ∧ q = [] := by
    cases gs with
    | nil => exact ⟨rfl, hV⟩
    | cons g gs => exact hV.elim
  rw [List.append_nil] at hlt hfz
  obtain ⟨xs, hx, hlen, hdl, hrep⟩ := args_ty hS (r := .any) (base := base) hA hds hplain (fun j t v ht hv => hval j t v (by rw [← hts] at ht; simpa using ht) (by simpa using hv))
  obtain ⟨e1, e2, e3⟩ := hspec (ds ++ []) (by simpa using hdl)
  rw [List.append_nil] at e2
  let g : G := { σ := fun _ => none, τ := fun _ => none, υ := fun _ _ => False, X := fun _ => False, Pr := PrW W }
  have hw : WOK g W [] := by
    refine ⟨fun b o h => ?_, fun b hb => hb.elim, ?_, ?_, ?_, ?_, ?_, ?_, fun _ _ => ⟨rfl, rfl, fun _ h => h⟩, fun x hx => ⟨fun h => h, fun o ho => ?_, hkc x hx⟩⟩
    · obtain ⟨v, hv⟩ := Option.isSome_iff_exists.1 h
      exact World.block_lt_of_cell? W ⟨b, o, none⟩ hv
    rotate_left 6
    · obtain ⟨et, fr, h1⟩ := hkc x hx
      show (W.cell? ⟨x.1, o, none⟩).isSome = true
      simp [World.cell?, h1, ho]
    all_goals intros; simp_all
  refine (hlaw xs hx g W args hw (by simpa using hlen.symm) (fun i x v hx hv => ?_)).mono ?_
  · simp only [List.getElem?_map, Option.map_eq_some_iff] at hx
    obtain ⟨y, hy, rfl⟩ := hx
    exact .d (hrep i y v hy (by simpa using hv))
  rintro e W' ⟨rv, res, g', H', rfl, hw', hev, hr, rfl⟩
  obtain rfl : rv = .bool true := by
    cases hr with
    | d hd => cases hd; rfl
  have hbelow : Below W.heap.size W W' := ⟨hev.same.1, hev.same.2.1, hev.same.2.2, hev.size, fun k hk => hev.keep k hk (fun h => h)⟩
  have hargs : ∀ sp : Nat → Bool, (∀ x ∈ p, sp x.block = true) → DataW.TrodAll enc P W' 0 sp true fn.params.toList args.toList (s.fn H (ds ++ [])).args p := fun sp hs => by
    rw [List.append_nil, e2, hts]; exact trodAll_below hlaid hbelow hread hA hlt hs
  have hres : ∀ (b : Nat) (sp : Nat → Bool) (hd : Bool), DataW.TrodAll enc P W' b sp hd fn.resultTypes.toList ((Value.bool true).resultList fn.resultTypes.size) (s.fn H (ds ++ [])).results [] := fun b sp hd => by
    rw [e1, hrt]; exact trodAll_mk1 (shut_bool hb true)
  have hvs : ∀ sp : Nat → Bool, DataW.TrodVars enc P W' sp s.vars (s.fn H (ds ++ [])).vars [] := fun sp => by rw [hvars, e3]; rfl
  refine ⟨_, rfl, ds, [], p ++ [], [], p, [], hW', hres _ _ _, hargs _ (fun x hx => by simpa using hlt x hx), hvs _, World.keptBut_mono (fun x hx => ?_) (hbelow.frame (fun _ => False)), fun _ => ?_⟩
  · exact hx.elim
  · refine ⟨ok_one hrt rfl (okWide_bool_mk hb true), _, _, ([] ++ p) ++ [], ⟨[] ++ p, [], trodAll_append (hargs _ (fun _ _ => rfl)) (hres _ _ _), hvs _, rfl, ?_, fun h => by cases h⟩, fun x hx _ => by simpa using hx⟩
    intro b off hp
    have hp' : MemPlace.cell b off ∈ p := by simpa using hp
    rw [hbelow.frozen (p := ⟨b, off, none⟩) (hlt _ hp')]
    exact hfz b off hp'

theorem law_calls {f : FuncId} {fn : Func} {s : ChangeSpec} {ts : List TypeId} {tb : TypeId} {fresh handsOn again : Bool} (hts : fn.params.toList = ts) (hrt : fn.resultTypes = #[tb]) (hb : P.underlying tb = some .bool) (hvars : s.vars = [])
    (hplain : ts.all (plainB P 30) = true) (hlaid : laidOutB P = true) (hread : ts.all (fun t => P.readableRec t && decide (t < P.types.size)) = true)
    (hspec : ∀ ds : List (DataW H), ds.length = ts.length → (s.fn H ds).results = [.lit (.bool true)] ∧ (s.fn H ds).args = ds ∧ (s.fn H ds).vars = [])
    {base : Nat} {args : Array Value} {ds gs : List (DataW H)} {before : List MemPlace}
    (hkc : ∀ x ∈ KC, ∃ et fr, W.heap[x.1]? = some (.cells x.2 et fr))
    (hlaw : ∀ xs, TyAll P maxLen ts xs → Fn P f xs (.bool true))
    (hval : ∀ (j : Nat) t v, fn.params[j]? = some t → args[j]? = some v → Value.okWide P W .any base t v)
    (hW : DataW.Whole enc P fn.params.toList s.vars false W args.toList ds gs before) :
    Calls P f args W fun e W' => ∃ v, e = .returned v ∧ s.post enc P fn false fresh handsOn again W args v W' :=
  law_callsS (N := maxLen) (S := fun _ => True) ⟨fun _ _ h => h, fun _ _ _ h => ⟨h, fun _ _ => trivial⟩, fun _ _ _ _ => trivial⟩ hts hrt hb hvars hplain hlaid hread hspec hkc hlaw hval hW (fun _ _ => trivial)

/- Taking a type's data apart. -/
theorem Ty.inv_bool {N : Nat} {t : TypeId} {c : List D} (h : Ty P N t c) (ht : P.underlying t = some .bool) : ∃ b, c = [.bool b] := by
  cases h <;> simp_all [isRow]
theorem Ty.inv_int {N : Nat} {t : TypeId} {k : IntKind} {c : List D} (h : Ty P N t c) (ht : P.underlying t = some (.int k)) : ∃ n, c = [.int k n] ∧ (Lit.int k n).wf = true := by
  cases h with
  | int ht' n hn => rw [ht] at ht'; cases ht'; exact ⟨n, rfl, hn⟩
  | row hr => simp [isRow, ht] at hr
  | _ => simp_all
theorem Ty.inv_sl {N : Nat} {t e : TypeId} {c : List D} (h : Ty P N t c) (ht : P.underlying t = some (.slice e)) : ∃ l : List (List D), c = [.sl (l.map (mkD (isRow P e)))] ∧ l.length ≤ N ∧ ∀ x ∈ l, Ty P N e x := by
  cases h with
  | sl ht' l hl hx => rw [ht] at ht'; cases ht'; exact ⟨l, rfl, hl, hx⟩
  | row hr => simp [isRow, ht] at hr
  | _ => simp_all
/-- The parts of a row, one after the other. -/
def TyParts (P : Program) (N : Nat) : List (Nat × TypeId) → List D → Prop
  | [], c => c = []
  | f :: fs, c => ∃ a b, Ty P N f.2 a ∧ TyParts P N fs b ∧ c = a ++ b
theorem tyParts_of {N : Nat} : ∀ {fs : List (Nat × TypeId)} {ps : List (List D)}, ps.length = fs.length → (∀ (i : Nat) f x, fs[i]? = some f → ps[i]? = some x → Ty P N f.2 x) → TyParts P N fs ps.flatten
  | [], [], _, _ => rfl
  | f :: fs, x :: ps, h, hx => ⟨x, ps.flatten, hx 0 f x rfl rfl, tyParts_of (by simpa using h) (fun i g y hg hy => hx (i + 1) g y (by simpa using hg) (by simpa using hy)), by simp⟩
theorem Ty.inv_row {N : Nat} {t : TypeId} {c : List D} {fs : List (Nat × TypeId)} (h : Ty P N t c) (ht : isRow P t = true) (hf : partsOf P t = fs) : TyParts P N fs c := by
  subst hf
  cases h with
  | row _ ps hl hx => exact tyParts_of hl hx
  | bool h | int h | str h | sl h => simp [isRow, h] at ht
theorem list_of {α : Type} {f : α → List D} {R : List D → Prop} (h : ∀ x, R x → ∃ a, x = f a) : ∀ {l : List (List D)}, (∀ x ∈ l, R x) → ∃ as : List α, l = as.map f
  | [], _ => ⟨[], rfl⟩
  | x :: l, hl => by
    obtain ⟨a, rfl⟩ := h x (hl x (List.mem_cons_self ..))
    obtain ⟨as, rfl⟩ := list_of h (fun y hy => hl y (List.mem_cons_of_mem _ hy))
    exact ⟨a :: as, rfl⟩
/-- As list_of, and what is said of each. -/
theorem list_of2 {α : Type} {f : α → List D} {R : List D → Prop} {S : α → Prop} (h : ∀ x, R x → ∃ a, x = f a ∧ S a) : ∀ {l : List (List D)}, (∀ x ∈ l, R x) → ∃ as : List α, l = as.map f ∧ ∀ a ∈ as, S a
  | [], _ => ⟨[], rfl, by simp⟩
  | x :: l, hl => by
    obtain ⟨a, rfl, ha⟩ := h x (hl x (List.mem_cons_self ..))
    obtain ⟨as, rfl, has⟩ := list_of2 h (fun y hy => hl y (List.mem_cons_of_mem _ hy))
    exact ⟨a :: as, rfl, by simpa using ⟨ha, has⟩⟩
end
end Go.Proofs.YtindppnanjcoaaaGreatDoor.Ab
