/- Lists that are written in place and grow as well. What a function comes to over a small heap, it comes to over any heap that has these entries; and functions whose results lie in the heap. Calls over a heap, and lists whose first element comes by 'append'. Lists in the cells of rows: they begin empty, to be written in place; they are given up to be data. Lists that are made where the order of evaluation is left open; calls that only read the heap. Pieces of lists that are written in place, and 'copy' into them. States told anew, slot by slot. Lists that may have room behind their last element: capacity, a piece into the spare room, copies within a list, zeros that are appended to a piece without room. Comparing rows of plain cells. Maps that are made and written here, and texts that are gone through: what operations on them come to. Going through maps in whatever order, and through texts: what it comes to. Conditions: none. -/
import Derived.Test.YtindppnanjcoaaaGreatDoorAb17
import Derived.Scope
import Derived.Lib.Overlaps
import Derived.Lib.AppendZerosOnto
import Derived.Laws.StructEq
import Derived.KernelRfl
import Derived.Maps.RangeRun
import Derived.Maps.Keyed
section
namespace Go.Proofs.YtindppnanjcoaaaGreatDoor.Ab
open Go

/-- A list is let go. -/
theorem WOK.kill {g : G} {w : World} {H : List HE} {id : Nat} {e0 : HE} (hw : WOK g w H) (hH : H[id]? = some e0) (_h0 : e0 ≠ .free) : WOK g w (H.set id .dead) := by
  have hidlt : id < H.length := (List.getElem?_eq_some_iff.1 hH).1
  have hget : ∀ (i : Nat) x, (H.set id .dead)[i]? = some x → x = .dead ∨ H[i]? = some x := by
    intro i x he
    by_cases hi : i = id
    · subst hi; rw [List.getElem?_set_self hidlt] at he; exact .inl (Option.some.inj he).symm
    · rw [List.getElem?_set_ne (Ne.symm hi)] at he; exact .inr he
  refine ⟨hw.pr, hw.xs, ?_, ?_, ?_, ?_, ?_, ?_, ?_, hw.kc⟩
  · intro i x b he hb
    rcases hget i x he with rfl | h
    · simp [G.blk] at hb
    · exact hw.blk i x b h hb
  · intro i i' x x' b he he' hb hb'
    rcases hget i x he with rfl | h
    · simp [G.blk] at hb
    · rcases hget i' x' he' with rfl | h'
      · simp [G.blk] at hb'
      · exact hw.sep i i' x x' b h h' hb hb'
  · intro i c he
    rcases hget i _ he with h | h
    · cases h
    · exact hw.row i c h
  · intro i m e1 s1 he
    rcases hget i _ he with h | h
    · cases h
    · exact hw.tok i m e1 s1 h
  · intro i l e1 s1 he
    rcases hget i _ he with h | h
    · cases h
    · exact hw.lst i l e1 s1 h
  · intro i x he
    rcases hget i _ he with h | h
    · cases h
    · exact hw.ob i x h
  · intro i hi
    refine hw.free i ?_
    rcases hi with hi | hi
    · rcases hget i _ hi with h | h
      · cases h
      · exact .inl h
    · exact .inr (by simpa using hi)

section
variable {P : Program} {ρ : Operand → V} {H : List HE} {ty : TypeId}

end

/-- An empty list begins as one that is written in place. -/
theorem AW.lstize {F : FC} {Q : Exit → St → Prop} {c : Code} {E : Nat → V} {H : List HE} (t : Nat) (e : TypeId) (s : Nat) {n : Nat} (ht : E t = .ex []) (hn : H.length = n)
    (h : AW F c Q ⟨upd E t (.hs n 0 0 s), H ++ [.lst [] e s]⟩) : AW F c Q ⟨E, H⟩ := by
  subst hn
  rintro a w ⟨h1, h2, g, h3, h4, h5⟩
  have hr := h5 t
  simp only [ht] at hr
  generalize hv : a.tmps.getD t undef = v at hr
  cases hr with
  | @ex _ ad hd =>
    obtain ⟨hfσ, hfτ, hfυ⟩ := h3.free H.length (.inr (Nat.le_refl _))
    let g' : G := { σ := g.σ, τ := fun i => if i = H.length then some (0, ad, 0) else g.τ i, υ := g.υ, X := g.X, Pr := g.Pr }
    have hτ' : ∀ i, i ≠ H.length → g'.τ i = g.τ i := fun i h => by simp [g', h]
    have hτid : g'.τ H.length = some (0, ad, 0) := by simp [g']
    have hev : Evo g w g' w := {
      same := ⟨rfl, rfl, rfl⟩
      size := Nat.le_refl _
      pr := fun b o hp => ⟨hp, rfl⟩
      prn := fun b o h => .inl h
      x := fun b h => .inl h
      keep := fun b _ _ => rfl
      σ := fun i b h => h
      τ := fun i m a c h => by
        have : i ≠ H.length := fun e => by subst e; rw [hfτ] at h; cases h
        exact ⟨m, a, c, by rw [hτ' i this]; exact h, .inr ⟨rfl, rfl, rfl⟩⟩ }
    have hget : ∀ (i : Nat) x, (H ++ [HE.lst [] e s])[i]? = some x → (i = H.length ∧ x = .lst [] e s) ∨ (i ≠ H.length ∧ H[i]? = some x) := by
      intro i x hx
      by_cases hi : i < H.length
      · rw [List.getElem?_append_left hi] at hx; exact .inr ⟨by omega, hx⟩
      · rw [List.getElem?_append_right (by omega)] at hx
        have : i - H.length = 0 := by
          by_cases h0 : i - H.length = 0
          · exact h0
          · rw [List.getElem?_eq_none (by simp; omega)] at hx; cases hx
        rw [this] at hx
        exact .inl ⟨by omega, by simpa using hx.symm⟩
    have hblk : ∀ (i : Nat) x b, (H ++ [HE.lst [] e s])[i]? = some x → g'.blk i x b → H[i]? = some x ∧ g.blk i x b := by
      intro i x b hx hb
      rcases hget i x hx with ⟨rfl, rfl⟩ | ⟨hi, h⟩
      · simp [G.blk, hτid] at hb
      · refine ⟨h, ?_⟩
        cases x <;> simp only [G.blk, hτ' i hi] at hb ⊢ <;> exact hb
    refine h a w ⟨h1, h2, g', ⟨h3.pr, h3.xs, ?_, ?_, ?_, ?_, ?_, ?_, ?_, h3.kcE hev⟩, h4.trans hev, fun i => ?_⟩
    · intro i x b hx hb
      obtain ⟨k1, k2⟩ := hblk i x b hx hb
      exact h3.blk i x b k1 k2
    · intro i i' x x' b hx hx' hb hb'
      obtain ⟨k1, k2⟩ := hblk i x b hx hb
      obtain ⟨k3, k4⟩ := hblk i' x' b hx' hb'
      exact h3.sep i i' x x' b k1 k3 k2 k4
    · intro i c hx
      rcases hget i _ hx with ⟨_, h⟩ | ⟨hi, h⟩
      · cases h
      · obtain ⟨b1, arr1, et1, k1, k2, k3, k4, k5⟩ := h3.row i c h
        exact ⟨b1, arr1, et1, k1, k2, k3, fun k x v hx hv => (k4 k x v hx hv).mono hev, k5⟩
    · intro i m e1 s1 hx
      rcases hget i _ hx with ⟨_, h⟩ | ⟨hi, h⟩
      · cases h
      · obtain ⟨a, cap, k1, k2⟩ := h3.tok i m e1 s1 h
        exact ⟨a, cap, by rw [hτ' i hi]; exact k1, k2⟩
    · intro i l1 e1 s1 hx
      rcases hget i _ hx with ⟨rfl, h⟩ | ⟨hi, h⟩
      · injection h with q1 q2 q3
        subst q1; subst q2; subst q3
        exact ⟨ad, 0, hτid, by simp, by omega, fun h => by omega⟩
      · obtain ⟨a, cap, k1, k2⟩ := h3.lst i l1 e1 s1 h
        exact ⟨a, cap, by rw [hτ' i hi]; exact k1, k2⟩
    · intro i x hx
      rcases hget i _ hx with ⟨_, h⟩ | ⟨hi, h⟩
      · cases h
      · obtain ⟨b1, k1, k2, k3, k4⟩ := h3.ob i x h
        exact ⟨b1, k1, x.st hev.w (hτ' i hi) rfl rfl (fun _ _ => rfl) k2, k3, k4⟩
    · intro i hi
      have hne : i ≠ H.length ∧ (H[i]? = some .free ∨ H.length ≤ i) := by
        rcases hi with hi | hi
        · rcases hget i _ hi with ⟨_, h⟩ | ⟨h1, h⟩
          · cases h
          · exact ⟨h1, .inl h⟩
        · simp at hi; exact ⟨by omega, .inr (by omega)⟩
      rw [hτ' i hne.1]
      exact h3.free i hne.2
    · by_cases hi : i = t
      · subst hi
        simp only [upd_same, hv]
        exact .hs hτid (fun _ => ⟨rfl, rfl, rfl, Nat.le_refl _⟩)
      · simp only [upd_ne _ _ hi]; exact (h5 i).mono hev
end Go.Proofs.YtindppnanjcoaaaGreatDoor.Ab
end
section
namespace Go.Proofs.YtindppnanjcoaaaGreatDoor.Ab
open Go

def V.rn1 (p : Nat → Nat) : V → V
  | .ptr i o => .ptr (p i) o
  | .tk i l => .tk (p i) l
  | .hs i o n s => .hs (p i) o n s
  | .mp i => .mp (p i)
  | v => v
def V.rn (p : Nat → Nat) : V → V
  | .fn f l => .fn f (l.map (V.rn1 p))
  | .agg l => .agg (l.map (V.rn1 p))
  | .tup l => .tup (l.map (V.rn1 p))
  | v => v.rn1 p
def V.flat1 : V → Bool
  | .fn _ _ | .agg _ | .tup _ | .when _ _ => false
  | _ => true
def V.simple : V → Bool
  | .fn _ l | .agg l | .tup l => l.all V.flat1
  | .when _ _ => false
  | _ => true
def HE.rn (p : Nat → Nat) : HE → HE
  | .row c => .row (c.map (V.rn p))
  | e => e
def HE.simple : HE → Bool
  | .row c => c.all V.simple
  | .ob x => x.fr
  | _ => true

theorem rn1_rep {p : Nat → Nat} {g g' : G} {w : World} (hσ : ∀ i, g'.σ (p i) = g.σ i) (hτ : ∀ i, g'.τ (p i) = g.τ i) (hP : g'.Pr = g.Pr) {v : V} {r : Value} (hs : v.flat1 = true) : Rep g w v r ↔ Rep g' w (v.rn1 p) r := by
  cases v <;> simp only [V.flat1, Bool.false_eq_true] at hs <;> simp only [V.rn1]
  case d => exact ⟨fun h => by cases h with | d h => exact .d (hP ▸ h), fun h => by cases h with | d h => exact .d (hP ▸ h)⟩
  case hs => exact ⟨fun h => by cases h with | hs h1 h2 => exact .hs ((hτ _).trans h1) h2, fun h => by cases h with | hs h1 h2 => exact .hs ((hτ _).symm.trans h1) h2⟩
  case ptr => exact ⟨fun h => by cases h with | ptr h1 => exact .ptr ((hσ _).trans h1), fun h => by cases h with | ptr h1 => exact .ptr ((hσ _).symm.trans h1)⟩
  case mp => exact ⟨fun h => by cases h with | mp h1 => exact .mp ((hσ _).trans h1), fun h => by cases h with | mp h1 => exact .mp ((hσ _).symm.trans h1)⟩
  case vp => exact ⟨fun h => by cases h with | vp h1 h2 => exact .vp (by rw [hP]; exact h1) (by rw [hP]; exact h2), fun h => by cases h with | vp h1 h2 => exact .vp (by rw [← hP]; exact h1) (by rw [← hP]; exact h2)⟩
  case tk => exact ⟨fun h => by cases h with | tk h1 h2 h3 h4 => exact .tk (hP ▸ h1) ((hτ _).trans h2) h3 h4, fun h => by cases h with | tk h1 h2 h3 h4 => exact .tk (hP ▸ h1) ((hτ _).symm.trans h2) h3 h4⟩
  case ex => exact ⟨fun h => by cases h with | ex h => exact .ex (hP ▸ h), fun h => by cases h with | ex h => exact .ex (hP ▸ h)⟩
  case nil => exact ⟨fun h => by cases h; exact .nil, fun h => by cases h; exact .nil⟩
  case any => exact ⟨fun _ => .any, fun _ => .any⟩

theorem rn_rep {p : Nat → Nat} {g g' : G} {w : World} (hσ : ∀ i, g'.σ (p i) = g.σ i) (hτ : ∀ i, g'.τ (p i) = g.τ i) (hP : g'.Pr = g.Pr) {v : V} {r : Value} (hs : v.simple = true) : Rep g w v r ↔ Rep g' w (v.rn p) r := by
  have sub : ∀ (l : List V), l.all V.flat1 = true → ∀ (i : Nat) x, (l.map (V.rn1 p))[i]? = some x → ∃ y, l[i]? = some y ∧ x = y.rn1 p ∧ y.flat1 = true := by
    intro l hl i x hx
    simp only [List.getElem?_map, Option.map_eq_some_iff] at hx
    obtain ⟨y, hy, rfl⟩ := hx
    exact ⟨y, hy, rfl, List.all_eq_true.1 hl y (List.mem_of_getElem? hy)⟩
  cases v with
  | fn f l =>
    simp only [V.simple] at hs
    simp only [V.rn]
    constructor
    · intro h
      cases h with
      | fn h1 h2 =>
        refine .fn (by simpa using h1) (fun i x v hx hv => ?_)
        obtain ⟨y, hy, rfl, hf⟩ := sub l hs i x hx
        exact (rn1_rep hσ hτ hP hf).1 (h2 i y v hy hv)
    · intro h
      cases h with
      | fn h1 h2 =>
        refine .fn (by simpa using h1) (fun i x v hx hv => ?_)
        exact (rn1_rep hσ hτ hP (List.all_eq_true.1 hs x (List.mem_of_getElem? hx))).2 (h2 i _ v (by simp [hx]) hv)
  | agg l =>
    simp only [V.simple] at hs
    simp only [V.rn]
    constructor
    · intro h
      cases h with
      | agg h1 h2 =>
        refine .agg (by simpa using h1) (fun i x v hx hv => ?_)
        obtain ⟨y, hy, rfl, hf⟩ := sub l hs i x hx
        exact (rn1_rep hσ hτ hP hf).1 (h2 i y v hy hv)
    · intro h
      cases h with
      | agg h1 h2 =>
        refine .agg (by simpa using h1) (fun i x v hx hv => ?_)
        exact (rn1_rep hσ hτ hP (List.all_eq_true.1 hs x (List.mem_of_getElem? hx))).2 (h2 i _ v (by simp [hx]) hv)
  | tup l =>
    simp only [V.simple] at hs
    simp only [V.rn]
    constructor
    · intro h
      cases h with
      | tup h1 h2 =>
        refine .tup (by simpa using h1) (fun i x v hx hv => ?_)
        obtain ⟨y, hy, rfl, hf⟩ := sub l hs i x hx
        exact (rn1_rep hσ hτ hP hf).1 (h2 i y v hy hv)
    · intro h
      cases h with
      | tup h1 h2 =>
        refine .tup (by simpa using h1) (fun i x v hx hv => ?_)
        exact (rn1_rep hσ hτ hP (List.all_eq_true.1 hs x (List.mem_of_getElem? hx))).2 (h2 i _ v (by simp [hx]) hv)
  | «when» => simp [V.simple] at hs
  | d => exact rn1_rep hσ hτ hP rfl
  | hs => exact rn1_rep hσ hτ hP rfl
  | ptr => exact rn1_rep hσ hτ hP rfl
  | mp => exact rn1_rep hσ hτ hP rfl
  | vp => exact rn1_rep hσ hτ hP rfl
  | tk => exact rn1_rep hσ hτ hP rfl
  | ex => exact rn1_rep hσ hτ hP rfl
  | nil => exact rn1_rep hσ hτ hP rfl
  | any => exact rn1_rep hσ hτ hP rfl

/-- Local numbers and those of the greater heap: the first k are ids, the others come behind its end. -/
def glob (ids : List Nat) (N : Nat) (i : Nat) : Nat := match ids[i]? with
  | some j => j
  | none => N + (i - ids.length)
def locI : List Nat → Nat → Nat → Option Nat
  | [], _, _ => none
  | a :: r, k, j => cond (Nat.beq j a) (some k) (locI r (k + 1) j)
def loc (ids : List Nat) (N : Nat) (j : Nat) : Option Nat := match locI ids 0 j with
  | some i => some i
  | none => if N ≤ j then some (j - N + ids.length) else none
theorem locI_some : ∀ {ids : List Nat} {k j i : Nat}, locI ids k j = some i → k ≤ i ∧ ids[i - k]? = some j
  | a :: r, k, j, i, h => by
    simp only [locI] at h
    cases hb : Nat.beq j a with
    | true =>
      rw [hb] at h; simp at h; subst h
      simp [Nat.eq_of_beq_eq_true hb]
    | false =>
      rw [hb] at h
      obtain ⟨h1, h2⟩ := locI_some (ids := r) (k := k + 1) h
      refine ⟨by omega, ?_⟩
      rw [show i - k = (i - (k + 1)) + 1 by omega]
      simpa using h2
theorem locI_none : ∀ {ids : List Nat} {k j : Nat}, locI ids k j = none → j ∉ ids
  | [], _, _, _ => by simp
  | a :: r, k, j, h => by
    simp only [locI] at h
    cases hb : Nat.beq j a with
    | true => rw [hb] at h; simp at h
    | false =>
      rw [hb] at h
      have h1 := locI_none (ids := r) (k := k + 1) h
      have : j ≠ a := fun e => by subst e; simp at hb
      simp [this, h1]
theorem loc_some {ids : List Nat} {N j i : Nat} (_hN : ∀ x ∈ ids, x < N) (h : loc ids N j = some i) : glob ids N i = j := by
  unfold loc at h
  split at h
  · rename_i i' h1
    injection h with h; subst h
    obtain ⟨_, h2⟩ := locI_some h1
    simp only [Nat.sub_zero] at h2
    simp [glob, h2]
  · split at h
    · injection h with h; subst h
      have : ids[j - N + ids.length]? = none := List.getElem?_eq_none (by omega)
      simp only [glob, this]; omega
    · cases h
theorem loc_none {ids : List Nat} {N j : Nat} (h : loc ids N j = none) : j ∉ ids ∧ j < N := by
  unfold loc at h
  split at h
  · cases h
  · rename_i h1
    split at h
    · cases h
    · exact ⟨locI_none h1, by omega⟩
theorem loc_glob {ids : List Nat} {N i : Nat} (hd : distinct ids = true) (hN : ∀ x ∈ ids, x < N) : loc ids N (glob ids N i) = some i := by
  have hno : ∀ j, N ≤ j → j ∉ ids := fun j hj hm => by have := hN j hm; omega
  by_cases hi : i < ids.length
  · have hg : glob ids N i = ids[i] := by simp [glob, hi]
    rw [hg]
    have hmem : ids[i] ∈ ids := List.getElem_mem hi
    unfold loc
    split
    · rename_i i' h1
      obtain ⟨_, h2⟩ := locI_some h1
      simp only [Nat.sub_zero] at h2
      rw [distinct_inj hd h2 (List.getElem?_eq_getElem hi)]
    · rename_i h1
      exact absurd hmem (locI_none h1)
  · have hg : glob ids N i = N + (i - ids.length) := by
      have : ids[i]? = none := List.getElem?_eq_none (by omega)
      simp [glob, this]
    rw [hg]
    unfold loc
    split
    · rename_i i' h1
      obtain ⟨_, h2⟩ := locI_some h1
      exact absurd (List.mem_of_getElem? h2) (hno _ (by omega))
    · rw [if_pos (by omega)]; congr 1; omega

/-- The greater heap behind the call. -/
def setAll (H : List HE) : List Nat → List HE → List HE
  | id :: ids, e :: es => setAll (H.set id e) ids es
  | _, _ => H
def mergeH (H : List HE) (ids : List Nat) (H0 : List HE) : List HE :=
  setAll H ids ((H0.take ids.length).map (HE.rn (glob ids H.length))) ++ (H0.drop ids.length).map (HE.rn (glob ids H.length))
theorem setAll_length : ∀ (ids : List Nat) (es H : List HE), (setAll H ids es).length = H.length
  | [], _, _ => by simp [setAll]
  | id :: ids, [], H => by simp [setAll]
  | id :: ids, e :: es, H => by rw [setAll, setAll_length]; simp
theorem setAll_other : ∀ (ids : List Nat) (es H : List HE) (j : Nat), j ∉ ids → (setAll H ids es)[j]? = H[j]?
  | [], _, _, _, _ => by simp [setAll]
  | id :: ids, [], H, j, _ => by simp [setAll]
  | id :: ids, e :: es, H, j, h => by
    simp only [List.mem_cons, not_or] at h
    rw [setAll, setAll_other ids es _ j h.2, List.getElem?_set_ne (Ne.symm h.1)]
theorem setAll_at : ∀ (ids : List Nat) (es H : List HE) (i j : Nat), distinct ids = true → es.length = ids.length → ids[i]? = some j → j < H.length → (setAll H ids es)[j]? = es[i]?
  | [], _, _, i, _, _, _, h, _ => by simp at h
  | id :: ids, [], H, i, _, _, hl, _, _ => by simp at hl
  | id :: ids, e :: es, H, 0, j, hd, hl, h, hj => by
    simp at h; subst h
    simp only [distinct, Bool.and_eq_true, Bool.not_eq_true'] at hd
    have hno : id ∉ ids := fun hm => by have := (inB_mem (l := ids)).2 hm; rw [this] at hd; simp at hd
    rw [setAll, setAll_other ids es _ id hno, List.getElem?_set_self hj]; rfl
  | id :: ids, e :: es, H, i + 1, j, hd, hl, h, hj => by
    simp only [distinct, Bool.and_eq_true] at hd
    rw [setAll, setAll_at ids es _ i j hd.2 (by simpa using hl) (by simpa using h) (by simpa using hj)]; simp

theorem mergeH_get {H : List HE} {ids : List Nat} {H0 : List HE} (hd : distinct ids = true) (hN : ∀ x ∈ ids, x < H.length) (hk : ids.length ≤ H0.length) (j : Nat) :
    (mergeH H ids H0)[j]? = match loc ids H.length j with | some i => (H0[i]?).map (HE.rn (glob ids H.length)) | none => H[j]? := by
  have hlen : (setAll H ids ((H0.take ids.length).map (HE.rn (glob ids H.length)))).length = H.length := setAll_length _ _ _
  unfold mergeH
  by_cases hj : j < H.length
  · rw [List.getElem?_append_left (by omega)]
    cases hl : loc ids H.length j with
    | none =>
      exact setAll_other _ _ _ j (loc_none hl).1
    | some i =>
      have hg := loc_some hN hl
      have hi : i < ids.length := by
        rcases Nat.lt_or_ge i ids.length with h | h
        · exact h
        · have : ids[i]? = none := List.getElem?_eq_none h
          simp only [glob, this] at hg; omega
      have hij : ids[i]? = some j := by
        have : ids[i]? = some ids[i] := List.getElem?_eq_getElem hi
        simp only [glob, this] at hg
        rw [this, hg]
      rw [setAll_at _ _ _ i j hd (by simp; omega) hij hj, List.getElem?_map, List.getElem?_take, if_pos hi]
  · rw [List.getElem?_append_right (by omega), hlen, List.getElem?_map, List.getElem?_drop]
    have hl : loc ids H.length j = some (j - H.length + ids.length) := by
      unfold loc
      split
      · rename_i i' h1
        obtain ⟨_, h2⟩ := locI_some h1
        have := hN j (List.mem_of_getElem? h2); omega
      · rw [if_pos (by omega)]
    rw [hl]
    simp only [Nat.add_comm]

theorem ACall.frame {P : Program} {f : FuncId} {args0 : List V} {H0 H : List HE} {R0 : V → List HE → Prop} (ids : List Nat) (h : ACall P f args0 H0 R0) (hk : ids.length = H0.length) (hd : distinct ids = true)
    (hin : ∀ (i : Nat) e, H0[i]? = some e → ∃ id, ids[i]? = some id ∧ H[id]? = some (e.rn (glob ids H.length))) (hs0 : H0.all HE.simple = true) (ha0 : args0.all V.simple = true)
    (hR : ∀ r H', R0 r H' → r.simple = true ∧ H'.all HE.simple = true ∧ ids.length ≤ H'.length) :
    ACall P f (args0.map (V.rn (glob ids H.length))) H fun r H' => ∃ r0 H0', R0 r0 H0' ∧ r = r0.rn (glob ids H.length) ∧ H' = mergeH H ids H0' := by
  intro g w vals hw hs hv
  have hN : ∀ x ∈ ids, x < H.length := by
    intro x hx
    obtain ⟨i, hi, rfl⟩ := List.mem_iff_getElem.1 hx
    obtain ⟨id, h1, h2⟩ := hin i _ (List.getElem?_eq_getElem (by omega))
    rw [List.getElem?_eq_getElem hi] at h1; injection h1 with h1
    rw [h1]; exact (List.getElem?_eq_some_iff.1 h2).1
  have hgl : ∀ i, loc ids H.length (glob ids H.length i) = some i := fun i => loc_glob hd hN
  have hge : ∀ i, ids.length ≤ i → H.length ≤ glob ids H.length i := fun i hi => by
    have : ids[i]? = none := List.getElem?_eq_none hi
    simp [glob, this]
  have hlt : ∀ i, i < ids.length → ids[i]? = some (glob ids H.length i) := fun i hi => by
    have : ids[i]? = some ids[i] := List.getElem?_eq_getElem hi
    simp [glob, this]
  let p := glob ids H.length
  let g0 : G := { σ := fun i => g.σ (p i), τ := fun i => g.τ (p i), υ := fun i => g.υ (p i), X := fun b => ∃ (i : Nat) (e : HE), H0[i]? = some e ∧ g.blk (p i) (e.rn p) b, Pr := g.Pr }
  have hH : ∀ (i : Nat) e, H0[i]? = some e → i < ids.length ∧ H[p i]? = some (e.rn p) := by
    intro i e he
    have hi : i < ids.length := by rw [hk]; exact (List.getElem?_eq_some_iff.1 he).1
    obtain ⟨id, h1, h2⟩ := hin i e he
    rw [hlt i hi] at h1; injection h1 with h1
    subst h1
    exact ⟨hi, h2⟩
  have hblk : ∀ (i : Nat) e b, g0.blk i e b → g.blk (p i) (e.rn p) b := by
    intro i e b hb
    cases e <;> exact hb
  have hinj : ∀ i i', p i = p i' → i = i' := fun i i' h => by
    have h1 := hgl i
    have h2 := hgl i'
    rw [show glob ids H.length i = glob ids H.length i' from h] at h1
    rw [h1] at h2; injection h2
  have hx0 : ∀ b, g0.X b → g.X b := by
    rintro b ⟨i, e, h1, h2⟩
    exact hw.blk _ _ b (hH i e h1).2 h2
  have hsim : ∀ (i : Nat) c, H0[i]? = some (.row c) → c.all V.simple = true := fun i c hc => List.all_eq_true.1 hs0 _ (List.mem_of_getElem? hc)
  have hrepIn : ∀ {v : V} {r : Value}, v.simple = true → Rep g w (v.rn p) r → Rep g0 w v r := fun hv hr => (rn_rep (g := g0) (g' := g) (p := p) (fun _ => rfl) (fun _ => rfl) rfl hv).2 hr
  have hw0 : WOK g0 w H0 := by
    refine ⟨hw.pr, fun b hb => hw.xs b (hx0 b hb), ?_, ?_, ?_, ?_, ?_, ?_, ?_, fun x hx => ⟨fun h => (hw.kc x hx).1 (hx0 _ h), (hw.kc x hx).2⟩⟩
    · intro i e b he hb
      exact ⟨i, e, he, hblk i e b hb⟩
    · intro i i' e e' b he he' hb hb'
      exact hinj _ _ (hw.sep _ _ _ _ b (hH i e he).2 (hH i' e' he').2 (hblk i e b hb) (hblk i' e' b hb'))
    · intro i c hc
      obtain ⟨b, arr, et, k1, k2, k3, k4, k5⟩ := hw.row _ _ (hH i _ hc).2
      refine ⟨b, arr, et, k1, k2, by simpa using k3, fun k x v hx hv => ?_, k5⟩
      exact hrepIn (List.all_eq_true.1 (hsim i c hc) x (List.mem_of_getElem? hx)) (k4 k _ v (by simp [hx]) hv)
    · intro i n e s hc
      exact hw.tok _ n e s (hH i _ hc).2
    · intro i l e s hc
      exact hw.lst _ l e s (hH i _ hc).2
    · intro i x hc
      obtain ⟨b, q1, q2, q3, q4⟩ := hw.ob _ x (hH i _ hc).2
      have hfr : x.fr = true := List.all_eq_true.1 hs0 _ (List.mem_of_getElem? hc)
      exact ⟨b, q1, x.fre hfr (g := g) (g' := g0) rfl rfl rfl q2, q3, q4⟩
    · intro i hi
      refine hw.free _ ?_
      rcases hi with hi | hi
      · exact .inl (hH i _ hi).2
      · exact .inr (hge i (by omega))
  have hrepArgs : ∀ (i : Nat) x v, args0[i]? = some x → vals[i]? = some v → Rep g0 w x v := fun i x v hx hv' =>
    hrepIn (List.all_eq_true.1 ha0 x (List.mem_of_getElem? hx)) (hv i _ v (by simp [hx]; rfl) hv')
  refine (h g0 w vals hw0 (by simpa using hs) hrepArgs).mono ?_
  rintro e w' ⟨rv, r, g', H', rfl, hw', he, hr, hRr⟩
  obtain ⟨hrs, hHs, hkl⟩ := hR r H' hRr
  let L := loc ids H.length
  let g2 : G := { σ := fun j => match L j with | some i => g'.σ i | none => g.σ j, τ := fun j => match L j with | some i => g'.τ i | none => g.τ j, υ := fun j => match L j with | some i => g'.υ i | none => g.υ j, X := fun b => g.X b ∨ g'.X b, Pr := g'.Pr }
  have hget := mergeH_get (H := H) (H0 := H') hd hN hkl
  have hX' : ∀ b, g'.X b → g0.X b ∨ w.heap.size ≤ b := he.x
  have keep : ∀ b, b < w.heap.size → ¬ g0.X b → w'.heap[b]? = w.heap[b]? := he.keep
  have hold : ∀ b o, g'.Pr b o → b < w.heap.size → ¬ g0.X b → g.Pr b o := by
    intro b o hp hb hx
    rcases he.prn b o hp with h1 | h1 | h1
    · exact h1
    · exact (hx h1).elim
    · omega
  have hσL : ∀ i, g2.σ (p i) = g'.σ i := fun i => by simp only [g2, L, p, hgl i]
  have hτL : ∀ i, g2.τ (p i) = g'.τ i := fun i => by simp only [g2, L, p, hgl i]
  have hout : ∀ {v : V} {r : Value}, v.simple = true → Rep g' w' v r → Rep g2 w' (v.rn p) r := fun hv hr => (rn_rep (g := g') (g' := g2) (p := p) hσL hτL rfl hv).1 hr
  have hev : Evo g w g2 w' := {
    same := he.same
    size := he.size
    pr := he.pr
    prn := fun b o hp => by
      rcases he.prn b o hp with h1 | h1 | h1
      · exact .inl h1
      · exact .inr (.inl (hx0 b h1))
      · exact .inr (.inr h1)
    x := fun b hb => by
      rcases hb with hb | hb
      · exact .inl hb
      · rcases hX' b hb with h1 | h1
        · exact .inl (hx0 b h1)
        · exact .inr h1
    keep := fun b hb hx => keep b hb (fun h0 => hx (hx0 b h0))
    σ := fun j b hb => by
      show (match L j with | some i => g'.σ i | none => g.σ j) = some b
      cases hl : L j with
      | none => exact hb
      | some i =>
        have hj : p i = j := loc_some hN hl
        exact he.σ i b (by show g.σ (p i) = some b; rw [hj]; exact hb)
    τ := fun j m a cap ht => by
      show ∃ m' a' cap', (match L j with | some i => g'.τ i | none => g.τ j) = some (m', a', cap') ∧ _
      cases hl : L j with
      | none => exact ⟨m, a, cap, ht, .inr ⟨rfl, rfl, rfl⟩⟩
      | some i =>
        have hj : p i = j := loc_some hN hl
        exact he.τ i m a cap (by show g.τ (p i) = _; rw [hj]; exact ht) }
  -- an entry of the heap: one of the call's, or one that was left alone
  have hent : ∀ (j : Nat) e, (mergeH H ids H')[j]? = some e → (∃ i e0, L j = some i ∧ p i = j ∧ H'[i]? = some e0 ∧ e = e0.rn p) ∨ (L j = none ∧ H[j]? = some e) := by
    intro j e hj
    rw [hget j] at hj
    cases hl : L j with
    | none => rw [show loc ids H.length j = none from hl] at hj; exact .inr ⟨rfl, hj⟩
    | some i =>
      rw [show loc ids H.length j = some i from hl] at hj
      simp only [Option.map_eq_some_iff] at hj
      obtain ⟨e0, h1, h2⟩ := hj
      exact .inl ⟨i, e0, rfl, loc_some hN hl, h1, h2.symm⟩
  have hblkIn : ∀ (j i : Nat) e0 b, L j = some i → g2.blk j (HE.rn p e0) b → g'.blk i e0 b := by
    intro j i e0 b hl hb
    cases e0 <;> simp only [HE.rn, G.blk, g2, hl] at hb ⊢ <;> exact hb
  have hblkOut : ∀ (j : Nat) e b, L j = none → g2.blk j e b → g.blk j e b := by
    intro j e b hl hb
    cases e <;> simp only [G.blk, g2, hl] at hb ⊢ <;> exact hb
  -- what was left alone lies elsewhere
  have hfar : ∀ (j : Nat) e b, L j = none → H[j]? = some e → g.blk j e b → b < w.heap.size ∧ ¬ g0.X b := by
    intro j e b hl he' hb
    refine ⟨hw.xs b (hw.blk j e b he' hb), ?_⟩
    rintro ⟨i, e0, h1, h2⟩
    obtain ⟨hi, h3⟩ := hH i e0 h1
    have := hw.sep _ _ _ _ b h3 he' h2 hb
    have h4 := hgl i
    rw [show glob ids H.length i = j from this] at h4
    rw [show loc ids H.length j = none from hl] at h4
    cases h4
  refine ⟨rv, r.rn p, g2, mergeH H ids H', rfl, ⟨hw'.pr, ?_, ?_, ?_, ?_, ?_, ?_, ?_, ?_, hw.kcE hev⟩, hev, hout hrs hr, r, H', hRr, rfl, rfl⟩
  · rintro b (hb | hb)
    · exact Nat.lt_of_lt_of_le (hw.xs b hb) he.size
    · exact hw'.xs b hb
  · intro j e b hj hb
    rcases hent j e hj with ⟨i, e0, hl, hp, h1, rfl⟩ | ⟨hl, h1⟩
    · exact .inr (hw'.blk i e0 b h1 (hblkIn j i e0 b hl hb))
    · exact .inl (hw.blk j e b h1 (hblkOut j e b hl hb))
  · intro j j' e e' b hj hj' hb hb'
    have mix : ∀ (i : Nat) e0 (j' : Nat) e', H'[i]? = some e0 → g'.blk i e0 b → L j' = none → H[j']? = some e' → g.blk j' e' b → False := by
      intro i e0 j' e' h1 h2 hl h3 h4
      obtain ⟨f1, f2⟩ := hfar j' e' b hl h3 h4
      rcases hX' b (hw'.blk i e0 b h1 h2) with h5 | h5
      · exact f2 h5
      · omega
    rcases hent j e hj with ⟨i, e0, hl, hp, h1, rfl⟩ | ⟨hl, h1⟩ <;> rcases hent j' e' hj' with ⟨i', e0', hl', hp', h1', rfl⟩ | ⟨hl', h1'⟩
    · have := hw'.sep i i' e0 e0' b h1 h1' (hblkIn j i e0 b hl hb) (hblkIn j' i' e0' b hl' hb')
      subst this; rw [← hp, ← hp']
    · exact (mix i e0 j' e' h1 (hblkIn j i e0 b hl hb) hl' h1' (hblkOut j' e' b hl' hb')).elim
    · exact (mix i' e0' j e h1' (hblkIn j' i' e0' b hl' hb') hl h1 (hblkOut j e b hl hb)).elim
    · exact hw.sep j j' e e' b h1 h1' (hblkOut j e b hl hb) (hblkOut j' e' b hl' hb')
  · intro j c hj
    rcases hent j _ hj with ⟨i, e0, hl, hp, h1, h2⟩ | ⟨hl, h1⟩
    · cases e0 with
      | row c0 =>
        simp only [HE.rn, HE.row.injEq] at h2
        subst h2
        obtain ⟨b, arr, et, k1, k2, k3, k4, k5⟩ := hw'.row i c0 h1
        refine ⟨b, arr, et, by rw [← hp, hσL]; exact k1, k2, by simpa using k3, fun k x v hx hv => ?_, k5⟩
        simp only [List.getElem?_map, Option.map_eq_some_iff] at hx
        obtain ⟨y, hy, rfl⟩ := hx
        have := List.all_eq_true.1 hHs _ (List.mem_of_getElem? h1)
        exact hout (List.all_eq_true.1 this y (List.mem_of_getElem? hy)) (k4 k y v hy hv)
      | _ => cases h2
    · obtain ⟨b, arr, et, k1, k2, k3, k4, k5⟩ := hw.row j c h1
      obtain ⟨f1, f2⟩ := hfar j _ b hl h1 k1
      refine ⟨b, arr, et, by show (match L j with | some i => g'.σ i | none => g.σ j) = some b; rw [hl]; exact k1, (keep b f1 f2).trans k2, k3, fun k x v hx hv => (k4 k x v hx hv).mono hev, fun o hp => k5 o (hold b o hp f1 f2)⟩
  · intro j n e s hj
    rcases hent j _ hj with ⟨i, e0, hl, hp, h1, h2⟩ | ⟨hl, h1⟩
    · cases e0 with
      | tok n0 e0 s0 =>
        simp only [HE.rn] at h2
        injection h2 with q1 q2 q3; subst q1; subst q2; subst q3
        obtain ⟨a, cap, k1, k2⟩ := hw'.tok i n e s h1
        exact ⟨a, cap, by rw [← hp, hτL]; exact k1, k2⟩
      | _ => cases h2
    · obtain ⟨a, cap, k1, k2, k3, k4⟩ := hw.tok j n e s h1
      refine ⟨a, cap, by show (match L j with | some i => g'.τ i | none => g.τ j) = _; rw [hl]; exact k1, k2, k3, fun hc => ?_⟩
      obtain ⟨b, arr, q1, q2, q3, q4⟩ := k4 hc
      obtain ⟨f1, f2⟩ := hfar j _ b hl h1 (by simp [G.blk, k1, hc, q1])
      exact ⟨b, arr, q1, (keep b f1 f2).trans q2, q3, fun o hp => q4 o (hold b o hp f1 f2)⟩
  · intro j l e s hj
    rcases hent j _ hj with ⟨i, e0, hl, hp, h1, h2⟩ | ⟨hl, h1⟩
    · cases e0 with
      | lst l0 e0 s0 =>
        simp only [HE.rn] at h2
        injection h2 with q1 q2 q3; subst q1; subst q2; subst q3
        obtain ⟨a, cap, k1, k2, k3, k4⟩ := hw'.lst i l e s h1
        refine ⟨a, cap, by rw [← hp, hτL]; exact k1, k2, k3, fun hc => ?_⟩
        obtain ⟨b, arr, q1, q0, q2⟩ := k4 hc
        exact ⟨b, arr, q1, by rw [← hp, hσL]; exact q0, q2⟩
      | _ => cases h2
    · obtain ⟨a, cap, k1, k2, k3, k4⟩ := hw.lst j l e s h1
      refine ⟨a, cap, by show (match L j with | some i => g'.τ i | none => g.τ j) = _; rw [hl]; exact k1, k2, k3, fun hc => ?_⟩
      obtain ⟨b, arr, q1, q0, q2, q3, q4, q5⟩ := k4 hc
      obtain ⟨f1, f2⟩ := hfar j _ b hl h1 (by simp [G.blk, k1, hc, q1])
      exact ⟨b, arr, q1, by show (match L j with | some i => g'.σ i | none => g.σ j) = some b; rw [hl]; exact q0, (keep b f1 f2).trans q2, q3, fun o hp => q4 o (hold b o hp f1 f2), fun k x v hx hv => (q5 k x v hx hv).mono hev.pr⟩
  · intro j x hj
    rcases hent j _ hj with ⟨i, e0, hl, hp, h1, h2⟩ | ⟨hl, h1⟩
    · cases e0 with
      | ob y =>
        simp only [HE.rn] at h2
        injection h2 with h2; subst h2
        obtain ⟨b, k1, k2, k3, k4⟩ := hw'.ob i _ h1
        have hfr : x.fr = true := List.all_eq_true.1 hHs _ (List.mem_of_getElem? h1)
        have hυ : g2.υ j = g'.υ i := by show (match L j with | some i => g'.υ i | none => g.υ j) = _; rw [hl]
        exact ⟨b, by rw [← hp, hσL]; exact k1, x.fre hfr (g := g') (g' := g2) rfl (by rw [← hp, hτL]) hυ k2, k3, fun b' o hu hp' => k4 b' o (by rwa [hυ] at hu) hp'⟩
      | _ => cases h2
    · obtain ⟨b, k1, k2, k3, k4⟩ := hw.ob j x h1
      obtain ⟨f1, f2⟩ := hfar j _ b hl h1 (.inl k1)
      have hυ : g2.υ j = g.υ j := by show (match L j with | some i => g'.υ i | none => g.υ j) = _; rw [hl]
      have hfu : ∀ b', g.υ j b' → b' < w.heap.size ∧ ¬ g0.X b' := fun b' hu => hfar j _ b' hl h1 (.inr hu)
      exact ⟨b, by show (match L j with | some i => g'.σ i | none => g.σ j) = some b; rw [hl]; exact k1, x.st hev.w (by show (match L j with | some i => g'.τ i | none => g.τ j) = g.τ j; rw [hl]) hυ (keep b f1 f2) (fun b' hu => keep b' (hfu b' hu).1 (hfu b' hu).2) k2, fun o hp => k3 o (hold b o hp f1 f2), fun b' o hu hp => by
        rw [hυ] at hu
        exact k4 b' o hu (hold b' o hp (hfu b' hu).1 (hfu b' hu).2)⟩
  · intro j hj
    cases hl : L j with
    | none =>
      have h1 : g2.σ j = g.σ j ∧ g2.τ j = g.τ j := by simp only [g2, hl]; exact ⟨trivial, trivial⟩
      have hυ : g2.υ j = g.υ j := by simp only [g2, hl]
      rw [h1.1, h1.2, hυ]
      refine hw.free j ?_
      rcases hj with hj | hj
      · rcases hent j _ hj with ⟨i, e0, hl', _⟩ | ⟨_, h2⟩
        · rw [hl] at hl'; cases hl'
        · exact .inl h2
      · have := (loc_none hl).2
        have hlen : (mergeH H ids H').length = H.length + (H'.length - ids.length) := by simp [mergeH, setAll_length]
        omega
    | some i =>
      have hp : p i = j := loc_some hN hl
      have h1 : g2.σ j = g'.σ i ∧ g2.τ j = g'.τ i := by simp only [g2, hl]; exact ⟨trivial, trivial⟩
      have hυ : g2.υ j = g'.υ i := by simp only [g2, hl]
      rw [h1.1, h1.2, hυ]
      refine hw'.free i ?_
      rcases hj with hj | hj
      · rcases hent j _ hj with ⟨i', e0, hl', _, h2, h3⟩ | ⟨hl', _⟩
        · rw [hl] at hl'; injection hl' with hl'; subst hl'
          cases e0 <;> simp only [HE.rn] at h3 <;> first | exact .inl h2 | cases h3
        · rw [hl] at hl'; cases hl'
      · have hlen : (mergeH H ids H').length = H.length + (H'.length - ids.length) := by simp [mergeH, setAll_length]
        refine .inr ?_
        rcases Nat.lt_or_ge i ids.length with hi | hi
        · have := hlt i hi
          have h3 := hN _ (List.mem_of_getElem? this)
          have h4 : p i < H.length := h3
          omega
        · have : ids[i]? = none := List.getElem?_eq_none hi
          have h4 : p i = H.length + (i - ids.length) := by simp [p, glob, this]
          omega
end Go.Proofs.YtindppnanjcoaaaGreatDoor.Ab
end
section
namespace Go.Proofs.YtindppnanjcoaaaGreatDoor.Ab
open Go

/-- The entries that a call is handed. -/
inductive InH (H : List HE) (p : Nat → Nat) : List Nat → List HE → Prop
  | nil : InH H p [] []
  | cons {id : Nat} {e : HE} {ids : List Nat} {H0 : List HE} : H[id]? = some (e.rn p) → InH H p ids H0 → InH H p (id :: ids) (e :: H0)
theorem InH.get {H : List HE} {p : Nat → Nat} {ids : List Nat} {H0 : List HE} (h : InH H p ids H0) : ids.length = H0.length ∧ ∀ (i : Nat) e, H0[i]? = some e → ∃ id, ids[i]? = some id ∧ H[id]? = some (e.rn p) := by
  induction h with
  | nil => simp
  | cons h1 _ ih =>
    refine ⟨by simp [ih.1], fun i e he => ?_⟩
    cases i with
    | zero => simp only [List.getElem?_cons_zero, Option.some.injEq] at he; subst he; exact ⟨_, rfl, h1⟩
    | succ i => exact ih.2 i e (by simpa using he)

section
variable {P : Program} {ρ : Operand → V} {H : List HE} {ty : TypeId}
theorem WOK.lstize {g : G} {w : World} {s : Nat} {e : TypeId} {ad : Option Addr} (hw : WOK g w H) :
    ∃ g', WOK g' w (H ++ [.lst [] e s]) ∧ Evo g w g' w ∧ g'.τ H.length = some (0, ad, 0) := by
  obtain ⟨hfσ, hfτ, hfυ⟩ := hw.free H.length (.inr (Nat.le_refl _))
  let g' : G := { σ := g.σ, τ := fun i => if i = H.length then some (0, ad, 0) else g.τ i, υ := g.υ, X := g.X, Pr := g.Pr }
  have hτ' : ∀ i, i ≠ H.length → g'.τ i = g.τ i := fun i h => by simp [g', h]
  have hτid : g'.τ H.length = some (0, ad, 0) := by simp [g']
  have hev : Evo g w g' w := {
    same := ⟨rfl, rfl, rfl⟩
    size := Nat.le_refl _
    pr := fun b o hp => ⟨hp, rfl⟩
    prn := fun b o h => .inl h
    x := fun b h => .inl h
    keep := fun b _ _ => rfl
    σ := fun i b h => h
    τ := fun i m a c h => by
      have : i ≠ H.length := fun e => by subst e; rw [hfτ] at h; cases h
      exact ⟨m, a, c, by rw [hτ' i this]; exact h, .inr ⟨rfl, rfl, rfl⟩⟩ }
  have hget : ∀ (i : Nat) x, (H ++ [HE.lst [] e s])[i]? = some x → (i = H.length ∧ x = .lst [] e s) ∨ (i ≠ H.length ∧ H[i]? = some x) := by
    intro i x hx
    by_cases hi : i < H.length
    · rw [List.getElem?_append_left hi] at hx; exact .inr ⟨by omega, hx⟩
    · rw [List.getElem?_append_right (by omega)] at hx
      have : i - H.length = 0 := by
        by_cases h0 : i - H.length = 0
        · exact h0
        · rw [List.getElem?_eq_none (by simp; omega)] at hx; cases hx
      rw [this] at hx
      exact .inl ⟨by omega, by simpa using hx.symm⟩
  have hblk : ∀ (i : Nat) x b, (H ++ [HE.lst [] e s])[i]? = some x → g'.blk i x b → H[i]? = some x ∧ g.blk i x b := by
    intro i x b hx hb
    rcases hget i x hx with ⟨rfl, rfl⟩ | ⟨hi, h⟩
    · simp [G.blk, hτid] at hb
    · refine ⟨h, ?_⟩
      cases x <;> simp only [G.blk, hτ' i hi] at hb ⊢ <;> exact hb
  refine ⟨g', ⟨hw.pr, hw.xs, ?_, ?_, ?_, ?_, ?_, ?_, ?_, hw.kc⟩, hev, hτid⟩
  · intro i x b hx hb
    obtain ⟨k1, k2⟩ := hblk i x b hx hb
    exact hw.blk i x b k1 k2
  · intro i i' x x' b hx hx' hb hb'
    obtain ⟨k1, k2⟩ := hblk i x b hx hb
    obtain ⟨k3, k4⟩ := hblk i' x' b hx' hb'
    exact hw.sep i i' x x' b k1 k3 k2 k4
  · intro i c hx
    rcases hget i _ hx with ⟨_, h⟩ | ⟨hi, h⟩
    · cases h
    · obtain ⟨b1, arr1, et1, k1, k2, k3, k4, k5⟩ := hw.row i c h
      exact ⟨b1, arr1, et1, k1, k2, k3, fun k x v hx hv => (k4 k x v hx hv).mono hev, k5⟩
  · intro i m e1 s1 hx
    rcases hget i _ hx with ⟨_, h⟩ | ⟨hi, h⟩
    · cases h
    · obtain ⟨a, cap, k1, k2⟩ := hw.tok i m e1 s1 h
      exact ⟨a, cap, by rw [hτ' i hi]; exact k1, k2⟩
  · intro i l1 e1 s1 hx
    rcases hget i _ hx with ⟨rfl, h⟩ | ⟨hi, h⟩
    · injection h with q1 q2 q3
      subst q1; subst q2; subst q3
      exact ⟨ad, 0, hτid, by simp, by omega, fun h => by omega⟩
    · obtain ⟨a, cap, k1, k2⟩ := hw.lst i l1 e1 s1 h
      exact ⟨a, cap, by rw [hτ' i hi]; exact k1, k2⟩
  · intro i x hx
    rcases hget i _ hx with ⟨_, h⟩ | ⟨hi, h⟩
    · cases h
    · obtain ⟨b1, k1, k2, k3, k4⟩ := hw.ob i x h
      exact ⟨b1, k1, x.st hev.w (hτ' i hi) rfl rfl (fun _ _ => rfl) k2, k3, k4⟩
  · intro i hi
    have hne : i ≠ H.length ∧ (H[i]? = some .free ∨ H.length ≤ i) := by
      rcases hi with hi | hi
      · rcases hget i _ hi with ⟨_, h⟩ | ⟨h1, h⟩
        · cases h
        · exact ⟨h1, .inl h⟩
      · simp at hi; exact ⟨by omega, .inr (by omega)⟩
    rw [hτ' i hne.1]
    exact hw.free i hne.2

end
end Go.Proofs.YtindppnanjcoaaaGreatDoor.Ab
end
section
namespace Go.Proofs.YtindppnanjcoaaaGreatDoor.Ab
open Go

end Go.Proofs.YtindppnanjcoaaaGreatDoor.Ab
end
section
namespace Go.Proofs.YtindppnanjcoaaaGreatDoor.Ab
open Go
section
variable {P : Program} {ρ : Operand → V} {H : List HE} {ty : TypeId}
end

section
variable {P : Program} {ρ : Operand → V} {H : List HE} {ty : TypeId}
end

section
variable {P : Program} {ρ : Operand → V} {H : List HE} {ty : TypeId}
end
end Go.Proofs.YtindppnanjcoaaaGreatDoor.Ab
end
section
namespace Go.Proofs.YtindppnanjcoaaaGreatDoor.Ab
open Go

section
variable {P : Program} {ρ : Operand → V} {H : List HE} {ty : TypeId}

end

/- Code whose labels nobody jumps to. -/
section
variable {P : Program} {ρ : Operand → V} {H : List HE} {ty : TypeId}
end

end Go.Proofs.YtindppnanjcoaaaGreatDoor.Ab
end
section
namespace Go.Proofs.YtindppnanjcoaaaGreatDoor.Ab
open Go

def slots (m : List (Nat × V)) : Nat → V := fun i => lookV m i .any
theorem AW.cutS {F : FC} {Q : Exit → St → Prop} {α : Type} {x y : Code} {E : Nat → V} {H : List HE} (n0 : Nat) (I : α → Prop) (m : α → List (Nat × V)) (K : α → List HE)
    (hg : ∀ id, n0 ≤ id → F.g0.σ id = none ∧ F.g0.τ id = none)
    (h1 : AW F x (thenQ (fun s => ∃ z, I z ∧ Meets n0 E [] (m z) (K z) s) Q) ⟨E, H⟩) (h2 : ∀ z, I z → AW F y Q ⟨slots (m z), K z⟩) : AW F (.seq x y) Q ⟨E, H⟩ :=
  AW.cutM n0 I [] m K hg h1 h2
theorem AW.loopS {F : FC} {Q : Exit → St → Prop} {σ τ : Type} {c : Code} {E : Nat → V} {H : List HE} (n0 : Nat) (m : σ → List (Nat × V)) (K : σ → List HE) {f : σ → Option (σ ⊕ τ)} {n : Nat} {s0 : σ} {t : τ}
    (hit : iter n f s0 = some t) (hg : ∀ id, n0 ≤ id → F.g0.σ id = none ∧ F.g0.τ id = none) (h0 : Meets n0 E [] (m s0) (K s0) ⟨E, H⟩)
    (round : ∀ n' s, iter (n' + 1) f s = some t → AW F c (thenQ (fun st => ∃ s', iter n' f s' = some t ∧ Meets n0 (slots (m s)) [] (m s') (K s') st) Q) ⟨slots (m s), K s⟩) : AW F (.loop c) Q ⟨E, H⟩ :=
  AW.loopM n0 [] m K hit hg h0 (fun n' s h => (round n' s h).mono fun e st hq => by
    cases e with
    | normal =>
      obtain ⟨s', h1, S, k1, k2, k3, k4, k5, k6⟩ := hq
      exact ⟨s', h1, S, k1, k2, rfl, k4, trivial, k6⟩
    | _ => exact hq)
theorem AW.reset {F : FC} {Q : Exit → St → Prop} {c : Code} {E : Nat → V} {H : List HE} (n0 : Nat) (m : List (Nat × V)) (K : List HE) (hg : ∀ id, n0 ≤ id → F.g0.σ id = none ∧ F.g0.τ id = none) (h0 : Meets n0 E [] m K ⟨E, H⟩) (k : AW F c Q ⟨slots m, K⟩) : AW F c Q ⟨E, H⟩ :=
  fun a w hs => k a w (meets_sim hg hs h0)
end Go.Proofs.YtindppnanjcoaaaGreatDoor.Ab
end
section
namespace Go.Proofs.YtindppnanjcoaaaGreatDoor.Ab
open Go

section
variable {F : FC} {ρ : Operand → V} {H : List HE} {ty : TypeId}
end

section
variable {P : Program} {ρ : Operand → V} {H : List HE} {ty : TypeId}
end

end Go.Proofs.YtindppnanjcoaaaGreatDoor.Ab
end
section
namespace Go.Proofs.YtindppnanjcoaaaGreatDoor.Ab
open Go

section
variable {P : Program} {ρ : Operand → V} {H : List HE} {ty : TypeId}
end
section
variable {P : Program} {ρ : Operand → V} {H : List HE} {ty : TypeId} {x y : Operand} {t u : TypeId} {k : IntKind} {a b c : Int}
end
theorem w1 {m : Nat} (h : m + 1 ≤ 4611686018427387904) : IntKind.i64.wrap ((m : Int) + ((1 : Nat) : Int)) = ((m + 1 : Nat) : Int) := by
  rw [w64 (by omega) (by omega)]; omega
theorem ws {m i : Nat} (h : m + 1 ≤ 4611686018427387904) (hi : i ≤ m) : IntKind.i64.wrap (((m + 1 : Nat) : Int) - (i : Int)) = ((m + 1 - i : Nat) : Int) := by
  rw [w64 (by omega) (by omega)]; omega
/-- Two values of a type are compared as what they mean. -/
def EqS {α : Type} [DecidableEq α] (P : Program) (t : TypeId) (f : α → D) : Prop :=
  P.eqGuardType P.depth t = false ∧ ∀ Pr w x y a b, RepD Pr w (f x) a → RepD Pr w (f y) b → ∃ xs ys, a = .agg xs ∧ b = .agg ys ∧ ∀ w', (Op.equalIn 10000 t (.agg xs) (.agg ys)).run P w' = .ok (decide (x = y)) w'

inductive RepLL (Pr : Nat → Nat → Prop) (w : World) : List D → List Value → Prop
  | nil : RepLL Pr w [] []
  | cons {x : D} {v : Value} {l : List D} {vs : List Value} : RepD Pr w x v → RepLL Pr w l vs → RepLL Pr w (x :: l) (v :: vs)
theorem RepLL.of {Pr : Nat → Nat → Prop} {w : World} : ∀ {l : List D} {vs : List Value}, vs.length = l.length → (∀ (i : Nat) x v, l[i]? = some x → vs[i]? = some v → RepD Pr w x v) → RepLL Pr w l vs
  | [], [], _, _ => .nil
  | x :: l, v :: vs, h, hh => .cons (hh 0 x v rfl rfl) (RepLL.of (by simpa using h) (fun i y u h1 h2 => hh (i + 1) y u h1 h2))
  | [], _ :: _, h, _ => by simp at h
  | _ :: _, [], h, _ => by simp at h
section
variable {P : Program} {ρ : Operand → V} {H : List HE} {ty : TypeId}
end
theorem OpRuns.mono {P : Program} {o : Oper} {r : Operand → Value} {w : World} {K K' : Value → World → Prop} (h : OpRuns P o r w K) (hk : ∀ v w', K v w' → K' v w') : OpRuns P o r w K' := by
  unfold OpRuns at *
  generalize (execOp r o).run P w = q at *
  cases q with
  | ok n w' =>
    cases n with
    | value v => exact hk _ _ h
    | skip => exact hk _ _ h
    | enter f args => exact Calls.mono h (fun e w'' ⟨v, h1, h2⟩ => ⟨v, h1, hk _ _ h2⟩)
    | _ => exact h
  | halt _ _ => exact h
section
variable {P : Program} {ρ : Operand → V} {H : List HE} {ty : TypeId}
theorem ix_inv {α : Type} {l : List α} {k : Int} {v : α} (h : ix l k = some v) : 0 ≤ k ∧ l[k.toNat]? = some v ∧ k.toNat < l.length := by
  unfold ix at h
  split at h
  · rename_i h0
    exact ⟨h0, h, (List.getElem?_eq_some_iff.1 h).1⟩
  · cases h
theorem OpV.asD {o : Op} {y : V} {x : D} {H' : List HE} (h : OpV P o ty ρ H y H') (hx : y.asD = some x) : OpV P o ty ρ H (.d x) H' := fun g w r pos after guard dst hw hr =>
  OpRuns.mono (h g w r pos after guard dst hw hr) (fun _ _ ⟨g', h1, h2, h3⟩ => ⟨g', h1, h2, .d (h3.asD hx)⟩)
/-- An array in a variable, read at a place that the run tells. -/
theorem op_indexAddr_dyn {α : Type} {l : List α} {v : α} {x y : Operand} {t n e s id off : Nat} {k : IntKind} {a : Int} (hx : Is (ρ x) (.ptr id off)) (hy : As (ρ y) (.int k a)) (hv : ix l a = some v) (hl : l.length = n) (hu : P.underlying t = some (.array n e))
    (hi : ∃ i, P.info? e = some i ∧ i.size = s) : OpV P (.indexAddr t x y) ty ρ H (.ptr id (off + a.toNat * s)) H := by
  obtain ⟨h0, _, h1⟩ := ix_inv hv
  exact op_indexAddr_arr hx hy (Int.toNat_of_nonneg h0).symm (by omega) hu hi
end
end Go.Proofs.YtindppnanjcoaaaGreatDoor.Ab
end
section
namespace Go.Proofs.YtindppnanjcoaaaGreatDoor.Ab
open Go

section
variable {H : List HE}
end

/-! ### maps -/
/-- Keys of a map as data. -/
structure KeyF (P : Program) (kt : TypeId) {κ : Type} [DecidableEq κ] (fk : κ → D) (kv : κ → Value) (d : TypeDesc) : Prop where
  ty : P.underlying kt = some d
  isk : ∀ x, MapKept.IsKey d (kv x)
  rep : ∀ {Pr : Nat → Nat → Prop} {w : World} {x : κ} {v : Value}, RepD Pr w (fk x) v → v = kv x
  mkr : ∀ {Pr : Nat → Nat → Prop} {w : World} {x : κ}, RepD Pr w (fk x) (kv x)
  same : ∀ x y, Instr.sameNow d (kv x) (kv y) = some (decide (x = y))
section
variable {P : Program} {ρ : Operand → V} {H : List HE} {ty : TypeId} {κ ν : Type} [DecidableEq κ] {fk : κ → D} {fv : ν → D} {kv : κ → Value} {d : TypeDesc}
theorem Is.mp {x : Operand} {id : Nat} {g : G} {w : World} {r : Operand → Value} (hx : Is (ρ x) (.mp id)) (h : Rep g w (ρ x) (r x)) : ∃ b, g.σ id = some b ∧ r x = .map (some b) := by
  have := hx.rep h
  generalize hr : r x = v at this
  cases this with
  | mp hb => exact ⟨_, hb, rfl⟩
end
end Go.Proofs.YtindppnanjcoaaaGreatDoor.Ab
end
section
namespace Go.Proofs.YtindppnanjcoaaaGreatDoor.Ab
open Go

/-! ### the plain language -/
/-! ### iterators over maps -/
theorem WOK.drew {g : G} {w : World} {H : List HE} (h3 : WOK g w H) : WOK g w.drew H ∧ Evo g w g w.drew := by
  have hev : Evo g w g w.drew := ⟨⟨rfl, rfl, rfl⟩, Nat.le_refl _, fun _ _ h => ⟨h, rfl⟩, fun _ _ h => .inl h, fun _ h => .inl h, fun _ _ _ => rfl, fun _ _ h => h, fun _ m a cap h => ⟨m, a, cap, h, .inr ⟨rfl, rfl, rfl⟩⟩⟩
  refine ⟨⟨h3.pr, h3.xs, h3.blk, h3.sep, fun id c hc => ?_, h3.tok, fun id l e s hc => ?_, fun id x hc => ?_, h3.free, h3.kcE hev⟩, hev⟩
  · obtain ⟨b, arr, et, e1, e2, e3, e4, e5⟩ := h3.row id c hc
    exact ⟨b, arr, et, e1, e2, e3, fun k x v hx hv => (e4 k x v hx hv).mono hev, e5⟩
  · obtain ⟨a, cap, k1, k2, k3, k4⟩ := h3.lst id l e s hc
    refine ⟨a, cap, k1, k2, k3, fun hlt => ?_⟩
    obtain ⟨b, arr, q1, q0, q2, q3, q4, q5⟩ := k4 hlt
    exact ⟨b, arr, q1, q0, q2, q3, q4, fun k x v hx hv => (q5 k x v hx hv).mono hev.pr⟩
  · obtain ⟨b, q1, q2, q3, q4⟩ := h3.ob id x hc
    exact ⟨b, q1, x.st hev.w rfl rfl rfl (fun _ _ => rfl) q2, q3, q4⟩

section
variable {P : Program} {ρ : Operand → V} {H : List HE} {ty : TypeId}
end

/-- What is left of a list, by places. -/
def left {α : Type} (l : List α) (S : List Nat) : List Nat → List α := fun I => I.filterMap fun i => if i ∈ S then none else l[i]?
/-! ### texts -/
section
variable {P : Program} {ρ : Operand → V} {H : List HE} {ty : TypeId}
end
end Go.Proofs.YtindppnanjcoaaaGreatDoor.Ab
end
