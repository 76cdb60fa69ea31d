/- The search for a shortest way: it ends, and at its end nothing can be made less. Conditions: none. -/
import Derived.Test.YthjinjinnklkgaaRa
namespace Go.Proofs.Ythjinjinnklkgaa.Ab
open Go

/-- How many steps back the first lender is. -/
inductive RootN (bk : List Int) : Nat → Nat → Prop
  | root {j : Nat} : gI bk j = -1 → RootN bk j 0
  | step {j j' n : Nat} : gI bk j = (j' : Int) → RootN bk j' n → RootN bk j (n + 1)
theorem RootN.uniq {bk : List Int} {j n n' : Nat} (h : RootN bk j n) (h' : RootN bk j n') : n = n' := by
  induction h generalizing n' with
  | root e =>
    cases h' with
    | root => rfl
    | step e' _ => rw [e] at e'; omega
  | step e _ ih =>
    cases h' with
    | root e' => rw [e] at e'; omega
    | step e' h' =>
      rw [e] at e'
      have : _ = _ := Int.ofNat_inj.1 e'
      subst this
      rw [ih h']
theorem nodup_len : ∀ (m : Nat) (l : List Nat), l.Nodup → (∀ x ∈ l, x < m) → l.length ≤ m
  | 0, l, _, h => by
    cases l with
    | nil => simp
    | cons x l => exact absurd (h x (by simp)) (by omega)
  | m + 1, l, hn, h => by
    by_cases hm : m ∈ l
    · have h1 := nodup_len m (l.erase m) (hn.erase m) (fun x hx => by
        have := (List.Nodup.mem_erase_iff hn).1 hx
        have := h x this.2
        omega)
      rw [List.length_erase_of_mem hm] at h1
      omega
    · have := nodup_len m l hn (fun x hx => by
        have := h x hx
        have : x ≠ m := fun e => hm (e ▸ hx)
        omega)
      omega
theorem RootN.list {bk : List Int} {m : Nat} {F : Nat → Prop} (hc : ∀ j, F j → j < m ∧ ∀ j' : Nat, gI bk j = j' → F j') {j n : Nat} (h : RootN bk j n) (hf : F j) : ∃ L : List Nat, L.length = n + 1 ∧ L.Nodup ∧ (∀ x ∈ L, x < m) ∧ ∀ x ∈ L, ∃ d, d ≤ n ∧ RootN bk x d := by
  induction h with
  | @root j e => exact ⟨[j], rfl, by simp, by simp [(hc j hf).1], by simp; exact .root e⟩
  | @step j j' n e h ih =>
    obtain ⟨L, l1, l2, l3, l4⟩ := ih ((hc j hf).2 j' e)
    refine ⟨j :: L, by simp [l1], List.nodup_cons.2 ⟨fun hm => ?_, l2⟩, ?_, ?_⟩
    · obtain ⟨d, d1, d2⟩ := l4 j hm
      have := d2.uniq (.step e h)
      omega
    · intro x hx
      rcases List.mem_cons.1 hx with rfl | hx
      · exact (hc _ hf).1
      · exact l3 x hx
    · intro x hx
      rcases List.mem_cons.1 hx with rfl | hx
      · exact ⟨n + 1, Nat.le_refl _, .step e h⟩
      · obtain ⟨d, d1, d2⟩ := l4 x hx
        exact ⟨d, by omega, d2⟩
open Classical in
noncomputable def hgt (bk : List Int) (j : Nat) : Nat := if h : ∃ n, RootN bk j n then h.choose else 0
theorem hgt_eq {bk : List Int} {j n : Nat} (h : RootN bk j n) : hgt bk j = n := by
  unfold hgt
  have hx : ∃ n, RootN bk j n := ⟨n, h⟩
  rw [dif_pos hx]
  exact hx.choose_spec.uniq h

section
variable {p : SProblem} {room a : List Int} {lo k : Nat} {v : Nat → Int}
def nf (p : SProblem) (dist : List Int) : Int := sumR (fun j => if gI dist j < FAR then 1 else 0) 0 p.fRoom.length
def Edge (p : SProblem) (a : List Int) (lo k : Nat) (dist by' bk : List Int) (j : Nat) : Prop :=
  (gI bk j = -1 ∧ gI by' j = ((lo + k : Nat) : Int) ∧ gI dist j = Cf p (lo + k) j ∧ Cf p (lo + k) j ≠ -1) ∨
  ∃ j' i : Nat, gI bk j = j' ∧ gI by' j = i ∧ j' < p.fRoom.length ∧ gI dist j' < FAR ∧ lo ≤ i ∧ i < lo + k ∧ Af a i = j' ∧ Cf p i j ≠ -1 ∧ gI dist j' - Cf p i j' + Cf p i j ≤ gI dist j
/-- What holds between two steps of the search. -/
structure RI (p : SProblem) (a : List Int) (lo k : Nat) (v : Nat → Int) (dist by' bk : List Int) : Prop where
  ln : Lens p dist by' bk
  d0 : ∀ j, j < p.fRoom.length → Cf p (lo + k) j ≠ -1 → gI dist j ≤ Cf p (lo + k) j
  nn : ∀ j, j < p.fRoom.length → 0 ≤ gI dist j + v j
  ub : ∀ j, j < p.fRoom.length → gI dist j < FAR → gI dist j ≤ 10000 * nf p dist
  rt : ∀ j, j < p.fRoom.length → gI dist j < FAR → ∃ n, RootN bk j n
  ed : ∀ j, j < p.fRoom.length → gI dist j < FAR → Edge p a lo k dist by' bk j
/-- What the search is about. -/
structure Sit (p : SProblem) (room a : List Int) (lo k : Nat) (v : Nat → Int) : Prop where
  vp : VP p
  rl : room.length = p.fRoom.length
  al : a.length = p.fCosts.length
  lk : lo + k < a.length
  pm : Perm p.fRoom.length (Cf p) (Af a) lo k (gI room)
  ct : Cert p.fRoom.length (Cf p) p.fPenalty v (Af a) lo k (gI room)
  vb : ∀ j, j < p.fRoom.length → v j ≤ 1000000
  rest : ∀ i, lo + k ≤ i → i < a.length → Af a i = -1
theorem Sit.tight (hS : Sit p room a lo k v) {i j y : Nat} (h1 : lo ≤ i) (h2 : i < lo + k) (hi : Af a i = (j : Int)) (hy : y < p.fRoom.length) (hc : Cf p i y ≠ -1) : Cf p i j + v j ≤ Cf p i y + v y ∧ 0 ≤ Cf p i j ∧ j < p.fRoom.length := by
  have h := hS.ct.ti i h1 h2 (y : Int) (okX_j hy hc)
  rw [hi, cst_j, tak_j, cst_j, tak_j] at h
  rcases okX_cases (hS.pm.ok i h1 h2) with e | ⟨z, e, hz, hcz⟩
  · rw [hi] at e; omega
  · rw [hi] at e
    obtain rfl : j = z := by omega
    have := hS.vp.co i j (by have := hS.lk; have := hS.al; omega) hz
    refine ⟨h, ?_, hz⟩
    unfold Cf at hcz ⊢
    omega
variable {dist by' bk : List Int}
theorem RI.step (hS : Sit p room a lo k v) (hR : RI p a lo k v dist by' bk) {u : List Int × List Int × List Int} (hI : Imp p a lo dist by' bk u) :
    RI p a lo k v u.1 u.2.1 u.2.2 ∧ sumR (fun j => gI u.1 j + v j) 0 p.fRoom.length < sumR (fun j => gI dist j + v j) 0 p.fRoom.length := by
  obtain ⟨j, i, y, hj, hf, i1, i2, hij, hy, hcy, hlt, rfl⟩ := hI
  have i3 : i < lo + k := by
    refine Nat.lt_of_not_le fun hle => ?_
    have := hS.rest i hle i2
    rw [hij] at this; omega
  obtain ⟨ht, hcj, _⟩ := hS.tight i1 i3 hij hy hcy
  have hdl := hR.ln.d
  have hbl := hR.ln.b
  have hkl := hR.ln.k
  have hnj := hR.nn j hj
  have hry := hR.ln.r y hy
  have hvy := hS.vb y hy
  have hci := hS.vp.co i y (by have := hS.al; omega) hy
  have hci' : Cf p i y ≤ 10000 := hci.2
  have hc0 : 0 ≤ Cf p i y := by
    have := hci.1
    unfold Cf at hcy ⊢
    omega
  have hjy : j ≠ y := fun e => by subst e; omega
  generalize hw : gI dist j - Cf p i j + Cf p i y = w at *
  have gd : ∀ z, gI (dist.set y w) z = if y = z then w else gI dist z := fun z => gI_set (by omega)
  have gb : ∀ z, gI (by'.set y (i : Int)) z = if y = z then (i : Int) else gI by' z := fun z => gI_set (by omega)
  have gk : ∀ z, gI (bk.set y (j : Int)) z = if y = z then (j : Int) else gI bk z := fun z => gI_set (by omega)
  have hwF : w < FAR := by omega
  -- how many are reached
  have hnf : nf p (dist.set y w) = nf p dist + (if gI dist y < FAR then 0 else 1) := by
    unfold nf
    rw [sumR_upd (r := y) (by omega) (by omega) (f := fun z => if gI dist z < FAR then 1 else 0) (fun z _ _ hz => by rw [gd, if_neg (Ne.symm hz)])]
    rw [gd, if_pos rfl, if_pos hwF]
    split <;> omega
  have hsum : sumR (fun z => gI (dist.set y w) z + v z) 0 p.fRoom.length = sumR (fun z => gI dist z + v z) 0 p.fRoom.length + ((w + v y) - (gI dist y + v y)) := by
    rw [sumR_upd (r := y) (by omega) (by omega) (f := fun z => gI dist z + v z) (fun z _ _ hz => by rw [gd, if_neg (Ne.symm hz)])]
    rw [gd, if_pos rfl]
  -- the way back from j does not come to y
  have avoid : ∀ x n, RootN bk x n → x < p.fRoom.length → gI dist x < FAR → gI dist x + v x < gI dist y + v y → ∃ n', RootN (bk.set y (j : Int)) x n' := by
    intro x n hx
    induction hx with
    | @root x e =>
      intro _ _ hl
      have hxy : y ≠ x := fun e => by subst e; omega
      exact ⟨0, .root (by rw [gk, if_neg hxy]; exact e)⟩
    | @step x x' n e _ ih =>
      intro hx hfx hl
      have hxy : y ≠ x := fun e => by subst e; omega
      rcases hR.ed x hx hfx with ⟨b1, _⟩ | ⟨j', i', b1, b2, b3, b4, b5, b6, b7, b8, b9⟩
      · rw [e] at b1; omega
      · obtain rfl : x' = j' := by rw [e] at b1; omega
        have t := (hS.tight b5 b6 b7 hx b8).1
        obtain ⟨n', h'⟩ := ih b3 b4 (by omega)
        exact ⟨n' + 1, .step (by rw [gk, if_neg hxy]; exact e) h'⟩
  obtain ⟨nj, hnjr⟩ := hR.rt j hj hf
  obtain ⟨nj', hj'⟩ := avoid j nj hnjr hj hf (by omega)
  have back : ∀ x n, RootN bk x n → ∃ n', RootN (bk.set y (j : Int)) x n' := by
    intro x n hx
    induction hx with
    | @root x e =>
      by_cases hxy : y = x
      · subst hxy; exact ⟨_, .step (by rw [gk, if_pos rfl]) hj'⟩
      · exact ⟨0, .root (by rw [gk, if_neg hxy]; exact e)⟩
    | @step x x' n e _ ih =>
      by_cases hxy : y = x
      · subst hxy; exact ⟨_, .step (by rw [gk, if_pos rfl]) hj'⟩
      · obtain ⟨n', h'⟩ := ih
        exact ⟨n' + 1, .step (by rw [gk, if_neg hxy]; exact e) h'⟩
  refine ⟨⟨⟨by simp [hdl], by simp [hbl], by simp [hkl], fun z hz => ?_⟩, fun z hz hcz => ?_, fun z hz => ?_, fun z hz hfz => ?_, fun z hz hfz => ?_, fun z hz hfz => ?_⟩, by dsimp only; rw [hsum]; omega⟩
  · rw [gd]
    split
    · omega
    · exact hR.ln.r z hz
  · have := hR.d0 z hz hcz
    dsimp only
    rw [gd]
    split
    · rename_i e; subst e; omega
    · exact this
  · dsimp only
    rw [gd]
    split
    · rename_i e; subst e; omega
    · exact hR.nn z hz
  · dsimp only at hfz ⊢
    rw [hnf]
    rw [gd] at hfz ⊢
    have hub := hR.ub j hj hf
    by_cases hyz : y = z
    · subst hyz
      rw [if_pos rfl]
      by_cases hfy : gI dist y < FAR
      · have := hR.ub y hy hfy
        rw [if_pos hfy]; omega
      · rw [if_neg hfy]; omega
    · rw [if_neg hyz] at hfz ⊢
      have := hR.ub z hz hfz
      split <;> omega
  · dsimp only at hfz ⊢
    rw [gd] at hfz
    by_cases hyz : y = z
    · subst hyz; exact ⟨_, .step (by rw [gk, if_pos rfl]) hj'⟩
    · rw [if_neg hyz] at hfz
      obtain ⟨n, hn⟩ := hR.rt z hz hfz
      exact back z n hn
  · dsimp only at hfz ⊢
    rw [gd] at hfz
    by_cases hyz : y = z
    · subst hyz
      right
      refine ⟨j, i, by rw [gk, if_pos rfl], by rw [gb, if_pos rfl], hj, by rw [gd, if_neg (Ne.symm hjy)]; exact hf, i1, i3, hij, hcy, ?_⟩
      rw [gd, gd, if_pos rfl, if_neg (Ne.symm hjy), hw]; exact Int.le_refl _
    · rw [if_neg hyz] at hfz
      rcases hR.ed z hz hfz with ⟨b1, b2, b3, b4⟩ | ⟨j', i', b1, b2, b3, b4, b5, b6, b7, b8, b9⟩
      · left
        exact ⟨by rw [gk, if_neg hyz]; exact b1, by rw [gb, if_neg hyz]; exact b2, by rw [gd, if_neg hyz]; exact b3, b4⟩
      · right
        refine ⟨j', i', by rw [gk, if_neg hyz]; exact b1, by rw [gb, if_neg hyz]; exact b2, b3, ?_, b5, b6, b7, b8, ?_⟩
        · rw [gd]; split
          · exact hwF
          · exact b4
        · rw [gd, gd, if_neg hyz]
          by_cases hyj : y = j'
          · subst hyj; rw [if_pos rfl]; omega
          · rw [if_neg hyj]; exact b9
/-- The search ends, and then nothing can be made less. -/
theorem relax_ends (hS : Sit p room a lo k v) (hR : RI p a lo k v dist by' bk) :
    ∃ t : List Int × List Int × List Int, iter FU (fun s => m_route_search_add_L2 FU ⟨p, room, a, (lo : Int)⟩ s.1 s.2.1 s.2.2) (dist, by', bk) = some t ∧ RI p a lo k v t.1 t.2.1 t.2.2 ∧
      ∀ j, j < p.fRoom.length → gI t.1 j < FAR → ∀ i : Nat, lo ≤ i → i < a.length → Af a i = j → ∀ y, y < p.fRoom.length → Cf p i y ≠ -1 → gI t.1 y ≤ gI t.1 j - Cf p i j + Cf p i y := by
  have hm := hS.vp.r
  have bnd : ∀ d b k' : List Int, RI p a lo k v d b k' → 0 ≤ sumR (fun j => gI d j + v j) 0 p.fRoom.length ∧ sumR (fun j => gI d j + v j) 0 p.fRoom.length ≤ 2199023255552 * p.fRoom.length := fun d b k' h => by
    refine ⟨sumR_nn _ _ (fun j _ hj => h.nn j (by omega)), ?_⟩
    have := sumR_le p.fRoom.length 0 (f := fun j => gI d j + v j) (g := fun _ => 2199023255552) (fun j _ hj => by
      have := h.ln.r j (by omega)
      have := hS.vb j (by omega)
      dsimp only [FAR] at *
      omega)
    have e : ∀ (k lo : Nat), sumR (fun _ => (2199023255552 : Int)) lo k = 2199023255552 * k := by
      intro k
      induction k with
      | zero => intro lo; rfl
      | succ k ih => intro lo; rw [sumR, ih]; omega
    rw [e] at this
    exact this
  have b0 := bnd _ _ _ hR
  refine iter_inv (σ := List Int × List Int × List Int) (I := fun kk s => RI p a lo k v s.1 s.2.1 s.2.2 ∧ (kk : Int) = sumR (fun j => gI s.1 j + v j) 0 p.fRoom.length)
    (Q := fun t : List Int × List Int × List Int => RI p a lo k v t.1 t.2.1 t.2.2 ∧ ∀ j, j < p.fRoom.length → gI t.1 j < FAR → ∀ i : Nat, lo ≤ i → i < a.length → Af a i = j → ∀ y, y < p.fRoom.length → Cf p i y ≠ -1 → gI t.1 y ≤ gI t.1 j - Cf p i j + Cf p i y) (by
      rintro kk ⟨d, b, bk'⟩ ⟨h1, h2⟩
      dsimp only at h1 h2
      simp only [m_route_search_add_L2]
      obtain ⟨t, t1, t2⟩ := add_L3 (room := room) hS.vp h1.ln hS.al (show lo ≤ a.length by have := hS.lk; omega) hS.rl
      rw [t1, Option.bind_some]
      cases t with
      | inl u =>
        left
        obtain ⟨r1, r2⟩ := h1.step hS t2
        have := bnd _ _ _ r1
        exact ⟨_, (sumR (fun j => gI u.1 j + v j) 0 p.fRoom.length).toNat, rfl, by omega, r1, by dsimp only; omega⟩
      | inr u => exact .inr ⟨_, rfl, h1, t2⟩) (sumR (fun j => gI dist j + v j) 0 p.fRoom.length).toNat FU (dist, by', bk) ⟨hR, by dsimp only; omega⟩ (by simp only [FU]; omega)
end
end Go.Proofs.Ythjinjinnklkgaa.Ab
