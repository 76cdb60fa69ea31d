/- Plain laws, joined. Conditions: none. -/
import Derived.Test.YthjinjinnklkgaaRa
namespace Go.Proofs.Ythjinjinnklkgaa.Ab
section
/- The search for a shortest way: it ends, and at its end nothing can be made less. Conditions: none. -/
open Go

/-- How many steps back the first lender is. -/
inductive RootN (bk : List Int) : Nat → Nat → Prop
  | root {j : Nat} : gI bk j = -1 → RootN bk j 0
  | step {j j' n : Nat} : gI bk j = (j' : Int) → RootN bk j' n → RootN bk j (n + 1)
theorem RootN.uniq {bk : List Int} {j n n' : Nat} (h : RootN bk j n) (h' : RootN bk j n') : n = n' := by
  induction h generalizing n' with
  | root e =>
    cases h' with
    | root => rfl
    | step e' _ => rw [e] at e'; omega
  | step e _ ih =>
    cases h' with
    | root e' => rw [e] at e'; omega
    | step e' h' =>
      rw [e] at e'
      have : _ = _ := Int.ofNat_inj.1 e'
      subst this
      rw [ih h']
theorem nodup_len : ∀ (m : Nat) (l : List Nat), l.Nodup → (∀ x ∈ l, x < m) → l.length ≤ m
  | 0, l, _, h => by
    cases l with
    | nil => simp
    | cons x l => exact absurd (h x (by simp)) (by omega)
  | m + 1, l, hn, h => by
    by_cases hm : m ∈ l
    · have h1 := nodup_len m (l.erase m) (hn.erase m) (fun x hx => by
        have := (List.Nodup.mem_erase_iff hn).1 hx
        have := h x this.2
        omega)
      rw [List.length_erase_of_mem hm] at h1
      omega
    · have := nodup_len m l hn (fun x hx => by
        have := h x hx
        have : x ≠ m := fun e => hm (e ▸ hx)
        omega)
      omega
theorem RootN.list {bk : List Int} {m : Nat} {F : Nat → Prop} (hc : ∀ j, F j → j < m ∧ ∀ j' : Nat, gI bk j = j' → F j') {j n : Nat} (h : RootN bk j n) (hf : F j) : ∃ L : List Nat, L.length = n + 1 ∧ L.Nodup ∧ (∀ x ∈ L, x < m) ∧ ∀ x ∈ L, ∃ d, d ≤ n ∧ RootN bk x d := by
  induction h with
  | @root j e => exact ⟨[j], rfl, by simp, by simp [(hc j hf).1], by simp; exact .root e⟩
  | @step j j' n e h ih =>
    obtain ⟨L, l1, l2, l3, l4⟩ := ih ((hc j hf).2 j' e)
    refine ⟨j :: L, by simp [l1], List.nodup_cons.2 ⟨fun hm => ?_, l2⟩, ?_, ?_⟩
    · obtain ⟨d, d1, d2⟩ := l4 j hm
      have := d2.uniq (.step e h)
      omega
    · intro x hx
      rcases List.mem_cons.1 hx with rfl | hx
      · exact (hc _ hf).1
      · exact l3 x hx
    · intro x hx
      rcases List.mem_cons.1 hx with rfl | hx
      · exact ⟨n + 1, Nat.le_refl _, .step e h⟩
      · obtain ⟨d, d1, d2⟩ := l4 x hx
        exact ⟨d, by omega, d2⟩
open Classical in
noncomputable def hgt (bk : List Int) (j : Nat) : Nat := if h : ∃ n, RootN bk j n then h.choose else 0
theorem hgt_eq {bk : List Int} {j n : Nat} (h : RootN bk j n) : hgt bk j = n := by
  unfold hgt
  have hx : ∃ n, RootN bk j n := ⟨n, h⟩
  rw [dif_pos hx]
  exact hx.choose_spec.uniq h

section
variable {p : SProblem} {room a : List Int} {lo k : Nat} {v : Nat → Int}
def nf (p : SProblem) (dist : List Int) : Int := sumR (fun j => if gI dist j < FAR then 1 else 0) 0 p.fRoom.length
def Edge (p : SProblem) (a : List Int) (lo k : Nat) (dist by' bk : List Int) (j : Nat) : Prop :=
  (gI bk j = -1 ∧ gI by' j = ((lo + k : Nat) : Int) ∧ gI dist j = Cf p (lo + k) j ∧ Cf p (lo + k) j ≠ -1) ∨
  ∃ j' i : Nat, gI bk j = j' ∧ gI by' j = i ∧ j' < p.fRoom.length ∧ gI dist j' < FAR ∧ lo ≤ i ∧ i < lo + k ∧ Af a i = j' ∧ Cf p i j ≠ -1 ∧ gI dist j' - Cf p i j' + Cf p i j ≤ gI dist j
/-- What holds between two steps of the search. -/
structure RI (p : SProblem) (a : List Int) (lo k : Nat) (v : Nat → Int) (dist by' bk : List Int) : Prop where
  ln : Lens p dist by' bk
  d0 : ∀ j, j < p.fRoom.length → Cf p (lo + k) j ≠ -1 → gI dist j ≤ Cf p (lo + k) j
  nn : ∀ j, j < p.fRoom.length → 0 ≤ gI dist j + v j
  ub : ∀ j, j < p.fRoom.length → gI dist j < FAR → gI dist j ≤ 10000 * nf p dist
  rt : ∀ j, j < p.fRoom.length → gI dist j < FAR → ∃ n, RootN bk j n
  ed : ∀ j, j < p.fRoom.length → gI dist j < FAR → Edge p a lo k dist by' bk j
/-- What the search is about. -/
structure Sit (p : SProblem) (room a : List Int) (lo k : Nat) (v : Nat → Int) : Prop where
  vp : VP p
  rl : room.length = p.fRoom.length
  al : a.length = p.fCosts.length
  lk : lo + k < a.length
  pm : Perm p.fRoom.length (Cf p) (Af a) lo k (gI room)
  ct : Cert p.fRoom.length (Cf p) p.fPenalty v (Af a) lo k (gI room)
  vb : ∀ j, j < p.fRoom.length → v j ≤ 1000000
  rest : ∀ i, lo + k ≤ i → i < a.length → Af a i = -1
theorem Sit.tight (hS : Sit p room a lo k v) {i j y : Nat} (h1 : lo ≤ i) (h2 : i < lo + k) (hi : Af a i = (j : Int)) (hy : y < p.fRoom.length) (hc : Cf p i y ≠ -1) : Cf p i j + v j ≤ Cf p i y + v y ∧ 0 ≤ Cf p i j ∧ j < p.fRoom.length := by
  have h := hS.ct.ti i h1 h2 (y : Int) (okX_j hy hc)
  rw [hi, cst_j, tak_j, cst_j, tak_j] at h
  rcases okX_cases (hS.pm.ok i h1 h2) with e | ⟨z, e, hz, hcz⟩
  · rw [hi] at e; omega
  · rw [hi] at e
    obtain rfl : j = z := by omega
    have := hS.vp.co i j (by have := hS.lk; have := hS.al; omega) hz
    refine ⟨h, ?_, hz⟩
    unfold Cf at hcz ⊢
    omega
variable {dist by' bk : List Int}
theorem RI.step (hS : Sit p room a lo k v) (hR : RI p a lo k v dist by' bk) {u : List Int × List Int × List Int} (hI : Imp p a lo dist by' bk u) :
    RI p a lo k v u.1 u.2.1 u.2.2 ∧ sumR (fun j => gI u.1 j + v j) 0 p.fRoom.length < sumR (fun j => gI dist j + v j) 0 p.fRoom.length := by
  obtain ⟨j, i, y, hj, hf, i1, i2, hij, hy, hcy, hlt, rfl⟩ := hI
  have i3 : i < lo + k := by
    refine Nat.lt_of_not_le fun hle => ?_
    have := hS.rest i hle i2
    rw [hij] at this; omega
  obtain ⟨ht, hcj, _⟩ := hS.tight i1 i3 hij hy hcy
  have hdl := hR.ln.d
  have hbl := hR.ln.b
  have hkl := hR.ln.k
  have hnj := hR.nn j hj
  have hry := hR.ln.r y hy
  have hvy := hS.vb y hy
  have hci := hS.vp.co i y (by have := hS.al; omega) hy
  have hci' : Cf p i y ≤ 10000 := hci.2
  have hc0 : 0 ≤ Cf p i y := by
    have := hci.1
    unfold Cf at hcy ⊢
    omega
  have hjy : j ≠ y := fun e => by subst e; omega
  generalize hw : gI dist j - Cf p i j + Cf p i y = w at *
  have gd : ∀ z, gI (dist.set y w) z = if y = z then w else gI dist z := fun z => gI_set (by omega)
  have gb : ∀ z, gI (by'.set y (i : Int)) z = if y = z then (i : Int) else gI by' z := fun z => gI_set (by omega)
  have gk : ∀ z, gI (bk.set y (j : Int)) z = if y = z then (j : Int) else gI bk z := fun z => gI_set (by omega)
  have hwF : w < FAR := by omega
  -- how many are reached
  have hnf : nf p (dist.set y w) = nf p dist + (if gI dist y < FAR then 0 else 1) := by
    unfold nf
    rw [sumR_upd (r := y) (by omega) (by omega) (f := fun z => if gI dist z < FAR then 1 else 0) (fun z _ _ hz => by rw [gd, if_neg (Ne.symm hz)])]
    rw [gd, if_pos rfl, if_pos hwF]
    split <;> omega
  have hsum : sumR (fun z => gI (dist.set y w) z + v z) 0 p.fRoom.length = sumR (fun z => gI dist z + v z) 0 p.fRoom.length + ((w + v y) - (gI dist y + v y)) := by
    rw [sumR_upd (r := y) (by omega) (by omega) (f := fun z => gI dist z + v z) (fun z _ _ hz => by rw [gd, if_neg (Ne.symm hz)])]
    rw [gd, if_pos rfl]
  -- the way back from j does not come to y
  have avoid : ∀ x n, RootN bk x n → x < p.fRoom.length → gI dist x < FAR → gI dist x + v x < gI dist y + v y → ∃ n', RootN (bk.set y (j : Int)) x n' := by
    intro x n hx
    induction hx with
    | @root x e =>
      intro _ _ hl
      have hxy : y ≠ x := fun e => by subst e; omega
      exact ⟨0, .root (by rw [gk, if_neg hxy]; exact e)⟩
    | @step x x' n e _ ih =>
      intro hx hfx hl
      have hxy : y ≠ x := fun e => by subst e; omega
      rcases hR.ed x hx hfx with ⟨b1, _⟩ | ⟨j', i', b1, b2, b3, b4, b5, b6, b7, b8, b9⟩
      · rw [e] at b1; omega
      · obtain rfl : x' = j' := by rw [e] at b1; omega
        have t := (hS.tight b5 b6 b7 hx b8).1
        obtain ⟨n', h'⟩ := ih b3 b4 (by omega)
        exact ⟨n' + 1, .step (by rw [gk, if_neg hxy]; exact e) h'⟩
  obtain ⟨nj, hnjr⟩ := hR.rt j hj hf
  obtain ⟨nj', hj'⟩ := avoid j nj hnjr hj hf (by omega)
  have back : ∀ x n, RootN bk x n → ∃ n', RootN (bk.set y (j : Int)) x n' := by
    intro x n hx
    induction hx with
    | @root x e =>
      by_cases hxy : y = x
      · subst hxy; exact ⟨_, .step (by rw [gk, if_pos rfl]) hj'⟩
      · exact ⟨0, .root (by rw [gk, if_neg hxy]; exact e)⟩
    | @step x x' n e _ ih =>
      by_cases hxy : y = x
      · subst hxy; exact ⟨_, .step (by rw [gk, if_pos rfl]) hj'⟩
      · obtain ⟨n', h'⟩ := ih
        exact ⟨n' + 1, .step (by rw [gk, if_neg hxy]; exact e) h'⟩
  refine ⟨⟨⟨by simp [hdl], by simp [hbl], by simp [hkl], fun z hz => ?_⟩, fun z hz hcz => ?_, fun z hz => ?_, fun z hz hfz => ?_, fun z hz hfz => ?_, fun z hz hfz => ?_⟩, by dsimp only; rw [hsum]; omega⟩
  · rw [gd]
    split
    · omega
    · exact hR.ln.r z hz
  · have := hR.d0 z hz hcz
    dsimp only
    rw [gd]
    split
    · rename_i e; subst e; omega
    · exact this
  · dsimp only
    rw [gd]
    split
    · rename_i e; subst e; omega
    · exact hR.nn z hz
  · dsimp only at hfz ⊢
    rw [hnf]
    rw [gd] at hfz ⊢
    have hub := hR.ub j hj hf
    by_cases hyz : y = z
    · subst hyz
      rw [if_pos rfl]
      by_cases hfy : gI dist y < FAR
      · have := hR.ub y hy hfy
        rw [if_pos hfy]; omega
      · rw [if_neg hfy]; omega
    · rw [if_neg hyz] at hfz ⊢
      have := hR.ub z hz hfz
      split <;> omega
  · dsimp only at hfz ⊢
    rw [gd] at hfz
    by_cases hyz : y = z
    · subst hyz; exact ⟨_, .step (by rw [gk, if_pos rfl]) hj'⟩
    · rw [if_neg hyz] at hfz
      obtain ⟨n, hn⟩ := hR.rt z hz hfz
      exact back z n hn
  · dsimp only at hfz ⊢
    rw [gd] at hfz
    by_cases hyz : y = z
    · subst hyz
      right
      refine ⟨j, i, by rw [gk, if_pos rfl], by rw [gb, if_pos rfl], hj, by rw [gd, if_neg (Ne.symm hjy)]; exact hf, i1, i3, hij, hcy, ?_⟩
      rw [gd, gd, if_pos rfl, if_neg (Ne.symm hjy), hw]; exact Int.le_refl _
    · rw [if_neg hyz] at hfz
      rcases hR.ed z hz hfz with ⟨b1, b2, b3, b4⟩ | ⟨j', i', b1, b2, b3, b4, b5, b6, b7, b8, b9⟩
      · left
        exact ⟨by rw [gk, if_neg hyz]; exact b1, by rw [gb, if_neg hyz]; exact b2, by rw [gd, if_neg hyz]; exact b3, b4⟩
      · right
        refine ⟨j', i', by rw [gk, if_neg hyz]; exact b1, by rw [gb, if_neg hyz]; exact b2, b3, ?_, b5, b6, b7, b8, ?_⟩
        · rw [gd]; split
          · exact hwF
          · exact b4
        · rw [gd, gd, if_neg hyz]
          by_cases hyj : y = j'
          · subst hyj; rw [if_pos rfl]; omega
          · rw [if_neg hyj]; exact b9
/-- The search ends, and then nothing can be made less. -/
theorem relax_ends (hS : Sit p room a lo k v) (hR : RI p a lo k v dist by' bk) :
    ∃ t : List Int × List Int × List Int, iter FU (fun s => m_route_search_add_L2 FU ⟨p, room, a, (lo : Int)⟩ s.1 s.2.1 s.2.2) (dist, by', bk) = some t ∧ RI p a lo k v t.1 t.2.1 t.2.2 ∧
      ∀ j, j < p.fRoom.length → gI t.1 j < FAR → ∀ i : Nat, lo ≤ i → i < a.length → Af a i = j → ∀ y, y < p.fRoom.length → Cf p i y ≠ -1 → gI t.1 y ≤ gI t.1 j - Cf p i j + Cf p i y := by
  have hm := hS.vp.r
  have bnd : ∀ d b k' : List Int, RI p a lo k v d b k' → 0 ≤ sumR (fun j => gI d j + v j) 0 p.fRoom.length ∧ sumR (fun j => gI d j + v j) 0 p.fRoom.length ≤ 2199023255552 * p.fRoom.length := fun d b k' h => by
    refine ⟨sumR_nn _ _ (fun j _ hj => h.nn j (by omega)), ?_⟩
    have := sumR_le p.fRoom.length 0 (f := fun j => gI d j + v j) (g := fun _ => 2199023255552) (fun j _ hj => by
      have := h.ln.r j (by omega)
      have := hS.vb j (by omega)
      dsimp only [FAR] at *
      omega)
    have e : ∀ (k lo : Nat), sumR (fun _ => (2199023255552 : Int)) lo k = 2199023255552 * k := by
      intro k
      induction k with
      | zero => intro lo; rfl
      | succ k ih => intro lo; rw [sumR, ih]; omega
    rw [e] at this
    exact this
  have b0 := bnd _ _ _ hR
  refine iter_inv (σ := List Int × List Int × List Int) (I := fun kk s => RI p a lo k v s.1 s.2.1 s.2.2 ∧ (kk : Int) = sumR (fun j => gI s.1 j + v j) 0 p.fRoom.length)
    (Q := fun t : List Int × List Int × List Int => RI p a lo k v t.1 t.2.1 t.2.2 ∧ ∀ j, j < p.fRoom.length → gI t.1 j < FAR → ∀ i : Nat, lo ≤ i → i < a.length → Af a i = j → ∀ y, y < p.fRoom.length → Cf p i y ≠ -1 → gI t.1 y ≤ gI t.1 j - Cf p i j + Cf p i y) (by
      rintro kk ⟨d, b, bk'⟩ ⟨h1, h2⟩
      dsimp only at h1 h2
      simp only [m_route_search_add_L2]
      obtain ⟨t, t1, t2⟩ := add_L3 (room := room) hS.vp h1.ln hS.al (show lo ≤ a.length by have := hS.lk; omega) hS.rl
      rw [t1, Option.bind_some]
      cases t with
      | inl u =>
        left
        obtain ⟨r1, r2⟩ := h1.step hS t2
        have := bnd _ _ _ r1
        exact ⟨_, (sumR (fun j => gI u.1 j + v j) 0 p.fRoom.length).toNat, rfl, by omega, r1, by dsimp only; omega⟩
      | inr u => exact .inr ⟨_, rfl, h1, t2⟩) (sumR (fun j => gI dist j + v j) 0 p.fRoom.length).toNat FU (dist, by', bk) ⟨hR, by dsimp only; omega⟩ (by simp only [FU]; omega)
end
end
section
/- A further request is added: what the function computes. Conditions: none. -/
open Go
section
variable {p : SProblem} {room a : List Int} {lo k : Nat} {v : Nat → Int} {dist by' bk : List Int}
theorem Sit.cnt_all (hS : Sit p room a lo k v) (j : Nat) : cnt (Af a) lo (a.length - lo) j = cnt (Af a) lo k j := by
  have hlk := hS.lk
  have : ∀ q, lo + (k + q) ≤ a.length → cnt (Af a) lo (k + q) j = cnt (Af a) lo k j := by
    intro q
    induction q with
    | zero => intro _; rfl
    | succ q ih =>
      intro h
      have e : cnt (Af a) lo (k + (q + 1)) j = cnt (Af a) lo (k + q) j + (if Af a (lo + (k + q)) = (j : Int) then 1 else 0) := by
        unfold cnt; rw [← Nat.add_assoc k, sumR_snoc]
      rw [e, ih (by omega), hS.rest _ (by omega) (by omega), if_neg (by omega)]; omega
  rw [show a.length - lo = k + (a.length - lo - k) by omega]
  exact this _ (by omega)
/-- The end of the way, and what it costs. -/
def EndAt (p : SProblem) (room a : List Int) (lo k : Nat) (dist : List Int) (L e out : Int) : Prop :=
  (e = -1 ∧ out = ((lo + k : Nat) : Int) ∧ L = p.fPenalty) ∨ (∃ j : Nat, e = j ∧ j < p.fRoom.length ∧ gI dist j < FAR ∧ out = -1 ∧ cnt (Af a) lo k j < gI room j ∧ L = gI dist j) ∨
    (∃ j i : Nat, e = j ∧ j < p.fRoom.length ∧ gI dist j < FAR ∧ out = i ∧ lo ≤ i ∧ i < lo + k ∧ Af a i = j ∧ L = gI dist j - Cf p i j + p.fPenalty)
theorem add_L7 (hS : Sit p room a lo k v) (hR : RI p a lo k v dist by' bk) {j : Nat} (hj : j < p.fRoom.length) {l : List Int} (hll : l.length ≤ 12) (hmem : ∀ x ∈ l, ∃ i : Nat, x = i ∧ lo ≤ i ∧ i < a.length ∧ Af a i = j)
    {L e out : Int} (_ : L ≤ p.fPenalty) (hE : EndAt p room a lo k dist L e out) :
    ∃ t : Int × Int × Int, iter FU (fun s => m_route_search_add_L7 FU ⟨p, room, a, (lo : Int)⟩ (dist, by', bk) (j : Int) l s.1 s.2.1 s.2.2.1 s.2.2.2) (L, e, out, (0 : Int)) = some t ∧ t.1 ≤ L ∧ EndAt p room a lo k dist t.1 t.2.1 t.2.2 ∧
      ∀ i : Nat, (i : Int) ∈ l → gI dist j < FAR → t.1 ≤ gI dist j - Cf p i j + p.fPenalty := by
  have hp1 := hS.vp.p1
  have hp2 := hS.vp.p2
  have hd := hR.ln.r j hj
  refine iter_inv (σ := Int × Int × Int × Int) (I := fun kk s => ∃ q : Nat, s.2.2.2 = q ∧ q + kk = l.length ∧ s.1 ≤ L ∧ EndAt p room a lo k dist s.1 s.2.1 s.2.2.1 ∧ ∀ z : Nat, z < q → ∀ i : Nat, gI l z = i → gI dist j < FAR → s.1 ≤ gI dist j - Cf p i j + p.fPenalty)
    (Q := fun t : Int × Int × Int => t.1 ≤ L ∧ EndAt p room a lo k dist t.1 t.2.1 t.2.2 ∧ ∀ i : Nat, (i : Int) ∈ l → gI dist j < FAR → t.1 ≤ gI dist j - Cf p i j + p.fPenalty) (by
      rintro kk ⟨L', e', o', z⟩ ⟨q, h1, h2, h3, h4, h5⟩
      dsimp only at h1 h3 h4 h5
      subst h1
      simp only [m_route_search_add_L7]
      by_cases hk : kk = 0
      · right
        refine ⟨(L', e', o'), by rw [decide_eq_false (by omega)]; rfl, h3, h4, fun i hi hf => ?_⟩
        obtain ⟨z, hz, hzi⟩ := List.getElem_of_mem hi
        exact h5 z (by omega) i (by simp [hz, hzi]) hf
      · left
        have hq : q < l.length := by omega
        obtain ⟨i, e1, i1, i2, i3⟩ := hmem (gI l q) (by simp [hq])
        have hal := hS.al
        have hrow := hS.vp.row i (by omega)
        have hco : -1 ≤ gI (p.fCosts.getD i []) j ∧ gI (p.fCosts.getD i []) j ≤ 10000 := hS.vp.co i j (by omega) hj
        rw [decide_eq_true (show (q : Int) < (l.length : Int) by omega), if_pos rfl, ixG hq, Option.bind_some, e1, ixG (show j < dist.length by rw [hR.ln.d]; exact hj)]
        simp only [Option.bind_some]
        rw [ixC (by omega), Option.bind_some, ixG (by omega)]
        simp only [Option.bind_some]
        rw [w64 (x := gI dist j - gI (p.fCosts.getD i []) j) (by dsimp only [FAR] at *; omega) (by dsimp only [FAR] at *; omega), w64 (x := gI dist j - gI (p.fCosts.getD i []) j + p.fPenalty) (by dsimp only [FAR] at *; omega) (by dsimp only [FAR] at *; omega), w64 (x := (q : Int) + 1) (by omega) (by omega)]
        have hCf : Cf p i j = gI (p.fCosts.getD i []) j := rfl
        have i4 : i < lo + k := by
          refine Nat.lt_of_not_le fun hle => ?_
          have := hS.rest i hle i2
          rw [i3] at this; omega
        by_cases hc : gI dist j < FAR ∧ gI dist j - gI (p.fCosts.getD i []) j + p.fPenalty < L'
        · rw [decide_eq_true hc.1, decide_eq_true hc.2]
          simp only [Bool.and_self, if_true, Option.bind_some]
          refine ⟨_, kk - 1, rfl, by omega, q + 1, by simp, by omega, by dsimp only; omega, .inr (.inr ⟨j, i, rfl, hj, hc.1, rfl, i1, i4, i3, rfl⟩), fun w hw u hu hf => ?_⟩
          by_cases hwq : w = q
          · subst hwq
            rw [e1] at hu
            obtain rfl : i = u := by omega
            exact Int.le_refl _
          · have := h5 w (by omega) u hu hf
            dsimp only; omega
        · have hc' : (decide (gI dist j < 1099511627776) && decide (gI dist j - gI (p.fCosts.getD i []) j + p.fPenalty < L')) = false := by
            rw [Bool.and_eq_false_iff, decide_eq_false_iff_not, decide_eq_false_iff_not]
            exact Classical.not_and_iff_not_or_not.1 hc
          rw [hc']
          simp only [Bool.false_eq_true, if_false, Option.bind_some]
          refine ⟨_, kk - 1, rfl, by omega, q + 1, by simp, by omega, h3, h4, fun w hw u hu hf => ?_⟩
          by_cases hwq : w = q
          · subst hwq
            rw [e1] at hu
            obtain rfl : i = u := by omega
            have : ¬ gI dist j - gI (p.fCosts.getD i []) j + p.fPenalty < L' := fun h => hc ⟨hf, h⟩
            rw [hCf]; dsimp only; omega
          · exact h5 w (by omega) u hu hf) l.length FU (L, e, out, 0) ⟨0, rfl, by omega, Int.le_refl _, hE, fun z hz => by omega⟩ (by simp only [FU]; omega)
theorem add_L6 (hS : Sit p room a lo k v) (hR : RI p a lo k v dist by' bk) :
    ∃ (L : Int) (t : Int × Int), iter FU (fun s => m_route_search_add_L6 FU ⟨p, room, a, (lo : Int)⟩ (dist, by', bk) s.1 s.2.1 s.2.2.1 s.2.2.2) (p.fPenalty, (-1 : Int), ((lo + k : Nat) : Int), (0 : Int)) = some t ∧ L ≤ p.fPenalty ∧ EndAt p room a lo k dist L t.1 t.2 ∧
      (∀ j, j < p.fRoom.length → gI dist j < FAR → cnt (Af a) lo k j < gI room j → L ≤ gI dist j) ∧ ∀ j, j < p.fRoom.length → gI dist j < FAR → ∀ i, lo ≤ i → i < lo + k → Af a i = (j : Int) → L ≤ gI dist j - Cf p i j + p.fPenalty := by
  have hp1 := hS.vp.p1
  have hp2 := hS.vp.p2
  have hm := hS.vp.r
  have hc := hS.vp.c
  have hal := hS.al
  have hlk := hS.lk
  have main := iter_inv (σ := Int × Int × Int × Int) (f := fun s => m_route_search_add_L6 FU ⟨p, room, a, (lo : Int)⟩ (dist, by', bk) s.1 s.2.1 s.2.2.1 s.2.2.2)
    (I := fun kk s => ∃ q : Nat, s.2.2.2 = q ∧ q + kk = p.fRoom.length ∧ s.1 ≤ p.fPenalty ∧ EndAt p room a lo k dist s.1 s.2.1 s.2.2.1 ∧
      (∀ j, j < q → gI dist j < FAR → cnt (Af a) lo k j < gI room j → s.1 ≤ gI dist j) ∧ ∀ j, j < q → gI dist j < FAR → ∀ i, lo ≤ i → i < lo + k → Af a i = (j : Int) → s.1 ≤ gI dist j - Cf p i j + p.fPenalty)
    (Q := fun t : Int × Int => ∃ L : Int, L ≤ p.fPenalty ∧ EndAt p room a lo k dist L t.1 t.2 ∧
      (∀ j, j < p.fRoom.length → gI dist j < FAR → cnt (Af a) lo k j < gI room j → L ≤ gI dist j) ∧ ∀ j, j < p.fRoom.length → gI dist j < FAR → ∀ i, lo ≤ i → i < lo + k → Af a i = (j : Int) → L ≤ gI dist j - Cf p i j + p.fPenalty) (by
      rintro kk ⟨L', e', o', z⟩ ⟨q, h1, h2, h3, h4, h5, h6⟩
      dsimp only at h1 h3 h4 h5 h6
      subst h1
      simp only [m_route_search_add_L6]
      by_cases hk : kk = 0
      · right
        exact ⟨(e', o'), by rw [decide_eq_false (by rw [hS.rl]; omega)]; rfl, L', h3, h4, fun j hj => h5 j (by omega), fun j hj => h6 j (by omega)⟩
      · left
        have hq : q < p.fRoom.length := by omega
        obtain ⟨l, l1, l2, l3, l4⟩ := asg (q := p) (room := room) (show a.length ≤ 12 by omega) (show lo ≤ a.length by omega) q
        rw [hS.cnt_all] at l4
        have hll : l.length ≤ 12 := by
          have := sumR_le k lo (f := fun i => if Af a i = (q : Int) then 1 else 0) (g := fun _ => 1) (fun i _ _ => by split <;> omega)
          have e : ∀ (k lo : Nat), sumR (fun _ => 1) lo k = k := by
            intro k
            induction k with
            | zero => intro lo; rfl
            | succ k ih => intro lo; rw [sumR, ih]; omega
          rw [e] at this
          unfold cnt at l4; omega
        have hdq := hR.ln.r q hq
        rw [decide_eq_true (show (q : Int) < (room.length : Int) by rw [hS.rl]; omega), if_pos rfl,
          show (⟨(⟨p.fCosts, p.fRoom, p.fPenalty⟩ : SProblem), room, a, (lo : Int)⟩ : Ssearch) = ⟨p, room, a, (lo : Int)⟩ from rfl, l1, Option.bind_some, ixG (show q < room.length by rw [hS.rl]; exact hq), Option.bind_some, ixG (show q < dist.length by rw [hR.ln.d]; exact hq)]
        obtain ⟨L1, e1, o1, hsel, g1, g2, g3⟩ : ∃ L1 e1 o1 : Int, ((if decide ((l.length : Int) < gI room q) = true then some (gI dist q) else some default).bind fun v15 => (if decide ((l.length : Int) < gI room q) = true then some (gI dist q) else some default).bind fun v16 =>
            if (decide ((l.length : Int) < gI room q) && decide (v16 < L')) = true then (some (gI dist q)).bind fun v17 => (some (gI dist q)).bind fun v18 => some (v18, (q : Int), (-1 : Int)) else some (L', e', o')) = some (L1, e1, o1) ∧ L1 ≤ L' ∧ EndAt p room a lo k dist L1 e1 o1 ∧ (gI dist q < FAR → cnt (Af a) lo k q < gI room q → L1 ≤ gI dist q) := by
          by_cases hr : (l.length : Int) < gI room q
          · by_cases hl : gI dist q < L'
            · exact ⟨gI dist q, q, -1, by simp [-List.getD_eq_getElem?_getD, hr, hl], by omega, .inr (.inl ⟨q, rfl, hq, by dsimp only [FAR]; omega, rfl, by rw [← l4]; exact hr, rfl⟩), fun _ _ => Int.le_refl _⟩
            · exact ⟨L', e', o', by simp [-List.getD_eq_getElem?_getD, hr, hl], Int.le_refl _, h4, fun _ _ => by omega⟩
          · exact ⟨L', e', o', by simp [-List.getD_eq_getElem?_getD, hr], Int.le_refl _, h4, fun _ h => by rw [← l4] at h; omega⟩
        rw [hsel, Option.bind_some]
        obtain ⟨t, t1, t2, t3, t4⟩ := add_L7 hS hR hq hll l2 (show L1 ≤ p.fPenalty by omega) g2
        rw [t1, Option.bind_some, wadd1 (show q < 12 by omega) (by decide)]
        refine ⟨_, kk - 1, rfl, by omega, q + 1, rfl, by omega, by dsimp only; omega, t3, fun j hj hf hcn => ?_, fun j hj hf i i1 i2 i3 => ?_⟩
        · dsimp only
          by_cases hjq : j = q
          · subst hjq
            have := g3 hf hcn; omega
          · have := h5 j (by omega) hf hcn; omega
        · dsimp only
          by_cases hjq : j = q
          · subst hjq
            exact t4 i (l3 i i1 (by omega) i3) hf
          · have := h6 j (by omega) hf i i1 i2 i3; omega) p.fRoom.length FU (p.fPenalty, -1, ((lo + k : Nat) : Int), 0) ⟨0, rfl, by omega, Int.le_refl _, .inl ⟨rfl, rfl, rfl⟩, fun j hj => by omega, fun j hj => by omega⟩ (by simp only [FU]; omega)
  obtain ⟨t, t1, L, t2⟩ := main
  exact ⟨L, t, t1, t2⟩
/-- What a further request leads to. -/
structure Good (p : SProblem) (room a : List Int) (lo k : Nat) : Prop where
  al : a.length = p.fCosts.length
  pm : Perm p.fRoom.length (Cf p) (Af a) lo k (gI room)
  ct : ∃ v : Nat → Int, Cert p.fRoom.length (Cf p) p.fPenalty v (Af a) lo k (gI room) ∧ ∀ j, j < p.fRoom.length → v j ≤ 10000 * k
  rest : ∀ i, lo + k ≤ i → i < a.length → Af a i = -1
theorem add_ok (hv : VP p) (hr : room.length = p.fRoom.length) (hG : Good p room a lo k) (hlk : lo + k < p.fCosts.length) :
    ∃ a', m_route_search_add FU ⟨p, room, a, (lo : Int)⟩ ((lo + k : Nat) : Int) = some ⟨p, room, a', (lo : Int)⟩ ∧ Good p room a' lo (k + 1) := by
  obtain ⟨v, hct, hvb⟩ := hG.ct
  have hm := hv.r
  have hc := hv.c
  have hp2 := hv.p2
  have hal := hG.al
  have hS : Sit p room a lo k v := ⟨hv, hr, hal, by omega, hG.pm, hct, fun j hj => by have := hvb j hj; omega, hG.rest⟩
  unfold m_route_search_add
  obtain ⟨⟨d0, b0⟩, i1, i2, i3, i4⟩ := add_init hv hlk (dist := List.replicate p.fRoom.length 1099511627776) (by' := List.replicate p.fRoom.length 0) (by simp) (by simp)
  dsimp only at i2 i3 i4
  rw [hr, rep_far _ (by omega), Option.bind_some, mkL_some (by decide) (by omega) (by omega), Option.bind_some, rep_neg _ (by omega), Option.bind_some, Int.toNat_natCast]
  dsimp only
  rw [ixC hlk, Option.bind_some, i1, Option.bind_some]
  dsimp only
  -- the start of the search
  have hfin : ∀ j, j < p.fRoom.length → gI d0 j < FAR → Cf p (lo + k) j ≠ -1 := fun j hj hf hcj => by
    rw [(i4 j hj).2 hcj, gI_rep hj] at hf
    exact absurd hf (by decide)
  have hcr : ∀ j, j < p.fRoom.length → Cf p (lo + k) j ≠ -1 → 0 ≤ Cf p (lo + k) j ∧ Cf p (lo + k) j ≤ 10000 := fun j hj hcj => by
    have : -1 ≤ Cf p (lo + k) j ∧ Cf p (lo + k) j ≤ 10000 := hv.co (lo + k) j hlk hj
    omega
  have hR0 : RI p a lo k v d0 b0 (List.replicate p.fRoom.length (-1)) := by
    refine ⟨⟨i2, i3, by simp, fun j hj => ?_⟩, fun j hj hcj => by rw [((i4 j hj).1 hcj).1]; exact Int.le_refl _, fun j hj => ?_, fun j hj hf => ?_, fun j hj hf => ⟨0, .root (gI_rep hj)⟩, fun j hj hf => ?_⟩
    · by_cases hcj : Cf p (lo + k) j = -1
      · rw [(i4 j hj).2 hcj, gI_rep hj]; decide
      · have := hcr j hj hcj
        rw [((i4 j hj).1 hcj).1]; dsimp only [FAR]; omega
    · have := hct.nn j hj
      by_cases hcj : Cf p (lo + k) j = -1
      · rw [(i4 j hj).2 hcj, gI_rep hj]; omega
      · have := hcr j hj hcj
        rw [((i4 j hj).1 hcj).1]; omega
    · have hcj := hfin j hj hf
      have := hcr j hj hcj
      have h1 : 1 ≤ nf p d0 := by
        have := sumR_le p.fRoom.length 0 (f := fun z => if z = j then (1 : Int) else 0) (g := fun z => if gI d0 z < FAR then 1 else 0) (fun z _ _ => by
          by_cases hz : z = j
          · subst hz; rw [if_pos rfl, if_pos hf]; exact Int.le_refl _
          · rw [if_neg hz]; split <;> omega)
        rw [sumR_one, if_pos (by omega)] at this
        exact this
      rw [((i4 j hj).1 hcj).1]; omega
    · have hcj := hfin j hj hf
      exact .inl ⟨gI_rep hj, ((i4 j hj).1 hcj).2, ((i4 j hj).1 hcj).1, hcj⟩
  obtain ⟨⟨d, b, bk⟩, r1, hR, hno⟩ := relax_ends hS hR0
  dsimp only at hR hno
  rw [r1, Option.bind_some]
  obtain ⟨L, ⟨e, out⟩, e1, hL, hE, hl1, hl2⟩ := add_L6 hS hR
  rw [e1, Option.bind_some]
  dsimp only at hE ⊢
  have hnf : nf p d ≤ p.fRoom.length := by
    have := sumR_le p.fRoom.length 0 (f := fun z => if gI d z < FAR then (1 : Int) else 0) (g := fun _ => 1) (fun z _ _ => by split <;> omega)
    have e : ∀ (k lo : Nat), sumR (fun _ => 1) lo k = k := by
      intro k
      induction k with
      | zero => intro lo; rfl
      | succ k ih => intro lo; rw [sumR, ih]; omega
    rw [e] at this
    exact this
  have hD : Dist p.fRoom.length (Cf p) p.fPenalty (Af a) lo k (gI room) (fun j => gI d j < FAR) (gI d) L := by
    refine ⟨fun j hj hcj => ?_, fun j hj hf i h1 h2 h3 y hy hcy => ?_, hL, fun j hj hf hcn => hl1 j hj hf hcn, fun j hj hf i h1 h2 h3 => hl2 j hj hf i h1 h2 h3⟩
    · have := hR.d0 j hj hcj
      have := hcr j hj hcj
      exact ⟨by dsimp only [FAR]; omega, hR.d0 j hj hcj⟩
    · have h4 := hno j hj hf i h1 (by omega) h3 y hy hcy
      have h5 := hR.ub j hj hf
      have h6 := (hS.tight h1 h2 h3 hy hcy).2.1
      have h7 : -1 ≤ Cf p i y ∧ Cf p i y ≤ 10000 := hv.co i y (by omega) hy
      exact ⟨by dsimp only [FAR]; omega, h4⟩
  have hTree : ∀ j, j < p.fRoom.length → gI d j < FAR → Tree p.fRoom.length (Cf p) (Af a) lo k (fun j => gI d j < FAR) (gI d) (gI bk) (gI b) (hgt bk) j := fun j hj hf => by
    rcases hR.ed j hj hf with ⟨b1, b2, b3, b4⟩ | ⟨j', i, b1, b2, b3, b4, b5, b6, b7, b8, b9⟩
    · exact .inl ⟨b1, b2, b3, b4⟩
    · have h4 := hno j' b3 b4 i b5 (by omega) b7 j hj b8
      obtain ⟨n, hn⟩ := hR.rt j' b3 b4
      refine .inr ⟨j', i, b1, b2, b3, b4, b5, b6, b7, b8, by omega, ?_⟩
      rw [hgt_eq hn, hgt_eq (.step b1 hn)]; omega
  have hheight : ∀ j, j < p.fRoom.length → gI d j < FAR → hgt bk j < 12 := fun j hj hf => by
    obtain ⟨n, hn⟩ := hR.rt j hj hf
    obtain ⟨Ls, l1, l2, l3, _⟩ := hn.list (m := p.fRoom.length) (F := fun j => j < p.fRoom.length ∧ gI d j < FAR) (fun z hz => ⟨hz.1, fun j' hj' => by
      rcases hR.ed z hz.1 hz.2 with ⟨b1, _⟩ | ⟨j2, i, b1, b2, b3, b4, _⟩
      · rw [hj'] at b1; omega
      · rw [hj'] at b1
        obtain rfl : j' = j2 := by omega
        exact ⟨b3, b4⟩⟩) ⟨hj, hf⟩
    have := nodup_len _ Ls l2 l3
    rw [hgt_eq hn]; omega
  -- the end is given up
  have hAr : Af a (lo + k) = -1 := hG.rest (lo + k) (Nat.le_refl _) (by omega)
  obtain ⟨a1, ha1, hal1, hB1⟩ : ∃ a1, (if (!decide (out = -1)) = true then (ix a out).bind fun v10 => (setI a out (-1)).bind fun v11 => some v11 else some a : Option (List Int)) = some a1 ∧ a1.length = a.length ∧ ∀ i : Nat, Af a1 i = if out = (i : Int) then -1 else Af a i := by
    by_cases ho : out = -1
    · exact ⟨a, by simp [ho], rfl, fun i => by rw [if_neg (by omega)]⟩
    · obtain ⟨o, rfl, hol⟩ : ∃ o : Nat, out = (o : Int) ∧ o < a.length := by
        rcases hE with ⟨_, h, _⟩ | ⟨j, _, _, _, h, _⟩ | ⟨j, i, _, _, _, h, _, h2, _⟩
        · exact ⟨_, h, by omega⟩
        · exact absurd h ho
        · exact ⟨i, h, by omega⟩
      refine ⟨a.set o (-1), ?_, by simp, fun i => ?_⟩
      · rw [decide_eq_false ho, ixA hol, setG hol]; rfl
      · rw [Af_set hol]
        by_cases hoi : o = i
        · subst hoi; rw [if_pos rfl, if_pos rfl]
        · rw [if_neg hoi, if_neg (by omega)]
  rw [ha1, Option.bind_some]
  have hM0 := Mid.start (h := hgt bk) (B := Af a1) (e := e) (out := out) hG.pm hct hD (fun i h1 h2 => hB1 i) (by rw [hB1]; split <;> first | rfl | exact hAr) hE
  obtain ⟨a2, q1, q2, q3, q4⟩ := iter_inv (σ := Int × List Int) (f := fun s => m_route_search_add_L8 FU (d, b, bk) s.1 s.2)
    (I := fun kk s => Mid p.fRoom.length (Cf p) p.fPenalty (Af a) lo k (gI room) (fun j => gI d j < FAR) v (gI d) L (hgt bk) (Af s.2) s.1 ∧ s.2.length = a.length ∧ (∀ i, lo + (k + 1) ≤ i → i < a.length → Af s.2 i = -1) ∧ (s.1 = -1 ∨ ∃ j : Nat, s.1 = j ∧ kk = hgt bk j + 1))
    (Q := fun t => Mid p.fRoom.length (Cf p) p.fPenalty (Af a) lo k (gI room) (fun j => gI d j < FAR) v (gI d) L (hgt bk) (Af t) (-1) ∧ t.length = a.length ∧ (∀ i, lo + (k + 1) ≤ i → i < a.length → Af t i = -1)) (by
      rintro kk ⟨x, l⟩ ⟨h1, h2, h3, h4⟩
      dsimp only at h1 h2 h3 h4
      simp only [m_route_search_add_L8]
      rcases h4 with rfl | ⟨j, rfl, rfl⟩
      · right
        exact ⟨l, by simp, h1, h2, h3⟩
      · left
        obtain ⟨hj, hf, _⟩ := h1.hx j rfl
        have hT := hTree j hj hf
        obtain ⟨s1, s2⟩ := h1.step hG.pm hct hD hT
        obtain ⟨i, hi, hib⟩ : ∃ i : Nat, gI b j = i ∧ i < lo + (k + 1) := by
          rcases hT with ⟨_, b2, _⟩ | ⟨j', i, _, b2, _, _, _, b6, _⟩
          · exact ⟨_, b2, by omega⟩
          · exact ⟨i, b2, by omega⟩
        have hil : i < l.length := by omega
        rw [hi, Int.toNat_natCast] at s2
        have hfun : Af (l.set i (j : Int)) = updA (Af l) i (j : Int) := by
          funext z
          rw [Af_set hil]
          unfold updA
          by_cases hz : z = i
          · subst hz; simp
          · rw [if_neg (Ne.symm hz), if_neg hz]
        rw [decide_eq_false (show ¬ (j : Int) = -1 by omega)]
        simp only [Bool.not_false, if_true]
        rw [ixG (by rw [hR.ln.b]; exact hj)]
        simp only [Option.bind_some]
        rw [hi, ixA hil, Option.bind_some, setG hil, Option.bind_some, ixG (by rw [hR.ln.k]; exact hj)]
        simp only [Option.bind_some]
        have hrest : ∀ z, lo + (k + 1) ≤ z → z < a.length → Af (l.set i (j : Int)) z = -1 := fun z hz hz2 => by
          rw [Af_set hil, if_neg (by omega)]; exact h3 z hz hz2
        rcases hT with ⟨b1, _⟩ | ⟨j', i', b1, _, b3, b4, _, _, _, _, _, b10⟩
        · exact ⟨_, 0, rfl, by omega, by dsimp only; rw [hfun]; exact s2, by simp [h2], hrest, .inl b1⟩
        · exact ⟨_, hgt bk j' + 1, rfl, by omega, by dsimp only; rw [hfun]; exact s2, by simp [h2], hrest, .inr ⟨j', b1, rfl⟩⟩) (if e = -1 then 0 else hgt bk e.toNat + 1) FU (e, a1) ⟨hM0, hal1, fun i h1 h2 => by
        dsimp only
        rw [hB1, hG.rest i (by omega) h2]; split <;> rfl, by
        rcases hE with ⟨h, _⟩ | ⟨j, h, _⟩ | ⟨j, i, h, _⟩
        · exact .inl h
        · subst h; exact .inr ⟨j, rfl, by rw [if_neg (by omega)]; rfl⟩
        · subst h; exact .inr ⟨j, rfl, by rw [if_neg (by omega)]; rfl⟩⟩ (by
        rcases hE with ⟨h, _⟩ | ⟨j, h, h2, h3, _⟩ | ⟨j, i, h, h2, h3, _⟩
        · rw [if_pos h]; decide
        · subst h
          have := hheight j h2 h3
          rw [if_neg (by omega), Int.toNat_natCast]
          simp only [FU]; omega
        · subst h
          have := hheight j h2 h3
          rw [if_neg (by omega), Int.toNat_natCast]
          simp only [FU]; omega)
  rw [q1, Option.bind_some]
  obtain ⟨f1, f2⟩ := q2.done hct
  refine ⟨a2, rfl, by rw [q3, hal], f1, ⟨_, f2, fun j hj => ?_⟩, fun i h1 h2 => q4 i h1 (by omega)⟩
  have hvj := hvb j hj
  have hnn := hR.nn j hj
  rcases (up_ge (v := v) (d := gI d) (F := fun j => gI d j < FAR) (L := L) j).2.2 with e | ⟨_, e⟩
  · rw [e]; omega
  · rw [e]; omega
end
end
section
/- The least cost of the requests from some one on. Conditions: none. -/
open Go
section
variable {p : SProblem} {room a : List Int} {lo k : Nat}
theorem cst_bound (hv : VP p) {i : Nat} {x : Int} (hi : i < p.fCosts.length) (hx : okX p.fRoom.length (Cf p) i x) : 0 ≤ cst (Cf p) p.fPenalty i x ∧ cst (Cf p) p.fPenalty i x ≤ 10000 := by
  have h1 := hv.p1
  have h2 := hv.p2
  rcases okX_cases hx with rfl | ⟨j, rfl, hj, hc⟩
  · rw [cst_n]; omega
  · have : -1 ≤ Cf p i j ∧ Cf p i j ≤ 10000 := hv.co i j hi hj
    rw [cst_j]; omega
theorem costA_bound (hv : VP p) {A : Nat → Int} {lo : Nat} : ∀ k, lo + k ≤ p.fCosts.length → (∀ i, lo ≤ i → i < lo + k → okX p.fRoom.length (Cf p) i (A i)) → 0 ≤ costA (Cf p) p.fPenalty A lo k ∧ costA (Cf p) p.fPenalty A lo k ≤ 10000 * k
  | 0, _, _ => by simp [costA, sumR]
  | k + 1, h, hx => by
    have ih := costA_bound hv k (by omega) (fun i h1 h2 => hx i h1 (by omega))
    have := cst_bound hv (show lo + k < p.fCosts.length by omega) (hx (lo + k) (by omega) (by omega))
    unfold costA at *
    rw [sumR_snoc]; omega
theorem good0 (hn : ∀ j, j < p.fRoom.length → 0 ≤ gI room j) : Good p room (List.replicate p.fCosts.length (-1)) lo 0 := by
  have hrep : ∀ i, i < p.fCosts.length → Af (List.replicate p.fCosts.length (-1)) i = -1 := fun i hi => by simp [hi]
  refine ⟨by simp, ⟨fun i h1 h2 => by omega, fun j hj => by simpa [cnt, sumR] using hn j hj⟩, ⟨fun _ => 0, ⟨fun j _ => Int.le_refl _, fun j _ _ => rfl, fun i h1 h2 => by omega⟩, fun j _ => by simp⟩, fun i h1 h2 => hrep i (by simpa using h2)⟩
theorem least_ok (hv : VP p) (hr : room.length = p.fRoom.length) (hn : ∀ j, j < p.fRoom.length → 0 ≤ gI room j) (hlo : lo ≤ p.fCosts.length) :
    ∃ a, Good p room a lo (p.fCosts.length - lo) ∧ m_route_Problem_least FU p (lo : Int) room = some (costA (Cf p) p.fPenalty (Af a) lo (p.fCosts.length - lo)) := by
  have hc := hv.c
  have hp1 := hv.p1
  have hp2 := hv.p2
  unfold m_route_Problem_least
  rw [rep_neg _ (by omega), Option.bind_some]
  obtain ⟨t, h1, a, rfl, hG⟩ := iter_inv (σ := Int × List Int × List (List Int) × List Int × Int × List Int × Int) (τ := List Int × List (List Int) × List Int × Int × List Int × Int)
    (f := fun s => m_route_Problem_least_L1 FU p s.1 s.2.1 s.2.2.1 s.2.2.2.1 s.2.2.2.2.1 s.2.2.2.2.2.1 s.2.2.2.2.2.2)
    (I := fun kk s => ∃ (k : Nat) (a : List Int), s = (((lo + k : Nat) : Int), a, p.fCosts, p.fRoom, p.fPenalty, room, (lo : Int)) ∧ lo + k + kk = p.fCosts.length ∧ Good p room a lo k)
    (Q := fun t => ∃ a, t = (a, p.fCosts, p.fRoom, p.fPenalty, room, (lo : Int)) ∧ Good p room a lo (p.fCosts.length - lo)) (by
      rintro kk s ⟨k, a, rfl, h2, hG⟩
      simp only [m_route_Problem_least_L1]
      by_cases hk : kk = 0
      · right
        refine ⟨_, by rw [decide_eq_false (by omega)]; rfl, a, rfl, ?_⟩
        rw [show p.fCosts.length - lo = k by omega]; exact hG
      · left
        obtain ⟨a', g1, g2⟩ := add_ok hv hr hG (by omega)
        rw [decide_eq_true (show ((lo + k : Nat) : Int) < (p.fCosts.length : Int) by omega), if_pos rfl, show (⟨(⟨p.fCosts, p.fRoom, p.fPenalty⟩ : SProblem), room, a, (lo : Int)⟩ : Ssearch) = ⟨p, room, a, (lo : Int)⟩ from rfl, g1, Option.bind_some, wadd1 (show lo + k < 12 by omega) (by decide)]
        exact ⟨_, kk - 1, rfl, by omega, k + 1, a', rfl, by omega, g2⟩) (p.fCosts.length - lo) FU ((lo : Int), List.replicate p.fCosts.length (-1), p.fCosts, p.fRoom, p.fPenalty, room, (lo : Int)) ⟨0, _, rfl, by omega, good0 hn⟩ (by simp only [FU]; omega)
  rw [h1, Option.bind_some]
  obtain ⟨t, t1, t2⟩ := iter_inv (σ := Int × Int) (τ := Int) (f := fun s => m_route_Problem_least_L2 FU p (a, p.fCosts, p.fRoom, p.fPenalty, room, (lo : Int)) s.1 s.2)
    (I := fun kk s => ∃ k : Nat, s = (costA (Cf p) p.fPenalty (Af a) lo k, ((lo + k : Nat) : Int)) ∧ lo + k + kk = p.fCosts.length)
    (Q := fun t => t = costA (Cf p) p.fPenalty (Af a) lo (p.fCosts.length - lo)) (by
      rintro kk s ⟨k, rfl, h2⟩
      simp only [m_route_Problem_least_L2]
      by_cases hk : kk = 0
      · right
        refine ⟨_, by rw [decide_eq_false (by omega)]; rfl, ?_⟩
        rw [show p.fCosts.length - lo = k by omega]
      · left
        have hal := hG.al
        have hlk : lo + k < a.length := by omega
        have hx := hG.pm.ok (lo + k) (by omega) (by omega)
        have hb := costA_bound hv (A := Af a) k (by omega) (fun i i1 i2 => hG.pm.ok i i1 (by omega))
        have hcb := cst_bound hv (show lo + k < p.fCosts.length by omega) hx
        have hs : costA (Cf p) p.fPenalty (Af a) lo (k + 1) = costA (Cf p) p.fPenalty (Af a) lo k + cst (Cf p) p.fPenalty (lo + k) (Af a (lo + k)) := by
          unfold costA; rw [sumR_snoc]
        rw [decide_eq_true (show ((lo + k : Nat) : Int) < (p.fCosts.length : Int) by omega), if_pos rfl, ixA hlk]
        simp only [Option.bind_some]
        have hstep : (if decide (Af a (lo + k) = -1) = true then some (IntKind.i64.wrap (costA (Cf p) p.fPenalty (Af a) lo k + p.fPenalty)) else (ix p.fCosts ((lo + k : Nat) : Int)).bind fun v10 => (ix v10 (Af a (lo + k))).bind fun v11 => some (IntKind.i64.wrap (costA (Cf p) p.fPenalty (Af a) lo k + v11))) = some (costA (Cf p) p.fPenalty (Af a) lo (k + 1)) := by
          rw [hs]
          rcases okX_cases hx with e | ⟨j, e, hj, hcj⟩
          · rw [e, cst_n]
            simp only [decide_true, if_true]
            rw [w64 (by omega) (by omega)]
          · rw [e, cst_j] at hcb ⊢
            rw [decide_eq_false (show ¬ (j : Int) = -1 by omega)]
            simp only [Bool.false_eq_true, if_false]
            rw [ixC (by omega), Option.bind_some, ixG (by rw [hv.row _ (by omega)]; exact hj), Option.bind_some]
            have : gI (p.fCosts.getD (lo + k) []) j = Cf p (lo + k) j := rfl
            rw [this, w64 (by omega) (by omega)]
        rw [hstep, Option.bind_some, wadd1 (show lo + k < 12 by omega) (by decide)]
        exact ⟨_, kk - 1, rfl, by omega, k + 1, rfl, by omega⟩) (p.fCosts.length - lo) FU (0, (lo : Int)) ⟨0, by simp [costA, sumR], by omega⟩ (by simp only [FU]; omega)
  rw [t1, Option.bind_some, t2]
  exact ⟨a, hG, rfl⟩

/-- The least cost of the requests from some one on, with some room. -/
def IsOpt (p : SProblem) (room : Nat → Int) (lo : Nat) (N : Int) : Prop :=
  (∃ A, Perm p.fRoom.length (Cf p) A lo (p.fCosts.length - lo) room ∧ costA (Cf p) p.fPenalty A lo (p.fCosts.length - lo) = N) ∧
  ∀ B, Perm p.fRoom.length (Cf p) B lo (p.fCosts.length - lo) room → N ≤ costA (Cf p) p.fPenalty B lo (p.fCosts.length - lo)
theorem least_opt (hv : VP p) (hr : room.length = p.fRoom.length) (hn : ∀ j, j < p.fRoom.length → 0 ≤ gI room j) (hlo : lo ≤ p.fCosts.length) :
    ∃ N, m_route_Problem_least FU p (lo : Int) room = some N ∧ IsOpt p (gI room) lo N := by
  obtain ⟨a, hG, h⟩ := least_ok hv hr hn hlo
  obtain ⟨v, hct, _⟩ := hG.ct
  exact ⟨_, h, ⟨_, hG.pm, rfl⟩, fun B hB => (hct.least hG.pm hB).1⟩
theorem IsOpt.uniq {room : Nat → Int} {N N' : Int} (h : IsOpt p room lo N) (h' : IsOpt p room lo N') : N = N' := by
  obtain ⟨⟨A, hA, e⟩, h2⟩ := h
  obtain ⟨⟨A', hA', e'⟩, h2'⟩ := h'
  have := h2 A' hA'
  have := h2' A hA
  omega
theorem IsOpt.bound (hv : VP p) {room : Nat → Int} {N : Int} (h : IsOpt p room lo N) (hlo : lo ≤ p.fCosts.length) : 0 ≤ N ∧ N ≤ 120000 := by
  obtain ⟨⟨A, hA, e⟩, _⟩ := h
  have := costA_bound hv (A := A) (lo := lo) (p.fCosts.length - lo) (by omega) hA.ok
  have := hv.c
  omega
/-- The room that a choice leaves. -/
def less (room : Nat → Int) (x : Int) (j : Nat) : Int := room j - (if x = (j : Int) then 1 else 0)
theorem cnt_cons {A : Nat → Int} {lo k j : Nat} : cnt A lo (k + 1) j = (if A lo = (j : Int) then 1 else 0) + cnt A (lo + 1) k j := rfl
theorem costA_cons {C : Nat → Nat → Int} {pen : Int} {A : Nat → Int} {lo k : Nat} : costA C pen A lo (k + 1) = cst C pen lo (A lo) + costA C pen A (lo + 1) k := rfl
theorem Perm.tail {m : Nat} {C : Nat → Nat → Int} {A : Nat → Int} {lo k : Nat} {room : Nat → Int} (h : Perm m C A lo (k + 1) room) : okX m C lo (A lo) ∧ Perm m C A (lo + 1) k (less room (A lo)) := by
  refine ⟨h.ok lo (Nat.le_refl _) (by omega), fun i h1 h2 => h.ok i (by omega) (by omega), fun j hj => ?_⟩
  have := h.rm j hj
  rw [cnt_cons] at this
  unfold less; omega
theorem Perm.cons {m : Nat} {C : Nat → Nat → Int} {A : Nat → Int} {lo k : Nat} {room : Nat → Int} {x : Int} (hx : okX m C lo x) (h : Perm m C A (lo + 1) k (less room x)) :
    Perm m C (updA A lo x) lo (k + 1) room ∧ ∀ pen, costA C pen (updA A lo x) lo (k + 1) = cst C pen lo x + costA C pen A (lo + 1) k := by
  have e0 : updA A lo x lo = x := if_pos rfl
  have e1 : ∀ i, lo + 1 ≤ i → updA A lo x i = A i := fun i hi => if_neg (by omega)
  have ec : ∀ j, cnt (updA A lo x) (lo + 1) k j = cnt A (lo + 1) k j := fun j => sumR_congr k (lo + 1) (fun i a _ => by rw [e1 i a])
  refine ⟨⟨fun i h1 h2 => ?_, fun j hj => ?_⟩, fun pen => ?_⟩
  · by_cases hi : i = lo
    · subst hi; rw [e0]; exact hx
    · rw [e1 i (by omega)]; exact h.ok i (by omega) (by omega)
  · have := h.rm j hj
    rw [cnt_cons, e0, ec]
    unfold less at this; omega
  · rw [costA_cons, e0]
    congr 1
    exact sumR_congr k (lo + 1) (fun i a _ => by rw [e1 i a])
/-- One choice after the other. -/
theorem IsOpt.first {room : Nat → Int} {N : Int} (hlo : lo < p.fCosts.length) (h : IsOpt p room lo N) :
    (∃ x, okX p.fRoom.length (Cf p) lo x ∧ (∀ j, j < p.fRoom.length → x = (j : Int) → 1 ≤ room j) ∧ IsOpt p (less room x) (lo + 1) (N - cst (Cf p) p.fPenalty lo x)) ∧
    ∀ x N', okX p.fRoom.length (Cf p) lo x → IsOpt p (less room x) (lo + 1) N' → N ≤ cst (Cf p) p.fPenalty lo x + N' := by
  obtain ⟨⟨A, hA, e⟩, h2⟩ := h
  have hk : p.fCosts.length - lo = p.fCosts.length - (lo + 1) + 1 := by omega
  rw [hk] at hA e h2
  have hext : ∀ x B, okX p.fRoom.length (Cf p) lo x → Perm p.fRoom.length (Cf p) B (lo + 1) (p.fCosts.length - (lo + 1)) (less room x) → N ≤ cst (Cf p) p.fPenalty lo x + costA (Cf p) p.fPenalty B (lo + 1) (p.fCosts.length - (lo + 1)) := fun x B hx hB => by
    obtain ⟨c1, c2⟩ := hB.cons hx
    have := h2 _ c1
    rwa [c2] at this
  constructor
  · obtain ⟨t1, t2⟩ := hA.tail
    refine ⟨A lo, t1, fun j hj hjx => ?_, ⟨A, t2, ?_⟩, fun B hB => ?_⟩
    · have := hA.rm j hj
      rw [cnt_cons, if_pos hjx] at this
      have := cnt_nn (A := A) (lo := lo + 1) (k := p.fCosts.length - (lo + 1)) (j := j)
      omega
    · rw [costA_cons] at e; omega
    · have := hext _ B t1 hB; omega
  · rintro x N' hx ⟨⟨B, hB, eB⟩, _⟩
    have := hext x B hx hB
    omega
end
end
end Go.Proofs.Ythjinjinnklkgaa.Ab
