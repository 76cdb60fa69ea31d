/- Plain laws, joined. Conditions: none. -/
import Derived.Test.YtkfffaoopcnaoaaAb43
namespace Go.Proofs.Ytkfffaoopcnaoaa.Ab
section
/- Maps of growing lists. Conditions: none. -/
open Go

/-! ### the plain language -/
section
variable {κ α : Type} [DecidableEq κ]
def mtouch (m : List (κ × List α)) (k : κ) : List (κ × List α) := if (mfind m k).isSome then m else m ++ [(k, [])]
def mpos (m : List (κ × List α)) (k : κ) : Nat := (mfind m k).getD m.length
def lget (L : List (κ × Nat × Nat)) (k : κ) : Option (Nat × Nat) := (L.find? fun y => decide (y.1 = k)).map (·.2)
def rowOf (f : α → D) (L : List (κ × Nat × Nat)) (q : κ × List α) : RowD := match lget L q.1 with
  | some y => .lent y.1 y.2
  | none => .own (q.2.map f)
def rmR (f : α → D) (m : List (κ × List α)) (L : List (κ × Nat × Nat)) : List RowD := m.map (rowOf f L)
def rmZ (m : List (κ × List α)) (L : List (κ × Nat × Nat)) : List Nat := (L.filter fun y => (mfind m y.1).isNone).map (·.2.1)
theorem mfind_none {m : List (κ × List α)} {k : κ} : mfind m k = none ↔ ∀ q ∈ m, q.1 ≠ k := by
  induction m with
  | nil => simp [mfind]
  | cons x m ih =>
    unfold mfind
    by_cases h : k = x.1
    · rw [if_pos h]; simp [h]
    · rw [if_neg h, Option.map_eq_none_iff, ih]
      simp [Ne.symm h]
theorem mfind_at {m : List (κ × List α)} {i : Nat} {q : κ × List α} (hn : (m.map Prod.fst).Nodup) (h : m[i]? = some q) : mfind m q.1 = some i := by
  cases hf : mfind m q.1 with
  | none => exact absurd rfl (mfind_none.1 hf q (List.mem_of_getElem? h))
  | some j =>
    obtain ⟨x, h1, h2⟩ := mfind_lt hf
    congr 1
    have hj := (List.getElem?_eq_some_iff.1 h1).1
    have hi := (List.getElem?_eq_some_iff.1 h).1
    have e : (m.map Prod.fst)[j]'(by simpa using hj) = (m.map Prod.fst)[i]'(by simpa using hi) := by
      have a1 := (List.getElem?_eq_some_iff.1 h1).2
      have a2 := (List.getElem?_eq_some_iff.1 h).2
      simp only [List.getElem_map, a1, a2, h2]
    have hp := List.pairwise_iff_getElem.1 hn
    rcases Nat.lt_trichotomy j i with h3 | h3 | h3
    · exact absurd e (hp j i _ _ h3)
    · exact h3
    · exact absurd e.symm (hp i j _ _ h3)
theorem nodup_touch {m : List (κ × List α)} {k : κ} (h : (m.map Prod.fst).Nodup) : ((mtouch m k).map Prod.fst).Nodup := by
  unfold mtouch
  split
  · exact h
  · rename_i hs
    have hn : mfind m k = none := by simpa using hs
    rw [List.map_append, List.nodup_append]
    refine ⟨h, by simp, fun a ha b hb => ?_⟩
    simp at hb; subst hb
    obtain ⟨q, hq, rfl⟩ := List.mem_map.1 ha
    exact mfind_none.1 hn q hq
end

/-! ### the container -/
def mpC (K : List D) (Z : List Nat) (P : Prop) : Cont where
  C := fun g w _ b Vs => P ∧ (∃ es : Array MapEntry, w.heap[b]? = some (.map es K.length) ∧ es.size = K.length ∧ Vs.length = K.length ∧ ∀ (i : Nat) x en v, K[i]? = some x → es[i]? = some en → Vs[i]? = some v → en.born = i ∧ RepD g.Pr w x en.key ∧ en.val = hdV v) ∧
    ∀ n ∈ Z, ∃ m a cap, g.τ n = some (m, a, cap) ∧ (m = 0 → a = none ∧ cap = 0)
  st := fun he _ hb ⟨p, ⟨es, h1, h2, h3, h4⟩, h5⟩ => ⟨p, ⟨es, hb.trans h1, h2, h3, fun i x en v hx hn hv => ⟨(h4 i x en v hx hn hv).1, (h4 i x en v hx hn hv).2.1.mono he.pr, (h4 i x en v hx hn hv).2.2⟩⟩, fun n hn => by
    obtain ⟨m, a, cap, q1, q2⟩ := h5 n hn
    obtain ⟨m', a', cap', k1, k2⟩ := he.τ n m a cap q1
    refine ⟨m', a', cap', k1, fun h0 => ?_⟩
    rcases k2 with k2 | ⟨r1, r2, r3⟩
    · omega
    · subst r2; subst r3; exact q2 (by omega)⟩
section
variable {κ α : Type} [DecidableEq κ] {fk : κ → D} {f : α → D} {e : TypeId}
def rmO (fk : κ → D) (f : α → D) (e : TypeId) (m : List (κ × List α)) (L : List (κ × Nat × Nat)) : OB := cO (mpC (m.map fun q => fk q.1) (rmZ m L) (m.map Prod.fst).Nodup) e (rmR f m L)
theorem rmR_get {m : List (κ × List α)} {L : List (κ × Nat × Nat)} {i : Nat} {r : RowD} (h : (rmR f m L)[i]? = some r) : ∃ q, m[i]? = some q ∧ r = rowOf f L q := by
  simp only [rmR, List.getElem?_map, Option.map_eq_some_iff] at h
  obtain ⟨q, h1, h2⟩ := h
  exact ⟨q, h1, h2.symm⟩
theorem rmR_at {m : List (κ × List α)} {L : List (κ × Nat × Nat)} {i : Nat} {q : κ × List α} (h : m[i]? = some q) : (rmR f m L)[i]? = some (rowOf f L q) := by simp [rmR, h]
/-- The container changes, and the rows as heads; the memory of the rows does not. -/
theorem WOK.reC {g : G} {w : World} {H : List HE} {id : Nat} {C C' : Cont} {R R' : List RowD} (hw : WOK g w H) (hH : H[id]? = some (.ob (cO C e R)))
    (h : ∀ b Vs, g.σ id = some b → CAt C e R g w id b Vs → C'.C g w id b Vs ∧ R' = R) : WOK g w (H.set id (.ob (cO C' e R'))) := by
  obtain ⟨b, k1, ⟨Vs, k2⟩, _⟩ := hw.ob id _ hH
  obtain ⟨h1, h2⟩ := h b Vs k1 k2
  exact (hw.setOb (x1 := cO C' e R') hH k1 ⟨rfl, rfl, rfl⟩ rfl (fun _ _ => rfl) (fun _ => ⟨Vs, k2.nob, h1, by rw [h2]; exact k2.len, by rw [h2]; exact k2.row, by rw [h2]; exact k2.dis⟩)).1
theorem nodup_of {g : G} {w : World} {H : List HE} {id : Nat} {m : List (κ × List α)} {L : List (κ × Nat × Nat)} (hw : WOK g w H) (hH : H[id]? = some (.ob (rmO fk f e m L))) : (m.map Prod.fst).Nodup := by
  obtain ⟨b, k1, ⟨Vs, k2⟩, _⟩ := hw.ob id _ hH
  exact k2.c.1
end

section
variable {F : FC} {E : Nat → V} {H : List HE} {κ α : Type} [DecidableEq κ] {fk : κ → D} {f : α → D} {e : TypeId} {m : List (κ × List α)} {L : List (κ × Nat × Nat)}
/-- A map without entries is one of lists. -/
theorem Gh.toRm {id : Nat} (hH : H[id]? = some (.ob (mpO []))) : Gh F ⟨E, H⟩ ⟨E, H.set id (.ob (rmO fk f e [] []))⟩ := by
  refine Gh.wok fun g w hw => ?_
  have hnlt : id < H.length := (List.getElem?_eq_some_iff.1 hH).1
  obtain ⟨b, k1, ⟨es, k2, k5, _⟩, k3, k4⟩ := hw.ob id _ hH
  let g2 : G := { g with υ := fun i b' => i ≠ id ∧ g.υ i b' }
  have hev : Evo g w g2 w := {
    same := ⟨rfl, rfl, rfl⟩
    size := Nat.le_refl _
    pr := fun b o hp => ⟨hp, rfl⟩
    prn := fun b o h => .inl h
    x := fun b h => .inl h
    keep := fun b _ _ => rfl
    σ := fun _ _ h => h
    τ := fun _ m a cap h => ⟨m, a, cap, h, .inr ⟨rfl, rfl, rfl⟩⟩ }
  refine ⟨g2, ?_, hev⟩
  refine WOK.chg2 (fun i => i = id) hw hev (by simp) (fun i h => h ▸ hnlt) (fun i h => List.getElem?_set_ne (Ne.symm h)) (fun i h => ⟨rfl, rfl, by funext b'; simp [g2, h]⟩) (fun i e b _ h1 h2 => hw.blk i e b h1 h2) hw.xs hw.pr (fun _ _ _ _ _ _ => ⟨rfl, fun _ h => h⟩) ?_ (fun i i' _ _ _ h h' _ _ _ _ => h.trans h'.symm) ?_
  · rintro i x b' rfl h1 h2
    rcases set_cases hnlt h1 with ⟨_, rfl⟩ | ⟨h, _⟩
    rotate_left
    · exact absurd rfl h
    rcases h2 with h2 | h2
    · exact ⟨hw.blk i _ _ hH (.inl h2), i, _, rfl, hH, .inl h2⟩
    · exact absurd rfl h2.1
  · rintro i x rfl h1
    rcases set_cases hnlt h1 with ⟨_, rfl⟩ | ⟨h, _⟩
    rotate_left
    · exact absurd rfl h
    exact .inr (.inl ⟨_, rfl, b, k1, ⟨[], fun h => h.1 rfl, ⟨by simp, ⟨es, k2, k5, rfl, fun i x en v hx => by simp at hx⟩, fun n hn => by simp [rmZ] at hn⟩, rfl, fun k r v hr => by simp [rmR] at hr, fun k k' l l' v v' B _ h1 => by simp [rmR] at h1⟩, k3, fun b' o hu => absurd rfl hu.1⟩)
theorem lget_app {k k' : κ} {n len : Nat} : lget (L ++ [(k, n, len)]) k' = match lget L k' with | some y => some y | none => if k = k' then some (n, len) else none := by
  unfold lget
  rw [List.find?_append]
  cases L.find? (fun y => decide (y.1 = k')) with
  | some y => rfl
  | none =>
    by_cases h : k = k' <;> simp [h]
/-- The row of a key is lent, whether the key is there or not. -/
theorem Gh.lendM {n id len : Nat} {k : κ} (h1 : ∀ x, (f x).cells = [f x]) (hn : H.length = n) (hH : H[id]? = some (.ob (rmO fk f e m L))) (hk : lget L k = none) (hlen : ((mget m k).getD []).length = len) :
    Gh F ⟨E, H⟩ ⟨E, H.set id (.ob (rmO fk f e m (L ++ [(k, n, len)]))) ++ [.lst (((mget m k).getD []).map f) e 1]⟩ := by
  subst hn; subst hlen
  refine Gh.wok fun g w hw => ?_
  have hidlt : id < H.length := (List.getElem?_eq_some_iff.1 hH).1
  have hnd := nodup_of hw hH
  cases hm : mfind m k with
  | some j =>
    obtain ⟨q, q1, q2⟩ := mfind_lt hm
    have hg : (mget m k).getD [] = q.2 := by unfold mget; rw [hm]; simp [q1]
    rw [hg]
    have hR : (rmR f m L)[j]? = some (.own (q.2.map f)) := by
      rw [rmR_at q1]; unfold rowOf; rw [q2, hk]
    obtain ⟨g', w1, w2⟩ := hw.lend hH hR (f_cells h1 q.2)
    rw [List.length_map] at w1
    have eR : (rmR f m L).set j (.lent H.length q.2.length) = rmR f m (L ++ [(k, H.length, q.2.length)]) := by
      apply List.ext_getElem?
      intro i
      by_cases hij : i = j
      · subst hij
        have hil : i < (rmR f m L).length := (List.getElem?_eq_some_iff.1 hR).1
        rw [List.getElem?_set_self hil, rmR_at q1]
        unfold rowOf
        rw [q2, lget_app, hk]; simp
      · rw [List.getElem?_set_ne (Ne.symm hij)]
        cases hi : m[i]? with
        | none => simp [rmR, hi]
        | some q' =>
          rw [rmR_at hi, rmR_at hi]
          unfold rowOf
          have hne : ¬ k = q'.1 := fun h => hij (by
            have a1 := mfind_at hnd hi
            rw [← h, hm] at a1
            exact (Option.some.inj a1).symm)
          rw [lget_app]
          cases lget L q'.1 with
          | some y => rfl
          | none => simp [hne]
    have eZ : rmZ m (L ++ [(k, H.length, q.2.length)]) = rmZ m L := by simp [rmZ, hm]
    unfold rmO
    rw [eZ, ← eR]
    exact ⟨g', w1, w2⟩
  | none =>
    have hg : (mget m k).getD [] = ([] : List α) := by unfold mget; rw [hm]; rfl
    rw [hg]
    obtain ⟨g', w1, w2, w3⟩ := hw.lstize (e := e) (s := 1) (ad := none)
    have hH' : (H ++ [HE.lst [] e 1])[id]? = some (.ob (rmO fk f e m L)) := by rw [List.getElem?_append_left hidlt]; exact hH
    have hset : H.set id (.ob (rmO fk f e m (L ++ [(k, H.length, 0)]))) ++ [.lst [] e 1] = (H ++ [HE.lst [] e 1]).set id (.ob (rmO fk f e m (L ++ [(k, H.length, 0)]))) := by rw [List.set_append_left _ _ hidlt]
    simp only [List.length_nil, List.map_nil]
    rw [hset]
    refine ⟨g', w1.reC hH' (fun b Vs hb hC => ⟨?_, ?_⟩), w2⟩
    · obtain ⟨p1, p2, p3⟩ := hC.c
      refine ⟨p1, p2, fun n hn => ?_⟩
      simp only [rmZ, List.filter_append, List.map_append, List.mem_append] at hn
      rcases hn with hn | hn
      · exact p3 n hn
      · simp [hm] at hn
        subst hn
        exact ⟨0, none, 0, w3, fun _ => ⟨rfl, rfl⟩⟩
    · simp only [rmR]
      apply List.map_congr_left
      intro q hq
      unfold rowOf
      rw [lget_app]
      have hne : ¬ k = q.1 := fun h => mfind_none.1 hm q hq h.symm
      cases lget L q.1 with
      | some y => rfl
      | none => simp [hne]
/-- The row of a key is given back. -/
theorem Gh.backM {n id len : Nat} {k : κ} {l : List α} {L' : List (κ × Nat × Nat)} (h1 : ∀ x, (f x).cells = [f x]) (hH : H[id]? = some (.ob (rmO fk f e m L))) (hk : lget L k = some (n, len)) (hL' : L.filter (fun y => decide (y.1 ≠ k)) = L') (hm : (mfind m k).isSome = true) (hJ : H[n]? = some (.lst (l.map f) e 1)) (hl : l.length = len) :
    Gh F ⟨E, H⟩ ⟨E, (H.set n .dead).set id (.ob (rmO fk f e (mput m k l) L'))⟩ := by
  subst hl; subst hL'
  refine Gh.wok fun g w hw => ?_
  have hnd := nodup_of hw hH
  obtain ⟨j, hj⟩ := Option.isSome_iff_exists.1 hm
  obtain ⟨q, q1, q2⟩ := mfind_lt hj
  have hjl : j < m.length := (List.getElem?_eq_some_iff.1 q1).1
  have hput : mput m k l = m.set j (k, l) := by unfold mput; rw [hj]
  have hR : (rmR f m L)[j]? = some (.lent n (l.map f).length) := by
    rw [rmR_at q1]; unfold rowOf; rw [q2, hk]; simp
  obtain ⟨g', w1, w2⟩ := hw.absorb hH hJ hR (f_cells h1 l)
  have hlf : ∀ k', lget (L.filter fun y => decide (y.1 ≠ k)) k' = if k' = k then none else lget L k' := fun k' => by
    unfold lget
    rw [List.find?_filter]
    by_cases h : k' = k
    · rw [if_pos h, Option.map_eq_none_iff, List.find?_eq_none]
      intro y _; simp; intro h2 h3; exact h2 (h3.trans h)
    · rw [if_neg h]
      congr 1
      congr 1
      funext y
      by_cases h3 : y.1 = k'
      · simp [h3, h]
      · simp [h3]
  have hfk : ∀ k', mfind (m.set j (k, l)) k' = mfind m k' := fun k' => by
    have key : ∀ (m : List (κ × List α)) (j : Nat) (q : κ × List α), m[j]? = some q → q.1 = k → mfind (m.set j (k, l)) k' = mfind m k' := by
      intro m
      induction m with
      | nil => intro j q h; simp at h
      | cons x m ih =>
        intro j q h h2
        cases j with
        | zero =>
          simp at h; subst h
          simp only [List.set_cons_zero, mfind, h2]
        | succ j =>
          simp only [List.set_cons_succ, mfind]
          rw [ih j q (by simpa using h) h2]
    exact key m j q q1 q2
  have eR : (rmR f m L).set j (.own (l.map f)) = rmR f (m.set j (k, l)) (L.filter fun y => decide (y.1 ≠ k)) := by
    apply List.ext_getElem?
    intro i
    by_cases hij : i = j
    · subst hij
      have hil : i < (rmR f m L).length := (List.getElem?_eq_some_iff.1 hR).1
      rw [List.getElem?_set_self hil, rmR_at (q := (k, l)) (by simp [hjl])]
      unfold rowOf
      rw [hlf, if_pos rfl]
    · rw [List.getElem?_set_ne (Ne.symm hij)]
      have hmi : (m.set j (k, l))[i]? = m[i]? := List.getElem?_set_ne (Ne.symm hij)
      cases hi : m[i]? with
      | none =>
        have hil := List.getElem?_eq_none_iff.1 hi
        rw [List.getElem?_eq_none (by simpa [rmR] using hil), List.getElem?_eq_none (by simpa [rmR] using hil)]
      | some q' =>
        rw [rmR_at hi, rmR_at (hmi.trans hi)]
        unfold rowOf
        have hne : ¬ q'.1 = k := fun h => hij (by
          have a1 := mfind_at hnd hi
          rw [h, hj] at a1
          exact (Option.some.inj a1).symm)
        rw [hlf, if_neg hne]
  have eZ : rmZ (m.set j (k, l)) (L.filter fun y => decide (y.1 ≠ k)) = rmZ m L := by
    unfold rmZ
    rw [List.filter_filter]
    congr 1
    apply List.filter_congr
    intro y _
    rw [hfk]
    by_cases h : y.1 = k
    · simp [h, hj]
    · simp [h]
  have eK : (m.set j (k, l)).map (fun q => fk q.1) = m.map fun q => fk q.1 := by
    rw [List.map_set]
    apply List.ext_getElem?
    intro i
    by_cases hij : i = j
    · subst hij; rw [List.getElem?_set_self (by simpa using hjl)]; simp [q1, q2]
    · rw [List.getElem?_set_ne (Ne.symm hij)]
  have eN : (m.set j (k, l)).map Prod.fst = m.map Prod.fst := by
    rw [List.map_set]
    apply List.ext_getElem?
    intro i
    by_cases hij : i = j
    · subst hij; rw [List.getElem?_set_self (by simpa using hjl)]; simp [q1, q2]
    · rw [List.getElem?_set_ne (Ne.symm hij)]
  unfold rmO
  rw [hput, eZ, eK, eN, ← eR]
  exact ⟨g', w1, w2⟩
end
end
section
/- Maps of growing lists: operations. Conditions: none. -/
open Go

section
variable {P : Program} {H : List HE} {κ α : Type} [DecidableEq κ] {fk : κ → D} {f : α → D} {kv : κ → Value} {d : TypeDesc} {e : TypeId}
theorem run_findR {g : G} {w : World} {kt : TypeId} {m : List (κ × List α)} {Vs : List Hd} {es : Array MapEntry} (hK : KeyF P kt fk kv d) (k : κ) (h2 : es.size = (m.map fun q => fk q.1).length) (h3 : Vs.length = (m.map fun q => fk q.1).length)
    (h4 : ∀ (i : Nat) x en v, (m.map fun q => fk q.1)[i]? = some x → es[i]? = some en → Vs[i]? = some v → en.born = i ∧ RepD g.Pr w x en.key ∧ en.val = hdV v) :
    (Instr.findKey kt (kv k) es.toList).run P w = .ok (match mfind m k with | some j => (es[j]?).map fun e => (j, e.val) | none => none) w := by
  simp only [List.length_map] at h2 h3
  refine MapKept.run_findKey hK.ty ?_
  rw [find_map (Pr := g.Pr) (w := w) hK k m es.toList 0 (by simpa using h2) (fun j x en h1 h5 => by
    have hj : j < Vs.length := by rw [h3]; exact (List.getElem?_eq_some_iff.1 h1).1
    exact (h4 j (fk x.1) en Vs[j] (by rw [List.getElem?_map, h1]; rfl) (by simpa using h5) (by simp [hj])).2.1)]
  cases mfind m k with
  | none => rfl
  | some j => simp
/-- The head that a list of its own has. -/
theorem hs_head {g : G} {w : World} {n len id b : Nat} {l : List D} {v : V} {rv : Value} (hw : WOK g w H) (hJ : H[n]? = some (.lst l e 1)) (hl : l.length = len) (hz : Is v (.hs n 0 len 1)) (h : Rep g w v rv) : ∃ hd : Hd, rv = hdV hd ∧ RowV g w id b e (.lent n len) hd := by
  obtain ⟨aj, capj, f1, f2, f3, f4⟩ := hw.lst n _ _ _ hJ
  have h2 := hz.rep h
  cases h2 with
  | @hs _ _ _ _ m' cap' n0 c0 a' a0 p1 p2 =>
    rw [f1] at p1; injection p1 with p1; injection p1 with p1 p3; injection p3 with p3 p4
    obtain ⟨r1, r2, r3, r4⟩ := hs0 (p2 p1.symm)
    exact ⟨(a0, n0, c0), rfl, 0, aj, capj, f1, fun _ => ⟨by rw [r1, r2, r3, p3, p4], by rw [← hl]; exact f2⟩⟩
/-- The entries of a map are written. -/
theorem WOK.putM {g : G} {w : World} {id b : Nat} {o' : Obj} {K K' : List D} {Z Z' : List Nat} {Q Q' : Prop} {R R' : List RowD} {Vs Vs' : List Hd} {es' : Array MapEntry} (hw : WOK g w H) (hH : H[id]? = some (.ob (cO (mpC K Z Q) e R))) (hb : g.σ id = some b) (hC : CAt (mpC K Z Q) e R g w id b Vs)
    (hQ : Q') (ho : o' = .map es' K'.length) (hsz : es'.size = K'.length) (hV : Vs'.length = K'.length) (hent : ∀ (i : Nat) x en v, K'[i]? = some x → es'[i]? = some en → Vs'[i]? = some v → en.born = i ∧ RepD g.Pr w x en.key ∧ en.val = hdV v)
    (hZ : ∀ n ∈ Z', n ∈ Z) (hlen : Vs'.length = R'.length) (hrow : ∀ (k : Nat) r v, R'[k]? = some r → Vs'[k]? = some v → (R[k]? = some r ∧ Vs[k]? = some v) ∨ ∃ nn len, r = .lent nn len ∧ RowV g w id b e r v) :
    WOK g { w with heap := w.heap.setIfInBounds b o' } (H.set id (.ob (cO (mpC K' Z' Q') e R'))) ∧ Evo g w g { w with heap := w.heap.setIfInBounds b o' } := by
  obtain ⟨q1, ⟨es, c1, c2, c3, c4⟩, c5⟩ := hC.c
  have hbl : b < w.heap.size := (Array.getElem?_eq_some_iff.1 c1).1
  have hoth : ∀ b', b' ≠ b → ({ w with heap := w.heap.setIfInBounds b o' } : World).heap[b']? = w.heap[b']? := fun b' hne => by
    show (w.heap.setIfInBounds b o')[b']? = _
    rw [Array.getElem?_setIfInBounds_ne (Ne.symm hne)]
  refine hw.setOb (w' := { w with heap := w.heap.setIfInBounds b o' }) hH hb ⟨rfl, rfl, rfl⟩ (by simp) hoth (fun he => ⟨Vs', hC.nob, ⟨hQ, ⟨es', ?_, hsz, hV, fun i x en v hx hn hv => ?_⟩, fun n hn => c5 n (hZ n hn)⟩, hlen, fun k r v hr hv => ?_, fun k k' l l' v v' B hkk h1 h2 h3 h4 b1 b2 => ?_⟩)
  · show (w.heap.setIfInBounds b o')[b]? = _
    rw [Array.getElem?_setIfInBounds_self_of_lt hbl, ho]
  · obtain ⟨k1, k2, k3⟩ := hent i x en v hx hn hv
    exact ⟨k1, k2.mono he.pr, k3⟩
  · rcases hrow k r v hr hv with ⟨h1, h2⟩ | ⟨nn, len, rfl, h2⟩
    · exact (hC.row k r v h1 h2).mono he.w (fun _ _ _ _ h3 h4 => ⟨h3, h4⟩) (fun b' _ hne => hoth b' hne)
    · exact h2.mono he.w (fun _ _ h3 => by cases h3) (fun b' _ hne => hoth b' hne)
  · rcases hrow k _ v h1 h3 with ⟨p1, p2⟩ | ⟨_, _, p1, _⟩
    · rcases hrow k' _ v' h2 h4 with ⟨p3, p4⟩ | ⟨_, _, p3, _⟩
      · exact hC.dis k k' l l' v v' B hkk p1 p3 p2 p4 b1 b2
      · cases p3
    · cases p1
end

section
variable {P : Program} {ρ : Operand → V} {H : List HE} {ty : TypeId} {κ α : Type} [DecidableEq κ] {fk : κ → D} {f : α → D} {kv : κ → Value} {d : TypeDesc} {e : TypeId} {m : List (κ × List α)} {L : List (κ × Nat × Nat)}
theorem lget_mem {k : κ} {n len : Nat} (h : lget L k = some (n, len)) : (k, n, len) ∈ L := by
  unfold lget at h
  obtain ⟨y, h1, h2⟩ := Option.map_eq_some_iff.1 h
  have h3 := List.mem_of_find?_eq_some h1
  have h4 := List.find?_some h1
  simp at h4
  obtain ⟨a, b⟩ := y
  simp only at h2 h4
  rw [← h4, ← h2]; exact h3
theorem mem_rmZ {k : κ} {n len : Nat} (h : lget L k = some (n, len)) (hm : mfind m k = none) : n ∈ rmZ m L := by
  unfold rmZ
  exact List.mem_map.2 ⟨(k, n, len), List.mem_filter.2 ⟨lget_mem h, by simp [hm]⟩, rfl⟩
theorem op_lookup_rm {x y : Operand} {t kt et : TypeId} {id n len : Nat} {k : κ} (hK : KeyF P kt fk kv d) (ht : P.underlying t = some (.map kt et)) (hx : Is (ρ x) (.mp id)) (hy : As (ρ y) (fk k)) (hH : H[id]? = some (.ob (rmO fk f e m L))) (hk : lget L k = some (n, len)) (h0 : mfind m k = none → len = 0)
    (hz : ∃ i, P.info? et = some i ∧ i.zero = some (.slice none 0 0)) : OpV P (.lookup t x y false) ty ρ H (.hs n 0 len 1) H :=
  OpV.of_val fun g w r hw h => by
    obtain ⟨b, hb, hr⟩ := hx.mp (h x (by simp [Op.operands]))
    have hkv := hK.rep (hy.rep (h y (by simp [Op.operands])))
    obtain ⟨b', f1, ⟨Vs, hC⟩, _⟩ := hw.ob id _ hH
    obtain rfl : b = b' := by rw [hb] at f1; exact Option.some.inj f1
    obtain ⟨q1, ⟨es, c1, c2, c3, c4⟩, c5⟩ := hC.c
    obtain ⟨inf, z1, z2⟩ := hz
    have hf := run_findR (P := P) (g := g) (w := w) hK k c2 c3 c4
    have hc : ∀ em, (Instr.checkKey em 10000 kt (kv k)).run P w = .ok () w := fun em => MapKept.run_checkKey hK.ty (hK.isk k) em 9999
    cases hm : mfind m k with
    | none =>
      rw [hm] at hf
      obtain ⟨m', a, cap, p1, p2⟩ := c5 n (mem_rmZ hk hm)
      have hl0 := h0 hm
      subst hl0
      refine ⟨.slice none 0 0, fun _ _ _ _ => ?_, .hs p1 (fun h => ?_)⟩
      · simp [execOp, hr, hkv, Instr.lookup, run_underlying ht, MapKept.run_getObj_map c1, hc, hf, Result.andThen, zeroValue, typeInfo, z1, z2]
      · obtain ⟨r1, r2⟩ := p2 h
        subst r1; subst r2
        exact ⟨by simp [subA], rfl, rfl, by simp⟩
    | some j =>
      rw [hm] at hf
      obtain ⟨q, q2, q3⟩ := mfind_lt hm
      have hjm : j < m.length := (List.getElem?_eq_some_iff.1 q2).1
      have hj : j < es.size := by simp at c2; omega
      have hjV : j < Vs.length := by simp at c3; omega
      have he : es[j]? = some es[j] := by simp [hj]
      have hv := (c4 j (fk q.1) es[j] Vs[j] (by simp [q2]) he (by simp [hjV])).2.2
      simp only [he, Option.map_some] at hf
      have hrow := hC.row j (.lent n len) Vs[j] (by rw [rmR_at q2]; unfold rowOf; rw [q3, hk]) (by simp [hjV])
      refine ⟨es[j].val, fun _ _ _ _ => ?_, ?_⟩
      · simp [execOp, hr, hkv, Instr.lookup, run_underlying ht, MapKept.run_getObj_map c1, hc, hf, Result.andThen]
      · rw [hv]
        exact rep_lent (g := g) (w := w) ⟨fun _ _ h => ⟨h, rfl⟩, fun _ _ h => h, fun _ m a cap h => ⟨m, a, cap, h, .inr ⟨rfl, rfl, rfl⟩⟩⟩ hrow (.d (.raw _))
theorem rmZ_touch {k : κ} {n : Nat} (h : n ∈ rmZ (mtouch m k) L) : n ∈ rmZ m L := by
  unfold rmZ at h ⊢
  obtain ⟨y, h1, rfl⟩ := List.mem_map.1 h
  obtain ⟨h2, h3⟩ := List.mem_filter.1 h1
  refine List.mem_map.2 ⟨y, List.mem_filter.2 ⟨h2, ?_⟩, rfl⟩
  rw [Option.isNone_iff_eq_none] at h3 ⊢
  rw [mfind_none] at h3 ⊢
  intro q hq
  refine h3 q ?_
  unfold mtouch
  split
  · exact hq
  · exact List.mem_append_left _ hq
theorem op_mapEntry_rm {x y : Operand} {t kt et : TypeId} {id n len : Nat} {k : κ} (hK : KeyF P kt fk kv d) (ht : P.underlying t = some (.map kt et)) (hx : Is (ρ x) (.mp id)) (hy : As (ρ y) (fk k)) (hH : H[id]? = some (.ob (rmO fk f e m L))) (hk : lget L k = some (n, len)) (h0 : mfind m k = none → len = 0)
    (hz : ∃ i, P.info? et = some i ∧ i.zero = some (.slice none 0 0)) : OpV P (.mapEntry t x y) ty ρ H (.tup [.any, .d (.int .i64 (mpos m k : Int))]) (H.set id (.ob (rmO fk f e (mtouch m k) L))) := by
  intro g w r pos after guard dst hw h
  obtain ⟨b, hb, hr⟩ := hx.mp (h x (by simp [Op.operands]))
  have hkv := hK.rep (hy.rep (h y (by simp [Op.operands])))
  obtain ⟨b', f1, ⟨Vs, hC⟩, _⟩ := hw.ob id _ hH
  obtain rfl : b = b' := by rw [hb] at f1; exact Option.some.inj f1
  obtain ⟨q1, ⟨es, c1, c2, c3, c4⟩, c5⟩ := hC.c
  obtain ⟨inf, z1, z2⟩ := hz
  have hf := run_findR (P := P) (g := g) (w := w) hK k c2 c3 c4
  have hc : (Instr.checkKey false 10000 kt (kv k)).run P w = .ok () w := MapKept.run_checkKey hK.ty (hK.isk k) false 9999
  have hst : (Instr.keyThatStays (kv k) (kv k)).run P w = .ok (kv k) w := MapKept.run_keyThatStays (hK.isk k)
  simp only [List.length_map] at c2 c3
  have two : ∀ {g' : G} {w' : World} {u : Value} {i : Int}, Rep g' w' (.tup [.any, .d (.int .i64 i)]) (.tuple #[u, .int .i64 i]) := fun {g' w' u i} => .tup rfl (fun j x v hx hv => by
    match j, hx, hv with
    | 0, hx, hv => simp at hx hv; subst hx; subst hv; exact .any
    | 1, hx, hv => simp at hx hv; subst hx; subst hv; exact .d (.int _ _)
    | j + 2, hx, _ => simp at hx)
  unfold OpRuns
  cases hm : mfind m k with
  | none =>
    rw [hm] at hf
    have hp : mpos m k = m.length := by unfold mpos; rw [hm]; rfl
    have hto : mtouch m k = m ++ [(k, [])] := by unfold mtouch; rw [hm]; rfl
    have hl0 := h0 hm
    subst hl0
    obtain ⟨m', a, cap, p1, p2⟩ := c5 n (mem_rmZ hk hm)
    rw [hp, hto]
    obtain ⟨k1, k2⟩ := hw.putM (o' := .map (es.push ⟨kv k, .slice none 0 0, m.length⟩) (m.length + 1)) (K' := (m ++ [(k, ([] : List α))]).map fun q => fk q.1) (Z' := rmZ (m ++ [(k, ([] : List α))]) L) (Q' := ((m ++ [(k, ([] : List α))]).map Prod.fst).Nodup) (R' := rmR f (m ++ [(k, ([] : List α))]) L) (Vs' := Vs ++ [(none, 0, 0)]) (es' := es.push ⟨kv k, .slice none 0 0, m.length⟩) hH hb hC
      (by rw [← hto]; exact nodup_touch q1) (by simp) (by simp [c2]) (by simp [c3]) (fun i x en v hx hn hv => by
        simp only [List.map_append, List.map_cons, List.map_nil] at hx
        by_cases hi : i < m.length
        · rw [List.getElem?_append_left (by simpa using hi)] at hx
          rw [Array.getElem?_push, if_neg (by omega)] at hn
          rw [List.getElem?_append_left (by omega)] at hv
          exact c4 i x en v hx hn hv
        · rw [List.getElem?_append_right (by simpa using hi)] at hx
          rw [List.getElem?_append_right (by omega)] at hv
          have him : i = m.length := by
            have := (List.getElem?_eq_some_iff.1 hx).1
            simp at this; omega
          subst him
          rw [Array.getElem?_push, if_pos c2.symm] at hn
          injection hn with hn; subst hn
          simp at hx; subst hx
          simp [c3] at hv; subst hv
          exact ⟨rfl, hK.mkr, rfl⟩) (fun n' hn' => rmZ_touch (k := k) (by rw [hto]; exact hn')) (by simp [rmR, c3]) (fun i rr v hr' hv => by
        simp only [rmR, List.map_append, List.map_cons, List.map_nil] at hr'
        by_cases hi : i < m.length
        · rw [List.getElem?_append_left (by simpa using hi)] at hr'
          rw [List.getElem?_append_left (by omega)] at hv
          exact .inl ⟨hr', hv⟩
        · rw [List.getElem?_append_right (by simpa using hi)] at hr'
          rw [List.getElem?_append_right (by omega)] at hv
          have him : i = m.length := by
            have := (List.getElem?_eq_some_iff.1 hr').1
            simp at this; omega
          subst him
          simp at hr'; subst hr'
          simp [c3] at hv; subst hv
          refine .inr ⟨n, 0, by unfold rowOf; rw [hk], ?_⟩
          have : rowOf f L (k, ([] : List α)) = .lent n 0 := by unfold rowOf; rw [hk]
          rw [this]
          refine ⟨m', a, cap, p1, fun hh => ?_⟩
          obtain ⟨r1, r2⟩ := p2 hh
          subst r1; subst r2; exact ⟨rfl, Nat.le_refl _⟩)
    simp [execOp, hr, hkv, Instr.mapEntry, run_underlying ht, MapKept.run_getObj_map c1, hc, hf, Result.andThen, zeroValue, typeInfo, z1, z2, MapKept.run_setObj_map _ c1, goInt]
    exact ⟨g, k1, k2, two⟩
  | some j =>
    rw [hm] at hf
    obtain ⟨q, q2, q3⟩ := mfind_lt hm
    have hjm : j < m.length := (List.getElem?_eq_some_iff.1 q2).1
    have hj : j < es.size := by omega
    have hjV : j < Vs.length := by omega
    have hje : es[j]? = some es[j] := by simp [hj]
    have hp : mpos m k = j := by unfold mpos; rw [hm]; rfl
    have hto : mtouch m k = m := by unfold mtouch; rw [hm]; rfl
    obtain ⟨hj1, hj2, hj3⟩ := c4 j (fk q.1) es[j] Vs[j] (by simp [q2]) hje (by simp [hjV])
    have hjk : es[j].key = kv k := by rw [hK.rep hj2, q3]
    rw [hp, hto]
    obtain ⟨k1, k2⟩ := hw.putM (o' := .map (es.modify j fun en => { en with key := kv k }) m.length) (K' := m.map fun q => fk q.1) (Z' := rmZ m L) (Q' := (m.map Prod.fst).Nodup) (R' := rmR f m L) (Vs' := Vs) (es' := es.modify j fun en => { en with key := kv k }) hH hb hC
      q1 (by simp) (by simp [c2]) (by simp [c3]) (fun i x en v hx hn hv => by
        rw [Array.getElem?_modify] at hn
        by_cases hij : j = i
        · subst hij
          rw [if_pos rfl, hje] at hn
          simp only [Option.map_some, Option.some.injEq] at hn
          subst hn
          obtain ⟨u1, u2, u3⟩ := c4 j x es[j] v hx hje hv
          exact ⟨u1, by simp only [List.getElem?_map, q2, Option.map_some, Option.some.injEq] at hx; rw [← hx, q3]; exact hK.mkr, u3⟩
        · rw [if_neg hij] at hn
          exact c4 i x en v hx hn hv) (fun _ h => h) hC.len (fun i rr v hr' hv => .inl ⟨hr', hv⟩)
    simp only [hje, Option.map_some] at hf
    simp [execOp, hr, hkv, Instr.mapEntry, run_underlying ht, MapKept.run_getObj_map c1, hc, hf, Result.andThen, MapKept.run_setObj_map _ c1, hje, hjk, hst, goInt, hj1]
    exact ⟨g, k1, k2, two⟩
end
end
section
/- Maps of growing lists: rows put in, and all given up. Conditions: none. -/
open Go

section
variable {κ α : Type} [DecidableEq κ]
def lset (L : List (κ × Nat × Nat)) (k : κ) (n len : Nat) : List (κ × Nat × Nat) := L.map fun y => if y.1 = k then (k, n, len) else y
theorem lget_set {L : List (κ × Nat × Nat)} {k : κ} {n len n0 len0 : Nat} (h : lget L k = some (n0, len0)) (k' : κ) : lget (lset L k n len) k' = if k' = k then some (n, len) else lget L k' := by
  unfold lget lset at *
  rw [List.find?_map]
  have hp : ((fun y : κ × Nat × Nat => decide (y.1 = k')) ∘ fun y => if y.1 = k then (k, n, len) else y) = fun y => decide (y.1 = k') := by
    funext y
    simp only [Function.comp]
    by_cases hy : y.1 = k
    · simp [hy]
    · simp [hy]
  rw [hp]
  by_cases hk : k' = k
  · subst hk
    rw [if_pos rfl]
    cases hz : L.find? (fun y => decide (y.1 = k')) with
    | none => rw [hz] at h; cases h
    | some z =>
      have hz1 := List.find?_some hz
      simp at hz1
      simp [hz1]
  · rw [if_neg hk]
    cases hz : L.find? (fun y => decide (y.1 = k')) with
    | none => rfl
    | some z =>
      have hz1 := List.find?_some hz
      simp at hz1
      have : ¬ z.1 = k := fun e => hk (hz1.symm.trans e)
      simp [this]
theorem rmZ_set {m : List (κ × List α)} {L : List (κ × Nat × Nat)} {k : κ} {n len n' : Nat} (h : n' ∈ rmZ (mtouch m k) (lset L k n len)) : n' ∈ rmZ m L := by
  unfold rmZ lset at h
  obtain ⟨y, h1, rfl⟩ := List.mem_map.1 h
  obtain ⟨h2, h3⟩ := List.mem_filter.1 h1
  obtain ⟨z, h4, h5⟩ := List.mem_map.1 h2
  rw [Option.isNone_iff_eq_none, mfind_none] at h3
  by_cases hz : z.1 = k
  · rw [if_pos hz] at h5
    exfalso
    subst h5
    unfold mtouch at h3
    split at h3
    · rename_i hs
      obtain ⟨j, hj⟩ := Option.isSome_iff_exists.1 hs
      obtain ⟨q, q1, q2⟩ := mfind_lt hj
      exact h3 q (List.mem_of_getElem? q1) q2
    · exact h3 (k, []) (by simp) rfl
  · rw [if_neg hz] at h5
    subst h5
    refine rmZ_touch (k := k) ?_
    unfold rmZ
    exact List.mem_map.2 ⟨z, List.mem_filter.2 ⟨h4, by rw [Option.isNone_iff_eq_none, mfind_none]; exact h3⟩, rfl⟩
end

section
variable {P : Program} {ρ : Operand → V} {H : List HE} {ty : TypeId} {κ α : Type} [DecidableEq κ] {fk : κ → D} {f : α → D} {kv : κ → Value} {d : TypeDesc} {e : TypeId} {m : List (κ × List α)} {L L' : List (κ × Nat × Nat)}
/-- A row is put in at its place. -/
theorem op_entryStore_rm {x y z : Operand} {t id n len n' len' j : Nat} {k : κ} {l : List α} (hx : Is (ρ x) (.mp id)) (hy : As (ρ y) (.int .i64 (j : Int))) (hz : Is (ρ z) (.hs n' 0 len' 1)) (hm : mfind m k = some j) (hH : H[id]? = some (.ob (rmO fk f e m L))) (hJ : H[n']? = some (.lst (l.map f) e 1)) (hl : l.length = len')
    (hk : lget L k = some (n, len)) (hL' : lset L k n' len' = L') : OpV P (.entryStore t x y z) ty ρ H .any (H.set id (.ob (rmO fk f e m L'))) := by
  subst hL'
  intro g w r pos after guard dst hw h
  obtain ⟨b, hb, hr⟩ := hx.mp (h x (by simp [Op.operands]))
  have hs := hy.int (h y (by simp [Op.operands]))
  obtain ⟨hd, hd1, hd2⟩ := hs_head (id := id) (b := b) hw hJ (by simpa using hl) hz (h z (by simp [Op.operands]))
  obtain ⟨b', f1, ⟨Vs, hC⟩, _⟩ := hw.ob id _ hH
  obtain rfl : b = b' := by rw [hb] at f1; exact Option.some.inj f1
  obtain ⟨q1, ⟨es, c1, c2, c3, c4⟩, c5⟩ := hC.c
  simp only [List.length_map] at c2 c3
  obtain ⟨q, q2, q3⟩ := mfind_lt hm
  have hjm : j < m.length := (List.getElem?_eq_some_iff.1 q2).1
  have hj : j < es.size := by omega
  have hjV : j < Vs.length := by omega
  have hje : es[j]? = some es[j] := by simp [hj]
  have hborn : ∀ i (hi : i < es.size), es[i].born = i := fun i hi => (c4 i (fk (m[i]'(by omega)).1) es[i] (Vs[i]'(by omega)) (by simp [show i < m.length by omega]) (by simp [hi]) (by simp [show i < Vs.length by omega])).1
  have hfi : es.findIdx? (fun en => (en.born : Int) == (j : Int)) = some j := by
    rw [Array.findIdx?_eq_some_iff_getElem]
    refine ⟨hj, by simp [hborn j hj], fun i hij => ?_⟩
    rw [hborn i (by omega)]
    simp; omega
  have hto : mtouch m k = m := by unfold mtouch; rw [hm]; rfl
  obtain ⟨k1, k2⟩ := hw.putM (o' := .map (es.modify j fun en => { en with val := r z }) m.length) (K' := m.map fun q => fk q.1) (Z' := rmZ m (lset L k n' len')) (Q' := (m.map Prod.fst).Nodup) (R' := rmR f m (lset L k n' len')) (Vs' := Vs.set j hd) (es' := es.modify j fun en => { en with val := r z }) hH hb hC
    q1 (by simp) (by simp [c2]) (by simp [c3]) (fun i x en v hx' hn hv => by
      rw [Array.getElem?_modify] at hn
      by_cases hij : j = i
      · subst hij
        rw [if_pos rfl, hje] at hn
        simp only [Option.map_some, Option.some.injEq] at hn
        subst hn
        rw [List.getElem?_set_self hjV] at hv
        injection hv with hv; subst hv
        obtain ⟨u1, u2, u3⟩ := c4 j x es[j] Vs[j] hx' hje (by simp [hjV])
        exact ⟨u1, u2, hd1⟩
      · rw [if_neg hij] at hn
        rw [List.getElem?_set_ne hij] at hv
        exact c4 i x en v hx' hn hv) (fun n2 h2 => rmZ_set (k := k) (n := n') (len := len') (by rw [hto]; exact h2)) (by simp [rmR, c3]) (fun i rr v hr' hv => by
      obtain ⟨q', hq1, hq2⟩ := rmR_get hr'
      by_cases hij : j = i
      · subst hij
        rw [q2] at hq1; injection hq1 with hq1; subst hq1
        rw [List.getElem?_set_self hjV] at hv
        injection hv with hv; subst hv
        refine .inr ⟨n', len', ?_, ?_⟩
        · rw [hq2]; unfold rowOf; rw [lget_set hk, if_pos q3]
        · have : rr = .lent n' len' := by rw [hq2]; unfold rowOf; rw [lget_set hk, if_pos q3]
          rw [this]; exact hd2
      · rw [List.getElem?_set_ne hij] at hv
        have hne : ¬ q'.1 = k := fun hh => hij (by
          have a1 := mfind_at q1 hq1
          rw [hh, hm] at a1
          exact Option.some.inj a1)
        refine .inl ⟨?_, hv⟩
        rw [rmR_at hq1, hq2]
        unfold rowOf
        rw [lget_set hk, if_neg hne])
  have hget : (getObj b).run P w = .ok (.map es m.length) w := by simpa using MapKept.run_getObj_map c1
  unfold OpRuns
  simp [execOp, hr, hs, Instr.entryStore, hget, asInt, asIntOf, hfi, Result.andThen, MapKept.run_setObj_map _ c1]
  exact ⟨g, k1, k2, .any⟩
/-- A row is put in. -/
theorem op_mapUpdate_rm {x y z : Operand} {t kt et : TypeId} {id n len n' len' : Nat} {k : κ} {l : List α} (hK : KeyF P kt fk kv d) (ht : P.underlying t = some (.map kt et)) (hx : Is (ρ x) (.mp id)) (hy : As (ρ y) (fk k)) (hz : Is (ρ z) (.hs n' 0 len' 1)) (hH : H[id]? = some (.ob (rmO fk f e m L))) (hJ : H[n']? = some (.lst (l.map f) e 1)) (hl : l.length = len')
    (hk : lget L k = some (n, len)) (hL' : lset L k n' len' = L') : OpV P (.mapUpdate t x y z) ty ρ H .any (H.set id (.ob (rmO fk f e (mtouch m k) L'))) := by
  subst hL'
  intro g w r pos after guard dst hw h
  obtain ⟨b, hb, hr⟩ := hx.mp (h x (by simp [Op.operands]))
  have hkv := hK.rep (hy.rep (h y (by simp [Op.operands])))
  obtain ⟨hd, hd1, hd2⟩ := hs_head (id := id) (b := b) hw hJ (by simpa using hl) hz (h z (by simp [Op.operands]))
  obtain ⟨b', f1, ⟨Vs, hC⟩, _⟩ := hw.ob id _ hH
  obtain rfl : b = b' := by rw [hb] at f1; exact Option.some.inj f1
  obtain ⟨q1, ⟨es, c1, c2, c3, c4⟩, c5⟩ := hC.c
  have hf := run_findR (P := P) (g := g) (w := w) hK k c2 c3 c4
  have hc : (Instr.checkKey false 10000 kt (kv k)).run P w = .ok () w := MapKept.run_checkKey hK.ty (hK.isk k) false 9999
  have hst : (Instr.keyThatStays (kv k) (kv k)).run P w = .ok (kv k) w := MapKept.run_keyThatStays (hK.isk k)
  simp only [List.length_map] at c2 c3
  have hro : ∀ q' : κ × List α, ¬ q'.1 = k → rowOf f (lset L k n' len') q' = rowOf f L q' := fun q' hne => by
    unfold rowOf; rw [lget_set hk, if_neg hne]
  have hrk : ∀ q' : κ × List α, q'.1 = k → rowOf f (lset L k n' len') q' = .lent n' len' := fun q' he => by
    unfold rowOf; rw [lget_set hk, if_pos he]
  unfold OpRuns
  cases hm : mfind m k with
  | none =>
    rw [hm] at hf
    have hto : mtouch m k = m ++ [(k, [])] := by unfold mtouch; rw [hm]; rfl
    have hz2 : ∀ n2 ∈ rmZ (m ++ [(k, ([] : List α))]) (lset L k n' len'), n2 ∈ rmZ m L := fun n2 h2 => rmZ_set (k := k) (n := n') (len := len') (by rw [hto]; exact h2)
    rw [hto]
    obtain ⟨k1, k2⟩ := hw.putM (o' := .map (es.push ⟨kv k, r z, m.length⟩) (m.length + 1)) (K' := (m ++ [(k, ([] : List α))]).map fun q => fk q.1) (Z' := rmZ (m ++ [(k, ([] : List α))]) (lset L k n' len')) (Q' := ((m ++ [(k, ([] : List α))]).map Prod.fst).Nodup) (R' := rmR f (m ++ [(k, ([] : List α))]) (lset L k n' len')) (Vs' := Vs ++ [hd]) (es' := es.push ⟨kv k, r z, m.length⟩) hH hb hC
      (by rw [← hto]; exact nodup_touch q1) (by simp) (by simp [c2]) (by simp [c3]) (fun i x en v hx' hn hv => by
        simp only [List.map_append, List.map_cons, List.map_nil] at hx'
        by_cases hi : i < m.length
        · rw [List.getElem?_append_left (by simpa using hi)] at hx'
          rw [Array.getElem?_push, if_neg (by omega)] at hn
          rw [List.getElem?_append_left (by omega)] at hv
          exact c4 i x en v hx' hn hv
        · rw [List.getElem?_append_right (by simpa using hi)] at hx'
          rw [List.getElem?_append_right (by omega)] at hv
          have him : i = m.length := by
            have := (List.getElem?_eq_some_iff.1 hx').1
            simp at this; omega
          subst him
          rw [Array.getElem?_push, if_pos c2.symm] at hn
          injection hn with hn; subst hn
          simp at hx'; subst hx'
          simp [c3] at hv; subst hv
          exact ⟨rfl, hK.mkr, hd1⟩) hz2 (by simp [rmR, c3]) (fun i rr v hr' hv => by
        simp only [rmR, List.map_append, List.map_cons, List.map_nil] at hr'
        by_cases hi : i < m.length
        · rw [List.getElem?_append_left (by simpa using hi)] at hr'
          rw [List.getElem?_append_left (by omega)] at hv
          simp only [List.getElem?_map, Option.map_eq_some_iff] at hr'
          obtain ⟨q', hq1, hq2⟩ := hr'
          refine .inl ⟨?_, hv⟩
          rw [rmR_at hq1, ← hq2, hro q' (mfind_none.1 hm q' (List.mem_of_getElem? hq1))]
        · rw [List.getElem?_append_right (by simpa using hi)] at hr'
          rw [List.getElem?_append_right (by omega)] at hv
          have him : i = m.length := by
            have := (List.getElem?_eq_some_iff.1 hr').1
            simp at this; omega
          subst him
          simp at hr'
          simp [c3] at hv; subst hv
          rw [hrk _ rfl] at hr'
          exact .inr ⟨n', len', hr'.symm, by rw [← hr']; exact hd2⟩)
    simp [execOp, hr, hkv, Instr.mapUpdate, run_underlying ht, MapKept.run_getObj_map c1, hc, hf, Result.andThen, MapKept.run_setObj_map _ c1]
    exact ⟨g, k1, k2, .any⟩
  | some j =>
    rw [hm] at hf
    obtain ⟨q, q2, q3⟩ := mfind_lt hm
    have hjm : j < m.length := (List.getElem?_eq_some_iff.1 q2).1
    have hj : j < es.size := by omega
    have hjV : j < Vs.length := by omega
    have hje : es[j]? = some es[j] := by simp [hj]
    have hto : mtouch m k = m := by unfold mtouch; rw [hm]; rfl
    have hz2 : ∀ n2 ∈ rmZ m (lset L k n' len'), n2 ∈ rmZ m L := fun n2 h2 => rmZ_set (k := k) (n := n') (len := len') (by rw [hto]; exact h2)
    obtain ⟨hj1, hj2, hj3⟩ := c4 j (fk q.1) es[j] Vs[j] (by simp [q2]) hje (by simp [hjV])
    have hjk : es[j].key = kv k := by rw [hK.rep hj2, q3]
    rw [hto]
    obtain ⟨k1, k2⟩ := hw.putM (o' := .map (es.modify j fun en => { en with key := kv k, val := r z }) m.length) (K' := m.map fun q => fk q.1) (Z' := rmZ m (lset L k n' len')) (Q' := (m.map Prod.fst).Nodup) (R' := rmR f m (lset L k n' len')) (Vs' := Vs.set j hd) (es' := es.modify j fun en => { en with key := kv k, val := r z }) hH hb hC
      q1 (by simp) (by simp [c2]) (by simp [c3]) (fun i x en v hx' hn hv => by
        rw [Array.getElem?_modify] at hn
        by_cases hij : j = i
        · subst hij
          rw [if_pos rfl, hje] at hn
          simp only [Option.map_some, Option.some.injEq] at hn
          subst hn
          rw [List.getElem?_set_self hjV] at hv
          injection hv with hv; subst hv
          simp only [List.getElem?_map, q2, Option.map_some, Option.some.injEq] at hx'
          exact ⟨hj1, by rw [← hx', q3]; exact hK.mkr, hd1⟩
        · rw [if_neg hij] at hn
          rw [List.getElem?_set_ne hij] at hv
          exact c4 i x en v hx' hn hv) hz2 (by simp [rmR, c3]) (fun i rr v hr' hv => by
        obtain ⟨q', hq1, hq2⟩ := rmR_get hr'
        by_cases hij : j = i
        · subst hij
          rw [q2] at hq1; injection hq1 with hq1; subst hq1
          rw [List.getElem?_set_self hjV] at hv
          injection hv with hv; subst hv
          rw [hrk _ q3] at hq2
          exact .inr ⟨n', len', hq2, by rw [hq2]; exact hd2⟩
        · rw [List.getElem?_set_ne hij] at hv
          have hne : ¬ q'.1 = k := fun hh => hij (by
            have a1 := mfind_at q1 hq1
            rw [hh, hm] at a1
            exact Option.some.inj a1)
          refine .inl ⟨?_, hv⟩
          rw [rmR_at hq1, hq2, hro _ hne])
    simp only [hje, Option.map_some] at hf
    simp [execOp, hr, hkv, Instr.mapUpdate, run_underlying ht, MapKept.run_getObj_map c1, hc, hf, Result.andThen, MapKept.run_setObj_map _ c1, hje, hjk, hst]
    exact ⟨g, k1, k2, .any⟩
end

section
variable {F : FC} {E : Nat → V} {H : List HE} {κ α : Type} [DecidableEq κ] {fk : κ → D} {f : α → D} {e : TypeId} {m : List (κ × List α)}
/-- The map of lists is given up to be one of data. -/
theorem Gh.freezeM {id : Nat} (h1 : ∀ x, (f x).cells = [f x]) (hH : H[id]? = some (.ob (rmO fk f e m []))) : Gh F ⟨E, H⟩ ⟨E, H.set id (.ob (mpO (m.map fun q => (fk q.1, .sl (q.2.map f)))))⟩ := by
  refine Gh.wok fun g w hw => ?_
  have hidlt : id < H.length := (List.getElem?_eq_some_iff.1 hH).1
  obtain ⟨b, k1, ⟨Vs, hC⟩, k3, k4⟩ := hw.ob id _ hH
  obtain ⟨q1, ⟨es, c1, c2, c3, c4⟩, c5⟩ := hC.c
  simp only [List.length_map] at c2 c3
  let g' : G := { g with Pr := fun b2 o => g.Pr b2 o ∨ (g.υ id b2 ∧ b2 ≠ b), υ := fun i b' => i ≠ id ∧ g.υ i b' }
  have hXu : ∀ b2, g.υ id b2 → g.X b2 := fun b2 h => hw.blk id _ b2 hH (.inr h)
  have hev : Evo g w g' w := {
    same := ⟨rfl, rfl, rfl⟩
    size := Nat.le_refl _
    pr := fun b o hp => ⟨.inl hp, rfl⟩
    prn := fun b2 o h => by
      rcases h with h | h
      · exact .inl h
      · exact .inr (.inl (hXu _ h.1))
    x := fun b h => .inl h
    keep := fun b _ _ => rfl
    σ := fun _ _ h => h
    τ := fun _ m a cap h => ⟨m, a, cap, h, .inr ⟨rfl, rfl, rfl⟩⟩ }
  refine ⟨g', WOK.chg2 (fun i => i = id) hw hev (by simp) (fun i h => h ▸ hidlt) (fun i h => List.getElem?_set_ne (Ne.symm h)) (fun i h => ⟨rfl, rfl, by funext b'; simp [g', h]⟩) (fun i e b _ h1 h2 => hw.blk i e b h1 h2) hw.xs (fun b2 o h => ?_) (fun i e' b2 hi h hb => ⟨rfl, fun o hp => ?_⟩) ?_ (fun i i' _ _ _ h h' _ _ _ _ => h.trans h'.symm) ?_, hev⟩
  · rcases h with h | h
    · exact hw.pr b2 o h
    · exact hw.xs _ (hXu _ h.1)
  · rcases hp with hp | hp
    · exact hp
    · exact absurd (hw.sep i id _ _ b2 h hH hb (.inr hp.1)) hi
  · rintro i e' b2 rfl g1 g2
    rcases set_cases hidlt g1 with ⟨_, rfl⟩ | ⟨h, _⟩
    rotate_left
    · exact absurd rfl h
    rcases g2 with g2 | g2
    · exact ⟨hw.blk i _ b2 hH (.inl g2), i, _, rfl, hH, .inl g2⟩
    · exact absurd rfl g2.1
  · rintro i e' rfl g1
    rcases set_cases hidlt g1 with ⟨_, rfl⟩ | ⟨h, _⟩
    rotate_left
    · exact absurd rfl h
    refine .inr (.inl ⟨_, rfl, b, k1, ⟨es, by simpa using c1, by simpa using c2, fun j x en hx hn => ?_⟩, fun o hp => ?_, fun b' o hu => absurd rfl hu.1⟩)
    · simp only [List.getElem?_map, Option.map_eq_some_iff] at hx
      obtain ⟨q, hq, rfl⟩ := hx
      have hjm : j < m.length := (List.getElem?_eq_some_iff.1 hq).1
      have hjV : j < Vs.length := by omega
      obtain ⟨u1, u2, u3⟩ := c4 j (fk q.1) en Vs[j] (by simp [hq]) hn (by simp [hjV])
      refine ⟨u1, u2.mono hev.pr, ?_⟩
      rw [u3]
      have hrow := hC.row j (.own (q.2.map f)) Vs[j] (by rw [rmR_at hq]; rfl) (by simp [hjV])
      generalize Vs[j] = v at hrow
      obtain ⟨a2, len2, cap2⟩ := v
      obtain ⟨z1, z2, z3, z4⟩ := hrow
      simp only at z1 z2 z3 z4
      subst z1
      refine .sl (q.2.map f) a2 cap2 1 (fun k => match a2 with | some ad => (w.cell? ⟨ad.block, k, none⟩).getD undef | none => undef) (fun x hx => by obtain ⟨y, _, rfl⟩ := List.mem_map.1 hx; rw [h1]; rfl) z2 (fun hne => ?_) (fun k2' x hx => ?_)
      · have hc2 : 0 < cap2 := by have := List.length_pos_iff.2 hne; omega
        obtain ⟨br, arr2, rfl, y2, y3, y4, y5, y6⟩ := z4 hc2
        refine ⟨br, 0, rfl, fun k3 hk3 => ⟨.inr ⟨y2, y3⟩, ?_⟩⟩
        have : k3 < arr2.size := by omega
        simp only [Nat.zero_add, cell_of_cells y4]
        simp [this]
      · rw [flat_one1 h1] at hx
        have hk3 : k2' < (q.2.map f).length := (List.getElem?_eq_some_iff.1 hx).1
        obtain ⟨br, arr2, rfl, y2, y3, y4, y5, y6⟩ := z4 (by omega)
        have : k2' < arr2.size := by omega
        simp only [cell_of_cells y4]
        have h4 : arr2[k2']? = some arr2[k2'] := by simp [this]
        rw [h4]
        exact (y6 k2' x _ hx h4).mono hev.pr
    · rcases hp with hp | hp
      · exact k3 o hp
      · exact hp.2 rfl
end
end
end Go.Proofs.Ytkfffaoopcnaoaa.Ab
