/- Plain laws, joined. Conditions: none. -/
import Derived.Test.YtkdefjliknpliaaGreatDoorAb50
namespace Go.Proofs.YtkdefjliknpliaaGreatDoor.Ab
section
/- Tables: lists of rows that hold a text and a list that grows. Conditions: none. -/
open Go
def tbF (x : List UInt8 × Hd) : D := .agg [.str x.1, .raw (hdV x.2)]
theorem enTb : En tbF 2 := ⟨fun _ => rfl, fun x y hy => by
  have : y = .str x.1 ∨ y = .raw (hdV x.2) := by simpa [tbF, D.cells] using hy
  rcases this with rfl | rfl <;> rfl⟩
def tbL (ks : List (List UInt8)) (Vs : List Hd) : List D := (ks.zip Vs).map tbF
section
variable {α β : Type}
def tbE (kf : β → List UInt8) (lf : β → List α) (f : α → D) (e eo : TypeId) (m : List β) (y : Option (Nat × Nat × Nat)) : HE :=
  if m = [] then .lst [] eo 2 else .ob (cO (slC eo 2 (tbL (m.map kf))) e (rsR f (m.map lf) y))
variable {kf : β → List UInt8} {lf : β → List α} {f : α → D} {e eo : TypeId} {m : List β} {y : Option (Nat × Nat × Nat)}
theorem tbE_ob {k : Int} {r : β} (h : ix m k = some r) : tbE kf lf f e eo m y = .ob (cO (slC eo 2 (tbL (m.map kf))) e (rsR f (m.map lf) y)) := by
  obtain ⟨i, _, hi⟩ := ix_nat h
  unfold tbE
  rw [if_neg]
  intro h0; rw [h0] at hi; cases hi
theorem tbE_simple : (tbE kf lf f e eo m none).simple = true := by
  unfold tbE
  split
  · rfl
  · show (true && (rsR f (m.map lf) none).all RowD.isOwn) = true
    simp only [Bool.true_and, List.all_eq_true]
    intro r hr
    simp only [rsR] at hr
    obtain ⟨q, _, rfl⟩ := List.mem_map.1 hr
    rfl
theorem tbE_rn {p : Nat → Nat} : (tbE kf lf f e eo m y).rn p = tbE kf lf f e eo m y := by
  unfold tbE; split <;> rfl
theorem ixM {γ : Type} {g : β → γ} {k : Int} {r : β} (h : ix m k = some r) : ix (m.map g) k = some (g r) := by
  obtain ⟨i, rfl, hi⟩ := ix_nat h
  simp only [ix] at h ⊢
  split at h
  · rw [if_pos (by simp)]
    simp only [List.getElem?_map, hi, Int.toNat_natCast, Option.map_some]
  · cases h
theorem ixZ {ks : List (List UInt8)} {Vs : List Hd} {k : Int} {s : List UInt8} {v : Hd} (h1 : ix ks k = some s) (h2 : ix Vs k = some v) : ix (ks.zip Vs) k = some (s, v) := by
  obtain ⟨i, rfl, hi⟩ := ix_nat h1
  obtain ⟨j, hj, hi2⟩ := ix_nat h2
  have : j = i := by omega
  subst this
  have l1 := (List.getElem?_eq_some_iff.1 hi).1
  have l2 := (List.getElem?_eq_some_iff.1 hi2).1
  unfold ix
  rw [if_pos (by omega)]
  simp only [Int.toNat_natCast]
  exact (List.getElem?_zip_eq_some (z := (s, v))).2 ⟨hi, hi2⟩
theorem tbL_ne {ks : List (List UInt8)} {Vs : List Hd} (h1 : ks ≠ []) (h2 : Vs ≠ []) : tbL ks Vs ≠ [] := by
  cases ks with
  | nil => exact absurd rfl h1
  | cons k ks => cases Vs with
    | nil => exact absurd rfl h2
    | cons v Vs => simp [tbL]
theorem map_ne {γ : Type} {g : β → γ} {k : Int} {r : β} (h : ix m k = some r) : m.map g ≠ [] := by
  obtain ⟨i, _, hi⟩ := ix_nat h
  intro h0
  rw [List.map_eq_nil_iff] at h0
  rw [h0] at hi; cases hi
end
section
variable {F : FC} {E : Nat → V} {H : List HE} {α β : Type} {kf : β → List UInt8} {lf : β → List α} {f : α → D} {e eo : TypeId} {m : List β}
theorem Gh.lendT {n id : Nat} {k : Int} {r : β} (h1 : ∀ x, (f x).cells = [f x]) (hn : H.length = n) (hH : H[id]? = some (tbE kf lf f e eo m none)) (hv : ix m k = some r) :
    Gh F ⟨E, H⟩ ⟨E, H.set id (tbE kf lf f e eo m (some (k.toNat, n, (lf r).length))) ++ [.lst ((lf r).map f) e 1]⟩ := by
  subst hn
  rw [tbE_ob hv] at hH
  rw [tbE_ob hv]
  obtain ⟨i, rfl, hi⟩ := ix_nat hv
  refine Gh.wok fun g w hw => ?_
  have := hw.lend (j := i) (l := (lf r).map f) hH (by simp [rsR, hi]) (f_cells h1 (lf r))
  rw [List.length_map] at this
  exact this
theorem map_set_same {γ : Type} {g : β → γ} {j : Nat} {r r' : β} (h : m[j]? = some r) (hg : g r' = g r) : (m.set j r').map g = m.map g := by
  apply List.ext_getElem?
  intro i
  rw [List.getElem?_map, List.getElem?_map, List.getElem?_set]
  split
  · rename_i e2
    subst e2
    split
    · rw [h]; simp [hg]
    · rename_i h2
      rw [List.getElem?_eq_none (by omega)]
  · rfl
theorem Gh.backT {n id len : Nat} {k : Int} {r r' : β} (h1 : ∀ x, (f x).cells = [f x]) (hH : H[id]? = some (tbE kf lf f e eo m (some (k.toNat, n, len)))) (hJ : H[n]? = some (.lst ((lf r').map f) e 1)) (hl : (lf r').length = len) (hv : ix m k = some r) (hk : kf r' = kf r) :
    Gh F ⟨E, H⟩ ⟨E, (H.set n .dead).set id (tbE kf lf f e eo (m.set k.toNat r') none)⟩ := by
  subst hl
  obtain ⟨i, rfl, hi⟩ := ix_nat hv
  have hil : i < m.length := (List.getElem?_eq_some_iff.1 hi).1
  have hm2 : ix (m.set i r') (i : Int) = some r' := by simp [ix, hil]
  simp only [Int.toNat_natCast] at hH ⊢
  rw [tbE_ob hv] at hH
  rw [tbE_ob hm2]
  refine Gh.wok fun g w hw => ?_
  have := hw.absorb (n := n) (j := i) (l := (lf r').map f) hH hJ (by simp [rsR, hil]) (f_cells h1 (lf r'))
  have e1 : (rsR f (m.map lf) (some (i, n, (lf r').length))).set i (.own ((lf r').map f)) = rsR f ((m.set i r').map lf) none := by simp [rsR, List.map_set]
  rw [e1, ← map_set_same (g := kf) hi hk] at this
  exact this
theorem Gh.backT0 {n id len : Nat} {k : Int} {r : β} (h1 : ∀ x, (f x).cells = [f x]) (hH : H[id]? = some (tbE kf lf f e eo m (some (k.toNat, n, len)))) (hJ : H[n]? = some (.lst ((lf r).map f) e 1)) (hl : (lf r).length = len) (hv : ix m k = some r) :
    Gh F ⟨E, H⟩ ⟨E, (H.set n .dead).set id (tbE kf lf f e eo m none)⟩ := by
  have h := Gh.backT (F := F) (E := E) h1 hH hJ hl hv rfl
  obtain ⟨i, rfl, hi⟩ := ix_nat hv
  have : m.set ((i : Int).toNat) r = m := by
    apply List.ext_getElem?
    intro j
    rw [Int.toNat_natCast, List.getElem?_set]
    split
    · rename_i e2
      subst e2
      rw [if_pos (List.getElem?_eq_some_iff.1 hi).1, hi]
    · rfl
  rw [this] at h
  exact h
end
section
variable {P : Program} {ρ : Operand → V} {H : List HE} {ty : TypeId} {α β : Type} {kf : β → List UInt8} {lf : β → List α} {f : α → D} {e eo : TypeId} {m : List β} {y : Option (Nat × Nat × Nat)}
theorem ixT {Vs : List Hd} {k : Int} {r : β} (hl : Vs.length = (rsR f (m.map lf) y).length) (h : ix m k = some r) : ∃ v, ix Vs k = some v ∧ Vs[k.toNat]? = some v ∧ ix ((m.map kf).zip Vs) k = some (kf r, v) := by
  obtain ⟨v, h1, h2⟩ := ixV hl (ixM (g := lf) h)
  exact ⟨v, h1, h2, ixZ (ixM (g := kf) h) h1⟩
theorem op_index_tb {x z : Operand} {t bytes id N : Nat} {k : IntKind} {a : Int} {r : β} (hx : Is (ρ x) (.hs id 0 N 2)) (hN : m.length = N) (hH : H[id]? = some (tbE kf lf f e eo m y)) (hz : As (ρ z) (.int k a)) (hv : ix m a = some r) (ht : SlT P t eo 2 bytes) :
    OpV P (.indexAddr t x z) ty ρ H (.ptr id (a.toNat * 2)) H := by
  have hidlt : id < H.length := (List.getElem?_eq_some_iff.1 hH).1
  rw [tbE_ob hv] at hH
  refine lift_same hH (rsR_ne (ixM (g := lf) hv)) (fun _ => tbL_ne (map_ne hv)) (fun g w r' b Vs hw hb hC hx' => ?_)
  obtain ⟨v, h1, h2, h3⟩ := ixT (kf := kf) hC.len hv
  have hl : Vs.length = m.length := by rw [hC.len, rsR_len, List.length_map]
  exact ⟨_, op_indexAddr_ls (f := tbF) (l := (m.map kf).zip Vs) hx (List.getElem?_set_self hidlt) (by simp [hl, hN]) hz h3 ht, fun _ _ _ _ h => h⟩
theorem op_load_tb {x : Operand} {t id n len : Nat} {a : Int} {r : β} (hx : Is (ρ x) (.ptr id (a.toNat * 2 + 1))) (hH : H[id]? = some (tbE kf lf f e eo m (some (a.toNat, n, len)))) (hv : ix m a = some r) (ht : Sc P t) :
    OpV P (.load t x) ty ρ H (.hs n 0 len 1) H := by
  have hidlt : id < H.length := (List.getElem?_eq_some_iff.1 hH).1
  rw [tbE_ob hv] at hH
  refine lift_same hH (rsR_ne (ixM (g := lf) hv)) (fun _ => tbL_ne (map_ne hv)) (fun g w r' b Vs hw hb hC hx' => ?_)
  obtain ⟨v, h1, h2, h3⟩ := ixT (kf := kf) hC.len hv
  obtain ⟨i, rfl, hi⟩ := ix_nat hv
  have hil : i < m.length := (List.getElem?_eq_some_iff.1 hi).1
  refine ⟨_, op_load_lsF (f := tbF) (l := (m.map kf).zip Vs) (o := 1) (d := .raw (hdV v)) enTb hx (List.getElem?_set_self hidlt) h3 rfl ht, fun g2 w2 rv he h => ?_⟩
  exact rep_lent he (hC.row _ (.lent n len) v (by simp [rsR, hil]) h2) h
theorem op_store_tb {l : List α} {x z : Operand} {t id n len n' len' : Nat} {a : Int} {r : β} (hx : Is (ρ x) (.ptr id (a.toNat * 2 + 1))) (hz : Is (ρ z) (.hs n' 0 len' 1)) (hH : H[id]? = some (tbE kf lf f e eo m (some (a.toNat, n, len)))) (hJ : H[n']? = some (.lst (l.map f) e 1)) (hl : l.length = len') (hv : ix m a = some r) (hsz : ∃ i, P.info? t = some i ∧ i.size = 1) :
    OpV P (.store t x z) ty ρ H .any (H.set id (tbE kf lf f e eo m (some (a.toNat, n', len')))) := by
  have hidlt : id < H.length := (List.getElem?_eq_some_iff.1 hH).1
  rw [tbE_ob hv] at hH
  rw [tbE_ob hv]
  refine OpV.lift (L' := tbL (m.map kf)) hH hidlt (fun g w rr b Vs hw hb hC hx' => ?_)
  obtain ⟨v, h1, h2, h3⟩ := ixT (kf := kf) hC.len hv
  obtain ⟨i, rfl, hi⟩ := ix_nat hv
  have hil : i < m.length := (List.getElem?_eq_some_iff.1 hi).1
  have hVl : Vs.length = m.length := by rw [hC.len, rsR_len, List.length_map]
  obtain ⟨aj, capj, f1, f2, f3, f4⟩ := hw.lst n' _ _ _ hJ
  have hlc : len' ≤ capj := by rw [← hl]; simpa using f2
  have hrz := hz.rep (hx' z (by simp [Op.operands]))
  obtain ⟨hd, hd1, hd2⟩ : ∃ hd : Hd, rr z = hdV hd ∧ hd = (aj, len', capj) := by
    generalize hry : rr z = u at hrz
    cases hrz with
    | @hs _ _ _ _ m' cap' n0 c0 a' a0 p1 p2 =>
      rw [f1] at p1; injection p1 with p1; injection p1 with p1 p3; injection p3 with p3 p4
      obtain ⟨r1, r2, r3, r4⟩ := hs0 (p2 p1.symm)
      refine ⟨(a0, n0, c0), rfl, ?_⟩
      rw [r1, r2, r3, p3, p4]
  have hxz : x ≠ z := fun e2 => by
    subst e2
    have h4 := hx.rep (hx' x (by simp [Op.operands]))
    rw [hd1] at h4
    cases h4
  classical
  let ρ' : Operand → V := fun o => if o = z then .d (hdD hd) else ρ o
  have hρx : ρ' x = ρ x := if_neg hxz
  have hρz : ρ' z = .d (hdD hd) := if_pos rfl
  have hzip : setI ((m.map kf).zip Vs) (i : Int) (kf r, hd) = some ((m.map kf).zip (Vs.set i hd)) := by
    rw [setI_ix h3]
    congr 1
    apply List.ext_getElem?
    intro j
    rw [Int.toNat_natCast, List.getElem?_set]
    split
    · rename_i e2
      subst e2
      rw [if_pos (by simp [hil, hVl])]
      exact (List.getElem?_zip_eq_some.2 ⟨by simp [hi], by simp [hVl, hil]⟩).symm
    · rename_i e2
      simp only [List.zip, List.getElem?_zipWith, List.getElem?_set, if_neg e2]
  have hst := op_store_lsF (P := P) (ty := ty) (ρ := ρ') (f := tbF) (l := (m.map kf).zip Vs) (v := (kf r, v)) (v' := (kf r, hd)) (o := 1) (d := hdD hd) (r := (m.map kf).zip (Vs.set i hd)) (a := (i : Int)) (e := eo) enTb (by rw [hρx]; exact hx) (by rw [hρz]; exact .e rfl) rfl rfl hsz (List.getElem?_set_self hidlt) h3 hzip rfl rfl
  rw [List.set_set] at hst
  refine ⟨ρ', .any, Vs.set i hd, fun o ho g1 w1 he => ?_, hst, ?_, ?_, fun k q u hr hu => ?_, fun k k' l1 l2 v1 v2 B hkk h1' h2' w1 w2 b1 b2 => ?_, fun _ _ _ _ _ => .any⟩
  · by_cases h4 : o = z
    · rw [h4, hρz, hd1]; exact .d (.raw _)
    · have : ρ' o = ρ o := if_neg h4
      rw [this]; exact (hx' o ho).monoW he
  · refine tbL_ne (map_ne hv) (fun h0 => ?_)
    have := congrArg List.length h0
    rw [List.length_set, hVl, List.length_nil] at this
    omega
  · rw [List.length_set, hC.len, rsR_len, rsR_len]
  · simp only [rsR, Int.toNat_natCast] at hr
    rcases list_set_get hr with ⟨rfl, rfl⟩ | ⟨hk, hr⟩
    · rcases list_set_get hu with ⟨_, rfl⟩ | ⟨hk, _⟩
      · refine .inr (.inr ⟨n', len', rfl, 0, aj, capj, f1, fun _ => ⟨hd2, hlc⟩⟩)
      · exact absurd rfl hk
    · rcases list_set_get hu with ⟨h4, _⟩ | ⟨_, hu⟩
      · exact absurd h4 hk
      · refine .inl ⟨k, ?_, hu⟩
        simp only [rsR, Int.toNat_natCast]
        rw [List.getElem?_set_ne (Ne.symm hk)]; exact hr
  · simp only [rsR, Int.toNat_natCast] at h1' h2'
    rcases list_set_get h1' with ⟨_, h4⟩ | ⟨hk, h4⟩
    · cases h4
    rcases list_set_get h2' with ⟨_, h5⟩ | ⟨hk', h5⟩
    · cases h5
    rcases list_set_get w1 with ⟨h6, _⟩ | ⟨_, h6⟩
    · exact absurd h6 hk
    rcases list_set_get w2 with ⟨h7, _⟩ | ⟨_, h7⟩
    · exact absurd h7 hk'
    refine hC.dis k k' l1 l2 v1 v2 B hkk ?_ ?_ h6 h7 b1 b2
    · simp only [rsR, Int.toNat_natCast]; rw [List.getElem?_set_ne (Ne.symm hk)]; exact h4
    · simp only [rsR, Int.toNat_natCast]; rw [List.getElem?_set_ne (Ne.symm hk')]; exact h5
end
section
variable {H : List HE} {α β : Type} {kf : β → List UInt8} {lf : β → List α} {f : α → D} {e eo : TypeId} {m : List β}
def tbD (kf : β → List UInt8) (lf : β → List α) (f : α → D) (x : β) : D := .agg [.str (kf x), .sl ((lf x).map f)]
theorem tb_rep {g : G} {w : World} {id b : Nat} {Vs : List Hd} {Pr' : Nat → Nat → Prop} (hC : CAt (slC eo 2 (tbL (m.map kf))) e (rsR f (m.map lf) none) g w id b Vs) (hP : ∀ b o, g.Pr b o → Pr' b o) (hb : ∀ o, Pr' b o) (hu : ∀ b' o, g.υ id b' → Pr' b' o) (h1 : ∀ x, (f x).cells = [f x]) :
    ∃ cap, g.τ id = some (0, some ⟨b, 0, none⟩, cap) ∧ RepD Pr' w (.sl (m.map (tbD kf lf f))) (.slice (some ⟨b, 0, none⟩) m.length cap) := by
  obtain ⟨cap, arr, o1, o2, o3, o4, o5, o6, o7⟩ := hC.c
  have hV : Vs.length = m.length := by rw [hC.len, rsR_len, List.length_map]
  have hL : (tbL (m.map kf) Vs).length = m.length := by simp [tbL, hV]
  have mono : ∀ b o, g.Pr b o → Pr' b o ∧ w.cell? ⟨b, o, none⟩ = w.cell? ⟨b, o, none⟩ := fun b o h => ⟨hP b o h, rfl⟩
  refine ⟨cap, o1, ?_⟩
  have key := RepD.sl (Pr := Pr') (w := w) (m.map (tbD kf lf f)) (some ⟨b, 0, none⟩) cap 2 (fun k => (w.cell? ⟨b, k, none⟩).getD undef) (fun x hx => by obtain ⟨y, _, rfl⟩ := List.mem_map.1 hx; rfl) (by simp; omega) (fun hne => ⟨b, 0, rfl, fun k hk => ⟨hb _, ?_⟩⟩) (fun k x hx => ?_)
  · simp only [List.length_map] at key
    exact key
  · simp only [List.length_map] at hk
    have : k < arr.size := by omega
    simp only [Nat.zero_add, cell_of_cells o5]
    simp [this]
  · obtain ⟨y, hy, hx2⟩ := flat_getP (s := 2) (fun _ => rfl) hx
    have hkl : k / 2 < m.length := (List.getElem?_eq_some_iff.1 hy).1
    have hkV : k / 2 < Vs.length := by omega
    have hka : k < arr.size := by omega
    have hz : ((m.map kf).zip Vs)[k / 2]? = some (kf y, Vs[k / 2]) := List.getElem?_zip_eq_some.2 ⟨by simp [hy], by simp [hkV]⟩
    have hfl : ∀ j, j < 2 → (D.flat (tbL (m.map kf) Vs))[k / 2 * 2 + j]? = (tbF (kf y, Vs[k / 2])).cells[j]? := fun j hj => flat_get (fun x hx => enTb.szL _ x hx) (by simp only [List.getElem?_map, hz, Option.map_some]) hj
    have hak : arr[k]? = some arr[k] := by simp [hka]
    have hcell : (w.cell? ⟨b, k, none⟩).getD undef = arr[k] := by rw [cell_of_cells o5, hak]; rfl
    simp only [hcell]
    have hm : k % 2 = 0 ∨ k % 2 = 1 := by omega
    rcases hm with hm | hm
    · rw [hm] at hx2
      have hx3 : x = .str (kf y) := by simpa [tbD, D.cells] using hx2.symm
      have := hfl 0 (by omega)
      rw [show k / 2 * 2 + 0 = k by omega] at this
      have h3 := o7 k (.str (kf y)) arr[k] (by rw [this]; rfl) hak
      rw [hx3]
      exact h3.mono mono
    · rw [hm] at hx2
      have hx3 : x = .sl ((lf y).map f) := by simpa [tbD, D.cells] using hx2.symm
      have := hfl 1 (by omega)
      rw [show k / 2 * 2 + 1 = k by omega] at this
      have h3 := o7 k (.raw (hdV Vs[k / 2])) arr[k] (by rw [this]; rfl) hak
      have h4 : arr[k] = hdV Vs[k / 2] := by
        generalize arr[k] = u at h3
        cases h3 with
        | raw => rfl
      rw [hx3, h4]
      have hrow := hC.row (k / 2) (.own ((lf y).map f)) Vs[k / 2] (by simp [rsR, hy]) (by simp [hkV])
      generalize Vs[k / 2] = v at hrow
      obtain ⟨a2, len2, cap2⟩ := v
      obtain ⟨z1, z2, z3, z4⟩ := hrow
      simp only at z1 z2 z3 z4
      subst z1
      refine .sl ((lf y).map f) a2 cap2 1 (fun k => match a2 with | some ad => (w.cell? ⟨ad.block, k, none⟩).getD undef | none => undef) (fun x hx => by obtain ⟨y, _, rfl⟩ := List.mem_map.1 hx; rw [h1]; rfl) z2 (fun hne => ?_) (fun k2' x hx => ?_)
      · have hc2 : 0 < cap2 := by have := List.length_pos_iff.2 hne; omega
        obtain ⟨br, arr2, rfl, y2, y3, y4, y5, y6⟩ := z4 hc2
        refine ⟨br, 0, rfl, fun k3 hk3 => ⟨hu _ _ y2, ?_⟩⟩
        have : k3 < arr2.size := by omega
        simp only [Nat.zero_add, cell_of_cells y4]
        simp [this]
      · rw [flat_one1 h1] at hx
        have hk3 : k2' < ((lf y).map f).length := (List.getElem?_eq_some_iff.1 hx).1
        obtain ⟨br, arr2, rfl, y2, y3, y4, y5, y6⟩ := z4 (by omega)
        have : k2' < arr2.size := by omega
        simp only [cell_of_cells y4]
        have h4 : arr2[k2']? = some arr2[k2'] := by simp [this]
        rw [h4]
        exact (y6 k2' x _ hx h4).mono mono
theorem WOK.freezeTb {g : G} {w : World} {id : Nat} (hw : WOK g w H) (hH : H[id]? = some (tbE kf lf f e eo m none)) (h1 : ∀ x, (f x).cells = [f x]) :
    ∃ g', WOK g' w (H.set id .dead) ∧ Evo g w g' w ∧ (∀ i, g'.τ i = g.τ i) ∧ ∀ r, Rep g w (.hs id 0 m.length 2) r → Rep g' w (.d (.sl (m.map (tbD kf lf f)))) r := by
  have hidlt : id < H.length := (List.getElem?_eq_some_iff.1 hH).1
  by_cases hm : m = []
  · subst hm
    unfold tbE at hH
    rw [if_pos rfl] at hH
    refine ⟨g, hw.kill hH (by simp), .refl g w, fun _ => rfl, fun r hr => ?_⟩
    obtain ⟨a, cap, f1, f2, f3, f4⟩ := hw.lst id _ _ _ hH
    cases hr with
    | @hs _ _ _ _ m' cap' n0 c0 a' a0 p1 p2 =>
      rw [f1] at p1; injection p1 with p1; injection p1 with p1 p3; injection p3 with p3 p4
      obtain ⟨r1, r2, r3, r4⟩ := hs0 (p2 p1.symm)
      subst r2
      exact .d (.sl [] a0 c0 0 (fun _ => undef) (by simp) (by simp) (by simp) (by simp [D.flat]))
  · unfold tbE at hH
    rw [if_neg hm] at hH
    obtain ⟨b, k1, ⟨Vs, k2⟩, k3, k4⟩ := hw.ob id _ hH
    let g' : G := { g with Pr := fun b2 o => g.Pr b2 o ∨ b2 = b ∨ g.υ id b2 }
    have hXb : g.X b := hw.blk id _ b hH (.inl k1)
    have hXu : ∀ b2, g.υ id b2 → g.X b2 := fun b2 h => hw.blk id _ b2 hH (.inr h)
    have hev : Evo g w g' w := {
      same := ⟨rfl, rfl, rfl⟩
      size := Nat.le_refl _
      pr := fun b o hp => ⟨.inl hp, rfl⟩
      prn := fun b2 o h => by
        rcases h with h | rfl | h
        · exact .inl h
        · exact .inr (.inl hXb)
        · exact .inr (.inl (hXu _ h))
      x := fun b h => .inl h
      keep := fun b _ _ => rfl
      σ := fun _ _ h => h
      τ := fun _ m a cap h => ⟨m, a, cap, h, .inr ⟨rfl, rfl, rfl⟩⟩ }
    refine ⟨g', WOK.chg2 (fun i => i = id) hw hev (by simp) (fun i h => h ▸ hidlt) (fun i h => List.getElem?_set_ne (Ne.symm h)) (fun i h => ⟨rfl, rfl, rfl⟩) (fun i e b _ h1 h2 => hw.blk i e b h1 h2) hw.xs (fun b2 o h => ?_) (fun i e' b2 hi h hb => ⟨rfl, fun o hp => ?_⟩) ?_ (fun i i' _ _ _ h h' _ _ _ _ => h.trans h'.symm) ?_, hev, fun _ => rfl, fun r hr => ?_⟩
    · rcases h with h | rfl | h
      · exact hw.pr b2 o h
      · exact hw.xs _ hXb
      · exact hw.xs _ (hXu _ h)
    · rcases hp with hp | rfl | hp
      · exact hp
      · exact absurd (hw.sep i id _ _ b2 h hH hb (.inl k1)) hi
      · exact absurd (hw.sep i id _ _ b2 h hH hb (.inr hp)) hi
    · rintro i e' b2 rfl g1 g2
      rcases set_cases hidlt g1 with ⟨_, rfl⟩ | ⟨h, _⟩
      · exact g2.elim
      · exact absurd rfl h
    · rintro i e' rfl g1
      rcases set_cases hidlt g1 with ⟨_, rfl⟩ | ⟨h, _⟩
      · exact .inl rfl
      · exact absurd rfl h
    · obtain ⟨cap, o1, key⟩ := tb_rep (Pr' := g'.Pr) k2 (fun _ _ h => .inl h) (fun _ => .inr (.inl rfl)) (fun _ _ h => .inr (.inr h)) h1
      cases hr with
      | @hs _ _ _ _ m' cap' n0 c0 a' a0 p1 p2 =>
        rw [o1] at p1; injection p1 with p1; injection p1 with p1 p3; injection p3 with p3 p4
        obtain ⟨r1, r2, r3, r4⟩ := hs0 (p2 p1.symm)
        subst r1; subst r2; subst r3; subst p3; subst p4
        exact .d key
theorem AW.freezeTb {F : FC} {Q : Exit → St → Prop} {c : Code} {E : Nat → V} {fe : β → D} (id : Nat) (ts : List Nat) (he : fe = tbD kf lf f) (hH : H[id]? = some (tbE kf lf f e eo m none)) (h1 : ∀ x, (f x).cells = [f x]) (hE : SameE E (.hs id 0 m.length 2) ts)
    (h : AW F c Q ⟨setE E ts (.d (.sl (m.map fe))), H.set id .dead⟩) : AW F c Q ⟨E, H⟩ := by
  subst he
  rintro a w ⟨h1', h2, g, h3, h4, h5⟩
  obtain ⟨g', w1, w2, _, w3⟩ := h3.freezeTb hH h1
  exact h a w ⟨h1', h2, g', w1, h4.trans w2, fun i => setE_rep2 (h5 i) w2 w3 hE⟩
end
/-! ### calls to which lists and tables are lent -/
def LentB (g : G) (H : List HE) (ids : List Nat) (b : Nat) : Prop := ∃ id x, id ∈ ids ∧ H[id]? = some x ∧ g.blk id x b
def LPr (g : G) (H : List HE) (ids : List Nat) (b o : Nat) : Prop := g.Pr b o ∨ LentB g H ids b
def LR (ρ : Operand → V) (H : List HE) (ids : List Nat) (x : Operand) (d : D) : Prop := ∀ (g : G) (w : World) (v : Value), WOK g w H → Rep g w (ρ x) v → RepD (LPr g H ids) w d v
inductive LK (H : List HE) : List Nat → Prop
  | nil : LK H []
  | lst {id s : Nat} {l : List D} {e : TypeId} {ids : List Nat} : H[id]? = some (.lst l e s) → LK H ids → LK H (id :: ids)
  | tb {α β : Type} {kf : β → List UInt8} {lf : β → List α} {f : α → D} {e eo : TypeId} {m : List β} {y : Option (Nat × Nat × Nat)} {id : Nat} {ids : List Nat} : H[id]? = some (tbE kf lf f e eo m y) → LK H ids → LK H (id :: ids)
theorem LK.get {H : List HE} {ids : List Nat} (h : LK H ids) : ∀ id ∈ ids, (∃ l e s, H[id]? = some (.lst l e s)) ∨ ∃ x, H[id]? = some (.ob x) := by
  induction h with
  | nil => simp
  | lst h1 _ ih =>
    intro id hid
    rcases List.mem_cons.1 hid with rfl | hid
    · exact .inl ⟨_, _, _, h1⟩
    · exact ih id hid
  | tb h1 _ ih =>
    intro id hid
    rcases List.mem_cons.1 hid with rfl | hid
    · unfold tbE at h1
      split at h1
      · exact .inl ⟨_, _, _, h1⟩
      · exact .inr ⟨_, h1⟩
    · exact ih id hid
section
variable {ρ : Operand → V} {H : List HE} {ids : List Nat} {x : Operand}
theorem LR.d {d : D} (h : As (ρ x) d) : LR ρ H ids x d := fun _ _ _ _ hr => (h.rep hr).mono (fun _ _ hp => ⟨.inl hp, rfl⟩)
theorem LR.l {α : Type} {f : α → D} {l : List α} {id len s : Nat} {e : TypeId} (hx : Is (ρ x) (.hs id 0 len s)) (hH : H[id]? = some (.lst (l.map f) e s)) (hl : l.length = len) (hf : En f s) (hid : inB ids id = true) : LR ρ H ids x (.sl (l.map f)) := by
  intro g w v hw hr
  have hh := hx.rep hr
  have hs := hf.szL l
  have hmem := inB_mem.1 hid
  rw [← List.length_map (f := f)] at hl
  generalize l.map f = l at hH hl hs
  obtain ⟨a0, cap0, f1, f2, f3, f4⟩ := hw.lst id l e s hH
  generalize v = rr at hh
  cases hh with
  | @hs _ _ _ _ m cap' n0 c0 a' a0' p1 p2 =>
    rw [f1] at p1; injection p1 with p1; injection p1 with p1 p3; injection p3 with p3 p4
    obtain ⟨r1, r2, r3, _⟩ := hs0 (p2 p1.symm)
    subst r1; subst r3; subst p3; subst p4
    rw [r2, ← hl]
    refine .sl l _ _ s (fun k => match a0 with | some ad => (w.cell? ⟨ad.block, k, none⟩).getD undef | none => undef) hs f2 (fun hnil => ?_) (fun k x hx => ?_)
    · have hlpos : 0 < l.length := List.length_pos_iff.2 hnil
      have hc : 0 < cap0 := by omega
      obtain ⟨b, arr, rfl, q0, q2, q3, q4, q5⟩ := f4 hc
      refine ⟨b, 0, rfl, fun k hk => ⟨.inr ⟨id, _, hmem, hH, by simp [G.blk, f1, hc]⟩, ?_⟩⟩
      have hka : k < arr.size := by
        rw [q3]; exact Nat.lt_of_lt_of_le hk (Nat.mul_le_mul_right _ f2)
      simp only [Nat.zero_add, cell_of_cells q2]
      simp [hka]
    · have hfl := flat_length hs
      have hkl : k < l.length * s := by rw [← hfl]; exact (List.getElem?_eq_some_iff.1 hx).1
      have hc : 0 < cap0 := by
        rcases Nat.eq_zero_or_pos cap0 with h | h
        · have : l.length = 0 := by omega
          rw [this] at hkl; simp at hkl
        · exact h
      obtain ⟨b, arr, rfl, q0, q2, q3, q4, q5⟩ := f4 hc
      have hka : k < arr.size := by
        rw [q3]; exact Nat.lt_of_lt_of_le hkl (Nat.mul_le_mul_right _ f2)
      simp only [cell_of_cells q2]
      have : arr[k]? = some arr[k] := by simp [hka]
      rw [this]
      exact (q5 k x _ hx this).mono (fun _ _ hp => ⟨.inl hp, rfl⟩)
theorem LR.t {α β : Type} {kf : β → List UInt8} {lf : β → List α} {f : α → D} {e eo : TypeId} {m : List β} {id N : Nat} {fe : β → D} (hx : Is (ρ x) (.hs id 0 N 2)) (hN : m.length = N) (hH : H[id]? = some (tbE kf lf f e eo m none)) (h1 : ∀ x, (f x).cells = [f x]) (he : fe = tbD kf lf f) (hid : inB ids id = true) : LR ρ H ids x (.sl (m.map fe)) := by
  subst he
  intro g w v hw hr
  have hh := hx.rep hr
  have hmem := inB_mem.1 hid
  by_cases hm : m = []
  · subst hm
    unfold tbE at hH
    rw [if_pos rfl] at hH
    obtain ⟨a, cap, f1, f2, f3, f4⟩ := hw.lst id _ _ _ hH
    generalize v = rr at hh
    cases hh with
    | @hs _ _ _ _ m' cap' n0 c0 a' a0 p1 p2 =>
      rw [f1] at p1; injection p1 with p1; injection p1 with p1 p3; injection p3 with p3 p4
      obtain ⟨r1, r2, r3, r4⟩ := hs0 (p2 p1.symm)
      rw [r2, ← hN]
      exact .sl [] a0 c0 0 (fun _ => undef) (by simp) (by simp) (by simp) (by simp [D.flat])
  · have hH' := hH
    unfold tbE at hH'
    rw [if_neg hm] at hH'
    obtain ⟨b, k1, ⟨Vs, k2⟩, k3, k4⟩ := hw.ob id _ hH'
    obtain ⟨cap, o1, key⟩ := tb_rep (Pr' := LPr g H ids) k2 (fun _ _ h => .inl h) (fun _ => .inr ⟨id, _, hmem, hH', .inl k1⟩) (fun _ _ h => .inr ⟨id, _, hmem, hH', .inr h⟩) h1
    generalize v = rr at hh
    cases hh with
    | @hs _ _ _ _ m' cap' n0 c0 a' a0 p1 p2 =>
      rw [o1] at p1; injection p1 with p1; injection p1 with p1 p3; injection p3 with p3 p4
      obtain ⟨r1, r2, r3, r4⟩ := hs0 (p2 p1.symm)
      subst r1; subst r3; subst p3; subst p4
      rw [r2, ← hN]
      exact key
inductive ArgsL (ρ : Operand → V) (H : List HE) (ids : List Nat) : List Operand → List D → Prop
  | nil : ArgsL ρ H ids [] []
  | cons {x : Operand} {d : D} {xs : List Operand} {ds : List D} : LR ρ H ids x d → ArgsL ρ H ids xs ds → ArgsL ρ H ids (x :: xs) (d :: ds)
theorem ArgsL.get {xs : List Operand} {ds : List D} (h : ArgsL ρ H ids xs ds) : xs.length = ds.length ∧ ∀ (i : Nat) d, ds[i]? = some d → ∃ x, xs[i]? = some x ∧ LR ρ H ids x d := by
  induction h with
  | nil => simp
  | cons ha _ ih =>
    refine ⟨by simp [ih.1], fun i d hd => ?_⟩
    cases i with
    | zero => simp only [List.getElem?_cons_zero, Option.some.injEq] at hd; subst hd; exact ⟨_, rfl, ha⟩
    | succ i => exact ih.2 i d (by simpa using hd)
end
section
variable {P : Program} {ρ : Operand → V} {H : List HE} {ty : TypeId}
theorem op_lendL {fop : Operand} {f : FuncId} {args : Array Operand} {ts : Array TypeId} {ds : List D} {res : D} (ids : List Nat) (hc : ∀ (a : Array Value) (w : World), (callFunc f a).run P w = .ok (.enter f a) w)
    (hf : Is (ρ fop) (.fn (.func f) [])) (ha : ArgsL ρ H ids args.toList ds) (hkk : LK H ids) (h : Fn P f ds res) (hp : res.flatOk = true) : OpV P (.call ⟨.value fop, args, ts⟩) ty ρ H (.d res) H := by
  have hk := hkk.get
  intro g w r pos after guard dst hw hx
  have hmem : ∀ z, z ∈ args.toList → z ∈ (Op.call ⟨.value fop, args, ts⟩).operands := fun z hz => by
    simp only [Op.operands, Call.operands]; exact Array.mem_append.2 (.inr (by simpa using hz))
  have hfr := hf.rep (hx fop (by simp [Op.operands, Call.operands]))
  generalize hrf : r fop = fv at hfr
  cases hfr with
  | @fn _ _ arr hsz hrep =>
    have h0 : arr = #[] := by simpa using hsz
    subst h0
    let g0 : G := { σ := fun _ => none, τ := fun _ => none, υ := fun _ _ => False, X := fun _ => False, Pr := LPr g H ids }
    have hlentX : ∀ b, LentB g H ids b → g.X b := by
      rintro b ⟨id, x, _, h1, h2⟩
      exact hw.blk id _ b h1 h2
    have hw0 : WOK g0 w [] := by
      refine ⟨fun b o hp => ?_, fun b hb => hb.elim, ?_, ?_, ?_, ?_, ?_, ?_, fun _ _ => ⟨rfl, rfl, fun _ h => h⟩, fun x hx => ⟨fun h => h, fun o ho => .inl ((hw.kc x hx).2.1 o ho), (hw.kc x hx).2.2⟩⟩
      · rcases hp with hp | hp
        · exact hw.pr b o hp
        · exact hw.xs b (hlentX b hp)
      all_goals intros; simp_all
    have hcall := h g0 w (args.map r) hw0 (by have := ha.get.1; simp at this ⊢; omega) (fun i x v hx' hv => by
      simp only [List.getElem?_map, Option.map_eq_some_iff] at hx'
      obtain ⟨d, hd, rfl⟩ := hx'
      obtain ⟨y, hy, hyd⟩ := ha.get.2 i d hd
      have hvy : v = r y := by
        simp only [Array.getElem?_map, Option.map_eq_some_iff] at hv
        obtain ⟨z, hz, rfl⟩ := hv
        rw [← Array.getElem?_toList, hy] at hz
        injection hz with hz; rw [hz]
      subst hvy
      exact .d (hyd g w _ hw (hx y (hmem y (List.mem_of_getElem? hy)))))
    unfold OpRuns
    simp only [execOp, resolve, hrf, Deferred.ofValue, Sem.run_bind, Sem.run_pure, Result.andThen_ok, invoke, Array.empty_append, Array.append_empty, hc]
    refine hcall.mono ?_
    rintro e w' ⟨rv, res', g', H2, rfl, hw', he, hr, rfl⟩
    let g2 : G := { σ := g.σ, τ := g.τ, υ := g.υ, X := g.X, Pr := fun b o => g'.Pr b o ∧ ¬ LentB g H ids b }
    have keep : ∀ b, b < w.heap.size → w'.heap[b]? = w.heap[b]? := fun b hb => he.keep b hb (fun h => h)
    have hnl : ∀ b o, g.Pr b o → ¬ LentB g H ids b := by
      rintro b o hp ⟨id, x, hm, h1, h2⟩
      rcases hk id hm with ⟨l, e, s, h3⟩ | ⟨x', h3⟩
      · rw [h3] at h1; injection h1 with h1; subst h1
        obtain ⟨a, cap, k1, k2, k3, k4⟩ := hw.lst id l e s h3
        simp only [G.blk, k1, Option.bind_some] at h2
        split at h2
        · rename_i hcp
          obtain ⟨b1, arr1, q1, q0, q2, q3, q4, q5⟩ := k4 hcp
          subst q1
          simp at h2; subst h2
          exact q4 o hp
        · cases h2
      · rw [h3] at h1; injection h1 with h1; subst h1
        obtain ⟨b1, k1, k2, k3, k4⟩ := hw.ob id x' h3
        rcases h2 with h2 | h2
        · rw [k1] at h2; injection h2 with h2; subst h2; exact k3 o hp
        · exact k4 b o h2 hp
    have hev : Evo g w g2 w' := {
      same := he.same
      size := he.size
      pr := fun b o hp => ⟨⟨(he.pr b o (.inl hp)).1, hnl b o hp⟩, (he.pr b o (.inl hp)).2⟩
      prn := fun b o hp => by
        rcases he.prn b o hp.1 with h1 | h1 | h1
        · rcases h1 with h1 | h1
          · exact .inl h1
          · exact (hp.2 h1).elim
        · exact h1.elim
        · exact .inr (.inr h1)
      x := fun b hb => .inl hb
      keep := fun b hb _ => keep b hb
      σ := fun _ _ h => h
      τ := fun _ m a cap h => ⟨m, a, cap, h, .inr ⟨rfl, rfl, rfl⟩⟩ }
    have hold : ∀ b o, g2.Pr b o → b < w.heap.size → g.Pr b o := by
      rintro b o ⟨hp, hn⟩ hb
      rcases he.prn b o hp with h1 | h1 | h1
      · rcases h1 with h1 | h1
        · exact h1
        · exact (hn h1).elim
      · exact h1.elim
      · omega
    refine ⟨rv, rfl, g2, ⟨fun b o hp => hw'.pr b o hp.1, fun b hb => Nat.lt_of_lt_of_le (hw.xs b hb) he.size, hw.blk, hw.sep, ?_, ?_, ?_, ?_, hw.free, hw.kcE hev⟩, hev, ?_⟩
    · intro id c hc
      obtain ⟨b, arr, et, h1, h2, h3, h4, h5⟩ := hw.row id c hc
      have hb : b < w.heap.size := hw.xs b (hw.blk id _ b hc h1)
      exact ⟨b, arr, et, h1, (keep b hb).trans h2, h3, fun k x v hx hv => (h4 k x v hx hv).mono hev, fun o hp => h5 o (hold b o hp hb)⟩
    · intro id n e s hn
      obtain ⟨a, cap, h1, h2, h2', h3⟩ := hw.tok id n e s hn
      refine ⟨a, cap, h1, h2, h2', fun hlt => ?_⟩
      obtain ⟨b, arr, e1, e2, e3, e4⟩ := h3 hlt
      have hb : b < w.heap.size := hw.xs _ (hw.blk id _ b hn (by simp [G.blk, h1, e1, hlt]))
      exact ⟨b, arr, e1, (keep _ hb).trans e2, e3, fun o hp => e4 o (hold _ o hp hb)⟩
    · intro id l e s hn
      obtain ⟨a, cap, h1, h2, h2', h3⟩ := hw.lst id l e s hn
      refine ⟨a, cap, h1, h2, h2', fun hlt => ?_⟩
      obtain ⟨b, arr, e1, e0, e2, e3, e4, e5⟩ := h3 hlt
      have hb : b < w.heap.size := hw.xs _ (hw.blk id _ b hn (by simp [G.blk, h1, e1, hlt]))
      exact ⟨b, arr, e1, e0, (keep _ hb).trans e2, e3, fun o hp => e4 o (hold _ o hp hb), fun k x v hx hv => (e5 k x v hx hv).mono hev.pr⟩
    · intro id x hx
      obtain ⟨b, h1, h2, h3, h4⟩ := hw.ob id x hx
      have hb : b < w.heap.size := hw.xs b (hw.blk id _ b hx (.inl h1))
      have hbu : ∀ b', g.υ id b' → b' < w.heap.size := fun b' h => hw.xs b' (hw.blk id _ b' hx (.inr h))
      exact ⟨b, h1, x.st hev.w rfl rfl (keep b hb) (fun b' h => keep b' (hbu b' h)) h2, fun o hp => h3 o (hold b o hp hb), fun b' o h hp => h4 b' o h (hold b' o hp (hbu b' h))⟩
    · cases hr with
      | d hd => exact .d (hd.plain hp)
end
end
section
/- Tables: rows put in, made one by one, taken one by one. Conditions: none. -/
open Go
/-! ### a row without a list -/
section
variable {P : Program} {ρ : Operand → V} {H : List HE} {ty : TypeId}
theorem op_buildO {t : Nat} {zs : List Value} {pl : List (Nat × Nat)} {ps : Array (Nat × Operand)} {q : List (Nat × List V)} (hb : Bd P t zs pl) (hp : Parts ρ pl zs.length ps.toList q) :
    OpV P (.build t ps) ty ρ H (.agg (fillV (zs.map absO) q)) H :=
  OpV.of_val fun g w r hw h => by
    obtain ⟨i, z, hi, hz1, hz2, hz3⟩ := hb.z.z
    obtain ⟨fs, hu, hfs⟩ := hb.u
    have hmap : ∀ (l : List Field) (pl : List (Nat × Nat)), l.map (fun f => (f.offset, (P.info? f.type).map (·.size))) = pl.map (fun p => (p.1, some p.2)) → (l.mapM (fun f => Prod.mk f.offset <$> sizeOf f.type)).run P w = .ok pl w := by
      intro l
      induction l with
      | nil => intro pl h; cases pl <;> simp_all
      | cons f l ih =>
        intro pl h
        cases pl with
        | nil => simp at h
        | cons p pl =>
          simp only [List.map_cons, List.cons.injEq, Prod.mk.injEq, Option.map_eq_some_iff] at h
          obtain ⟨⟨h1, ⟨i, hi, his⟩⟩, h3⟩ := h
          simp only [List.mapM_cons, Sem.run_bind, Sem.run_map, run_sizeOf' hi, Result.andThen_ok, Sem.run_pure, ih pl h3, h1, his]
    have hplaces : (fs.mapM (fun f => Prod.mk f.offset <$> sizeOf f.type)).run P w = .ok pl.toArray w := by
      rw [Array.mapM_eq_mapM_toList]
      simp only [Sem.run_map, hmap fs.toList pl hfs, Result.andThen_ok]
    have hzl : z.cells.size = zs.length := by rw [← hz2]; simp
    obtain ⟨arr', e1, e2, e3, e4⟩ := fill_ok (place := fun i => pl[i]?) (g := g) (w := w) (r := r) (fun _ _ h => h) hp (fun x hx => h x (by simpa [Op.operands] using hx)) (arr := z.cells) (c := zs.map absO) hzl (by simp) (fun k x v hx hv => by
      simp only [List.getElem?_map, Option.map_eq_some_iff] at hx
      obtain ⟨y, hy, rfl⟩ := hx
      rw [← hz2, Array.getElem?_toList, hv] at hy
      obtain rfl := Option.some.inj hy
      exact Rep.absO _ _ _)
    refine ⟨.agg arr', fun _ _ _ _ => ?_, .agg (by omega) e4⟩
    simp [execOp, Instr.build, run_zeroValue' hi hz1, run_underlying hu, hplaces, e1]
theorem op_buildTb {t e bytes : Nat} {x : Operand} {s : List UInt8} (ht : SlT P t e 2 bytes) (hx : Is (ρ x) (.agg [.d (.str s), .nil])) : OpV P (.buildSlice t 1 #[(0, x)]) ty ρ H (.d (.sl [tbF (s, (none, 0, 0))])) H := by
  classical
  intro g w r pos after guard dst hw h
  let ρ' : Operand → V := fun o => if o = x then .d (tbF (s, (none, 0, 0))) else ρ o
  have hρ' : ρ' x = .d (tbF (s, (none, 0, 0))) := if_pos rfl
  have hr := hx.rep (h x (by simp [Op.operands]))
  have hb := op_buildSlice (P := P) (ty := ty) (H := H) (ρ := ρ') (ds := [tbF (s, (none, 0, 0))]) (ps := #[(0, x)]) ht (.cons (by rw [hρ']; exact .r rfl) rfl (fun y hy => enTb.one (s, (none, 0, 0)) y hy) .nil) rfl (Nat.le_of_ble_eq_true rfl) g w r pos after guard dst hw (fun y hy => by
    have hy' : y = x := by simpa [Op.operands] using hy
    subst hy'
    rw [hρ']
    generalize r y = u at hr
    cases hr with
    | agg hs hc =>
      rename_i arr
      refine .d (.agg _ arr (by simpa [tbF] using hs) (fun i d v hd hv => ?_))
      have hi : i = 0 ∨ i = 1 := by
        have := (List.getElem?_eq_some_iff.1 hd).1
        simp at this; omega
      rcases hi with rfl | rfl
      · simp at hd; subst hd
        have := hc 0 _ v rfl hv
        cases this with
        | d h => exact h
      · simp at hd; subst hd
        have := hc 1 _ v rfl hv
        cases this with
        | nil => exact .raw _)
  refine hb.mono ?_
  rintro rv w' ⟨g', q1, q2, q3⟩
  refine ⟨g', q1, q2, ?_⟩
  cases q3 with
  | ex h => exact .d h
end
/-! ### a row is put in -/
section
variable {H : List HE} {e eo : TypeId}
end
section
variable {P : Program} {ρ : Operand → V} {H : List HE} {ty : TypeId} {α β : Type} {kf : β → List UInt8} {lf : β → List α} {f : α → D} {e eo : TypeId} {m m' : List β}
theorem insL_one {γ : Type} {b : Nat} {l : List γ} {i : Int} {x : γ} (h : 0 ≤ i ∧ i ≤ l.length ∧ (l.length + 1) * b ≤ 140737488355328 ∧ l.length + 1 ≤ 4611686018427387904) : insL b l i [x] = some (l.take i.toNat ++ x :: l.drop i.toNat) := if_pos h
theorem zip_mid {γ δ : Type} {a : List γ} {b : List δ} {i : Nat} {x : γ} {y : δ} (h : a.length = b.length) : (a.zip b).take i ++ (x, y) :: (a.zip b).drop i = (a.take i ++ x :: a.drop i).zip (b.take i ++ y :: b.drop i) := by
  rw [List.zip_append (by simp [h])]
  simp [List.zip, List.take_zipWith, List.drop_zipWith]
theorem map_mid {γ δ : Type} {g : γ → δ} {a : List γ} {i : Nat} {x : γ} : (a.take i ++ x :: a.drop i).map g = (a.map g).take i ++ g x :: (a.map g).drop i := by simp [List.map_take, List.map_drop]
theorem mid_get {γ δ : Type} {a : List γ} {b : List δ} {i k : Nat} {x r : γ} {y v : δ} (h : a.length = b.length) (h1 : (a.take i ++ x :: a.drop i)[k]? = some r) (h2 : (b.take i ++ y :: b.drop i)[k]? = some v) (hi : i ≤ a.length) :
    (k = i ∧ r = x ∧ v = y) ∨ (k < i ∧ a[k]? = some r ∧ b[k]? = some v) ∨ (i < k ∧ a[k - 1]? = some r ∧ b[k - 1]? = some v) := by
  have la : (a.take i).length = i := by simp; omega
  have lb : (b.take i).length = i := by simp; omega
  rcases Nat.lt_trichotomy k i with hk | hk | hk
  · rw [List.getElem?_append_left (by omega)] at h1 h2
    rw [List.getElem?_take, if_pos hk] at h1 h2
    exact .inr (.inl ⟨hk, h1, h2⟩)
  · subst hk
    rw [List.getElem?_append_right (by omega)] at h1 h2
    simp [la] at h1; simp [lb] at h2
    exact .inl ⟨rfl, h1.symm, h2.symm⟩
  · rw [List.getElem?_append_right (by omega)] at h1 h2
    rw [la] at h1; rw [lb] at h2
    obtain ⟨q, hq⟩ : ∃ q, k - i = q + 1 := ⟨k - i - 1, by omega⟩
    rw [hq, List.getElem?_cons_succ, List.getElem?_drop] at h1 h2
    have : i + q = k - 1 := by omega
    rw [this] at h1 h2
    exact .inr (.inr ⟨hk, h1, h2⟩)
theorem op_insert_tb {fop x y z : Operand} {fi : FuncId} {ts : Array TypeId} {id N res b : Nat} {k : Int} {r : β} (hc : ∀ (a : Array Value) (w : World), (callFunc fi a).run P w = .ok (.enter fi a) w)
    (hcall : ∀ {c1 : List (List UInt8 × Hd)} {k : Int} {x : List UInt8 × Hd} {r}, insL b c1 k [x] = some r → ACall P fi [.hs 0 0 c1.length 2, .d (.int .i64 k), .d (.sl ([x].map tbF))] [.lst (c1.map tbF) eo 2] fun r' H' => r' = resOf [.hs 1 0 r.length 2] ∧ H' = [.dead, .lst (r.map tbF) eo 2])
    (hf : Is (ρ fop) (.fn (.func fi) [])) (hx : Is (ρ x) (.hs id 0 N 2)) (hN : m.length = N) (hy : As (ρ y) (.int .i64 k)) (hz : As (ρ z) (.sl [tbF (kf r, (none, 0, 0))])) (hlf : lf r = []) (hH : H[id]? = some (tbE kf lf f e eo m none)) (hfr : H[res]? = some .free) (hv : insL b m k [r] = some m') :
    OpV P (.call ⟨.value fop, #[x, y, z], ts⟩) ty ρ H (.hs res 0 m'.length 2) ((H.set id .dead).set res (tbE kf lf f e eo m' none)) := by
  have hidlt : id < H.length := (List.getElem?_eq_some_iff.1 hH).1
  have hreslt : res < H.length := (List.getElem?_eq_some_iff.1 hfr).1
  obtain ⟨i, x0, rfl, hx0, hi, hb1, hb2, rfl⟩ := insL_inv hv
  injection hx0 with hx0; subst hx0
  have hne : m.take i ++ r :: m.drop i ≠ [] := by simp
  have hml : (m.take i ++ r :: m.drop i).length = m.length + 1 := by simp; omega
  have hE : tbE kf lf f e eo (m.take i ++ r :: m.drop i) none = .ob (cO (slC eo 2 (tbL ((m.take i ++ r :: m.drop i).map kf))) e (rsR f ((m.take i ++ r :: m.drop i).map lf) none)) := by unfold tbE; rw [if_neg hne]
  have hir : id ≠ res := fun e2 => by
    subst e2
    rw [hfr] at hH
    injection hH with hH
    unfold tbE at hH
    split at hH <;> cases hH
  rw [hE]
  by_cases hm : m = []
  · subst hm
    have h0 : N = 0 := hN.symm
    subst h0
    have h0 : i = 0 := by simpa using hi
    subst h0
    unfold tbE at hH
    rw [if_pos rfl] at hH
    have hins : insL b ([] : List (List UInt8 × Hd)) ((0 : Nat) : Int) [(kf r, (none, 0, 0))] = some [(kf r, (none, 0, 0))] := by
      rw [insL_one ⟨by omega, by simp, by simpa using hb1, by simp⟩]
      rfl
    have h1 := op_callOwn (P := P) (ty := ty) (ρ := ρ) (H := H) (x := x) (xs := [y, z]) (ts := ts) (ds := [.int .i64 ((0 : Nat) : Int), .sl ([(kf r, (none, 0, 0))].map tbF)]) (l := ([] : List (List UInt8 × Hd)).map tbF) (e := eo) (s := 2) (s2 := 2) (len := 0) (id := id) (res := res) hc hf hx (.a hy (.a hz .nil)) (hcall hins) hH hfr
    intro g w rr pos after guard dst hw h
    refine (h1 g w rr pos after guard dst hw h).mono ?_
    rintro rv w' ⟨g', q1, q2, q3⟩
    obtain ⟨g2, k1, k2⟩ := q1.toC (e := e) (n := res) (s := 2) (L := tbL [kf r]) (Vs := [((none, 0, 0) : Hd)]) (R := rsR f ([r].map lf) none) (by rw [List.getElem?_set_self (by simpa using hreslt)]; rfl) (by simp [tbL]) rfl (fun k r' v hr hv => by
      cases k with
      | zero => simp [rsR, hlf] at hr hv; exact ⟨hr.symm, hv.symm⟩
      | succ k => simp at hv)
    rw [List.set_set] at k1
    exact ⟨g2, k1, q2.trans k2, by simpa using q3.mono k2⟩
  · unfold tbE at hH
    rw [if_neg hm] at hH
    refine OpV.lift (L' := tbL ((m.take i ++ r :: m.drop i).map kf)) (H' := H.set id .dead) hH (by simpa using hreslt) (fun g w rr b' Vs hw hb hC hx' => ?_)
    have hl : Vs.length = m.length := by rw [hC.len, rsR_len, List.length_map]
    have hzl : ((m.map kf).zip Vs).length = m.length := by simp [hl]
    have hins : insL b ((m.map kf).zip Vs) (i : Int) [(kf r, ((none, 0, 0) : Hd))] = some (((m.map kf).zip Vs).take i ++ (kf r, (none, 0, 0)) :: ((m.map kf).zip Vs).drop i) := by
      rw [insL_one ⟨by omega, by rw [hzl]; omega, by rw [hzl]; exact hb1, by rw [hzl]; exact hb2⟩]
      simp
    have hcl := hcall hins
    rw [hzl] at hcl
    rw [zip_mid (by simp [hl]), ← map_mid] at hcl
    have h1 := op_callOwn (P := P) (ty := ty) (ρ := ρ) (H := H.set id (.lst (tbL (m.map kf) Vs) eo 2)) (x := x) (xs := [y, z]) (ts := ts) (ds := [.int .i64 (i : Int), .sl ([(kf r, (none, 0, 0))].map tbF)]) (l := ((m.map kf).zip Vs).map tbF) (e := eo) (s := 2) (s2 := 2) (len := m.length) (id := id) (res := res) hc hf (by rw [hN]; exact hx) (.a hy (.a hz .nil)) hcl (List.getElem?_set_self hidlt) (by rw [List.getElem?_set_ne hir]; exact hfr)
    rw [List.set_set] at h1
    refine ⟨ρ, _, Vs.take i ++ (none, 0, 0) :: Vs.drop i, fun o ho g1 w1 he => (hx' o ho).monoW he, h1, tbL_ne (by simp) (by simp), by simp [rsR, hl], fun q rw' u hr hu => ?_, fun q q' l1 l2 v1 v2 B hkk h1' h2' w1 w2 b1 b2 => ?_, fun g2 w2 rv he h => ?_⟩
    · simp only [rsR] at hr
      rw [map_mid, map_mid] at hr
      rcases mid_get (by simp [hl]) hr hu (by simpa using hi) with ⟨_, h1, h2⟩ | ⟨_, h1, h2⟩ | ⟨_, h1, h2⟩
      · exact .inr (.inl ⟨by rw [h1, hlf]; rfl, h2⟩)
      · exact .inl ⟨q, h1, h2⟩
      · exact .inl ⟨q - 1, h1, h2⟩
    · simp only [rsR] at h1' h2'
      rw [map_mid, map_mid] at h1' h2'
      have nil : ∀ {v : Hd} {B : Nat}, v = (none, 0, 0) → bigB v = some B → False := fun hv hB => by subst hv; simp [bigB] at hB
      rcases mid_get (by simp [hl]) h1' w1 (by simpa using hi) with ⟨_, _, h3⟩ | ⟨ha, h3, h4⟩ | ⟨ha, h3, h4⟩
      · exact nil h3 b1
      all_goals
        rcases mid_get (by simp [hl]) h2' w2 (by simpa using hi) with ⟨_, _, h5⟩ | ⟨hb, h5, h6⟩ | ⟨hb, h5, h6⟩
        · exact nil h5 b2
        all_goals exact hC.dis _ _ l1 l2 v1 v2 B (by omega) h3 h5 h4 h6 b1 b2
    · have e3 : (((m.take i ++ r :: m.drop i).map kf).zip (Vs.take i ++ (none, 0, 0) :: Vs.drop i)).length = (m.take i ++ r :: m.drop i).length := by simp [hl]
      rw [e3] at h
      exact h
end
/-! ### where ways meet -/
section
variable {α β : Type} {kf : β → List UInt8} {lf : β → List α} {f : α → D} {e eo : TypeId} {m : List β}
theorem obR_tb {S : List Nat} : ObR S (cO (slC eo 2 (tbL (m.map kf))) e (rsR f (m.map lf) none)) (cO (slC eo 2 (tbL (m.map kf))) e (rsR f (m.map lf) none)) :=
  obR_cO (C := slC eo 2 (tbL (m.map kf))) (fun {g w i j b Vs} hS ⟨cap, arr, h1, h2⟩ => ⟨cap, arr, by simp only [G.ren, hS, Option.bind_some]; exact h1, h2⟩) (fun r hr => by
    simp only [rsR] at hr
    obtain ⟨q, _, rfl⟩ := List.mem_map.1 hr
    exact ⟨_, rfl⟩)
theorem LeRH.tb {S T : List Nat} {H K : List HE} {i : Nat} (h : H[i]? = some (tbE kf lf f e eo m none)) (hr : LeRH S H T K) : LeRH S H (i :: T) (tbE kf lf f e eo m none :: K) := by
  unfold tbE at h ⊢
  by_cases hm : m = []
  · rw [if_pos hm] at h ⊢; exact .lst h hr
  · rw [if_neg hm] at h ⊢; exact .ob h obR_tb hr
theorem AW.tbize {F : FC} {Q : Exit → St → Prop} {c : Code} {E : Nat → V} {H : List HE} (kf : β → List UInt8) (lf : β → List α) (f : α → D) (t : Nat) (e eo : TypeId) {n : Nat} (ht : E t = .ex []) (hn : H.length = n)
    (h : AW F c Q ⟨upd E t (.hs n 0 ([] : List β).length 2), H ++ [tbE kf lf f e eo ([] : List β) none]⟩) : AW F c Q ⟨E, H⟩ := by
  have he : tbE kf lf f e eo ([] : List β) none = .lst [] eo 2 := by unfold tbE; rw [if_pos rfl]
  rw [he] at h
  exact AW.lstize t eo 2 ht hn h
theorem Gh.free {F : FC} {E : Nat → V} {H : List HE} : Gh F ⟨E, H⟩ ⟨E, H ++ [.free]⟩ := Gh.wok fun g w hw => ⟨g, hw.addFree, .refl g w⟩
end
end
section
/- Tables whose lists are made one by one, or taken one by one. Conditions: none. -/
open Go
/-! ### made one by one -/
section
variable {α β : Type}
variable {kf : β → List UInt8} {lf : β → List α} {f : α → D} {e eo : TypeId} {m : List β} {p : List β × Nat} {r : β} {a : Int}
end
section
variable {P : Program} {ρ : Operand → V} {H : List HE} {ty : TypeId} {α β : Type} {kf : β → List UInt8} {lf : β → List α} {f : α → D} {e eo : TypeId} {p : List β × Nat} {r : β} {a : Int}
end
section
variable {F : FC} {E : Nat → V} {H : List HE} {α β : Type} {kf : β → List UInt8} {lf : β → List α} {f : α → D} {e eo : TypeId} {p : List β × Nat} {r r' : β} {a : Int}
end
section
variable {α β : Type} {kf : β → List UInt8} {lf : β → List α} {f : α → D} {e eo : TypeId} {p : List β × Nat}
end
/-! ### taken one by one -/
section
variable {α β : Type}
end
section
variable {P : Program} {ρ : Operand → V} {H : List HE} {ty : TypeId} {α β : Type} {kf : β → List UInt8} {lf : β → List α} {f : α → D} {e eo N : Nat} {m : List β}
end
section
variable {F : FC} {E : Nat → V} {H : List HE} {α β : Type} {kf : β → List UInt8} {lf : β → List α} {f : α → D} {e eo N : Nat} {m : List β} {a : Int} {q : β × List β}
end
section
variable {α β : Type} {kf : β → List UInt8} {lf : β → List α} {f : α → D} {e eo N : Nat} {m : List β}
end
end
section
/- Calls that are handed tables, where the order is open too; a table under a new number. Conditions: none. -/
open Go
section
variable {g : G} {w : World} {H : List HE}
theorem WOK.delFree (hw : WOK g w (H ++ [.free])) : WOK g w H := by
  have up : ∀ {i : Nat} {x : HE}, H[i]? = some x → (H ++ [HE.free])[i]? = some x := fun {i x} h => by
    rw [List.getElem?_append_left (List.getElem?_eq_some_iff.1 h).1]; exact h
  refine ⟨hw.pr, hw.xs, fun i x b h => hw.blk i x b (up h), fun i i' x x' b h h' => hw.sep i i' x x' b (up h) (up h'), fun i c h => hw.row i c (up h), fun i n e s h => hw.tok i n e s (up h), fun i l e s h => hw.lst i l e s (up h), fun i x h => hw.ob i x (up h), fun i h => ?_, hw.kc⟩
  rcases h with h | h
  · exact hw.free i (.inl (up h))
  · by_cases hi : i = H.length
    · subst hi; exact hw.free _ (.inl (by simp))
    · exact hw.free i (.inr (by simp; omega))
theorem ACall.fr {P : Program} {f : FuncId} {args : List V} {H : List HE} {R : V → List HE → Prop} (h : ACall P f args H R) : ACall P f args (H ++ [.free]) R :=
  fun g w vals hw => h g w vals hw.delFree
theorem mergeH_rw {ids : List Nat} {H1 L H' : List HE} (h : H1.map (HE.rn (glob ids H.length)) = L) (h2 : setAll H ids (L.take ids.length) ++ L.drop ids.length = H') : mergeH H ids H1 = H' := by
  subst h; subst h2
  simp only [mergeH, List.map_take, List.map_drop]
theorem allS_nil : ([] : List HE).all HE.simple = true := rfl
theorem allS_c {x : HE} {l : List HE} (hx : x.simple = true) (h : l.all HE.simple = true) : (x :: l).all HE.simple = true := by rw [List.all_cons, hx, h]; rfl
theorem allS_tb {α β : Type} {kf : β → List UInt8} {lf : β → List α} {f : α → D} {e eo : TypeId} {m : List β} {l : List HE} (h : l.all HE.simple = true) : (tbE kf lf f e eo m none :: l).all HE.simple = true := allS_c tbE_simple h
theorem mapR_nil {p : Nat → Nat} : ([] : List HE).map (HE.rn p) = [] := rfl
theorem mapR_c {p : Nat → Nat} {x x' : HE} {l l' : List HE} (hx : x.rn p = x') (h : l.map (HE.rn p) = l') : (x :: l).map (HE.rn p) = x' :: l' := by rw [List.map_cons, hx, h]
theorem mapR_tb {α β : Type} {kf : β → List UInt8} {lf : β → List α} {f : α → D} {e eo : TypeId} {m : List β} {p : Nat → Nat} {l l' : List HE} (h : l.map (HE.rn p) = l') : (tbE kf lf f e eo m none :: l).map (HE.rn p) = tbE kf lf f e eo m none :: l' := mapR_c tbE_rn h
theorem WOK.moveOb {id n : Nat} {x : OB} (hw : WOK g w H) (hfr : x.fr = true) (hH : H[id]? = some (.ob x)) (hn : H[n]? = some .free) :
    ∃ g', WOK g' w ((H.set id .dead).set n (.ob x)) ∧ Evo g w g' w ∧ g'.τ n = g.τ id ∧ g'.τ id = g.τ id := by
  have hidlt : id < H.length := (List.getElem?_eq_some_iff.1 hH).1
  have hnlt : n < H.length := (List.getElem?_eq_some_iff.1 hn).1
  have hne : n ≠ id := fun h => by subst h; rw [hH] at hn; cases hn
  obtain ⟨hfσ, hfτ, hfυ⟩ := hw.free n (.inl hn)
  let g' : G := { σ := fun i => if i = n then g.σ id else g.σ i, τ := fun i => if i = n then g.τ id else g.τ i, υ := fun i => if i = n then g.υ id else g.υ i, X := g.X, Pr := g.Pr }
  have hσ' : ∀ i, i ≠ n → g'.σ i = g.σ i := fun i h => by simp [g', h]
  have hτ' : ∀ i, i ≠ n → g'.τ i = g.τ i := fun i h => by simp [g', h]
  have hυ' : ∀ i, i ≠ n → g'.υ i = g.υ i := fun i h => by simp [g', h]
  have hσn : g'.σ n = g.σ id := by simp [g']
  have hτn : g'.τ n = g.τ id := by simp [g']
  have hυn : g'.υ n = g.υ id := by simp [g']
  have hev : Evo g w g' w := {
    same := ⟨rfl, rfl, rfl⟩
    size := Nat.le_refl _
    pr := fun b o hp => ⟨hp, rfl⟩
    prn := fun b o h => .inl h
    x := fun b h => .inl h
    keep := fun b _ _ => rfl
    σ := fun i b h => by
      have : i ≠ n := fun e => by subst e; rw [hfσ] at h; cases h
      rw [hσ' i this]; exact h
    τ := fun i m a cap h => by
      have : i ≠ n := fun e => by subst e; rw [hfτ] at h; cases h
      exact ⟨m, a, cap, by rw [hτ' i this]; exact h, .inr ⟨rfl, rfl, rfl⟩⟩ }
  have hget : ∀ {i : Nat} {y : HE}, (i = id ∨ i = n) → ((H.set id .dead).set n (.ob x))[i]? = some y → (i = n ∧ y = .ob x) ∨ y = .dead := fun {i y} hi he => by
    by_cases h : i = n
    · subst h; rw [List.getElem?_set_self (by simpa using hnlt)] at he; exact .inl ⟨rfl, (Option.some.inj he).symm⟩
    · obtain rfl := hi.resolve_right h
      rw [List.getElem?_set_ne (Ne.symm h), List.getElem?_set_self hidlt] at he
      exact .inr (Option.some.inj he).symm
  obtain ⟨b, k1, k2, k3, k4⟩ := hw.ob id x hH
  refine ⟨g', ?_, hev, hτn, hτ' _ (Ne.symm hne)⟩
  refine WOK.chg2 (fun i => i = id ∨ i = n) hw hev (by simp) (fun i h => by rcases h with rfl | rfl <;> assumption) (fun i h => by
    rw [List.getElem?_set_ne (fun e => h (.inr e.symm)), List.getElem?_set_ne (fun e => h (.inl e.symm))]) (fun i h => ⟨hσ' i fun e => h (.inr e), hτ' i fun e => h (.inr e), hυ' i fun e => h (.inr e)⟩) (fun i e b _ h1 h2 => hw.blk i e b h1 h2) hw.xs hw.pr (fun _ _ _ _ _ _ => ⟨rfl, fun _ h => h⟩) ?_ ?_ ?_
  · intro i y b' hi h1 h2
    rcases hget hi h1 with ⟨rfl, rfl⟩ | rfl
    · have h3 : g.blk id (.ob x) b' := by
        rcases h2 with h2 | h2
        · exact .inl (hσn ▸ h2)
        · exact .inr (hυn ▸ h2)
      exact ⟨hw.blk id _ b' hH h3, id, _, .inl rfl, hH, h3⟩
    · exact h2.elim
  · intro i i' y y' b' hi hi' h1 h1' h2 h2'
    rcases hget hi h1 with ⟨rfl, rfl⟩ | rfl
    · rcases hget hi' h1' with ⟨rfl, rfl⟩ | rfl
      · rfl
      · exact h2'.elim
    · exact h2.elim
  · intro i y hi h1
    rcases hget hi h1 with ⟨rfl, rfl⟩ | rfl
    · exact .inr (.inl ⟨x, rfl, b, hσn.trans k1, x.fre hfr (g := g) (g' := g') rfl hτn hυn k2, k3, fun b' o hu => k4 b' o (hυn ▸ hu)⟩)
    · exact .inl rfl
end
section
variable {F : FC} {H : List HE} {α β : Type} {kf : β → List UInt8} {lf : β → List α} {f : α → D} {e eo : TypeId} {m : List β}
theorem AW.moveT {Q : Exit → St → Prop} {c : Code} {E : Nat → V} {len n : Nat} (id : Nat) (ts : List Nat) (hH : H[id]? = some (tbE kf lf f e eo m none)) (hn : H.length = n)
    (hE : SameE E (.hs id 0 len 2) ts) (h : AW F c Q ⟨setE E ts (.hs n 0 len 2), H.set id .dead ++ [tbE kf lf f e eo m none]⟩) : AW F c Q ⟨E, H⟩ := by
  subst hn
  rintro a w ⟨h1, h2, g, h3, h4, h5⟩
  have hidlt : id < H.length := (List.getElem?_eq_some_iff.1 hH).1
  obtain ⟨g', w1, w2, w3, w6⟩ : ∃ g', WOK g' w (((H ++ [HE.free]).set id .dead).set H.length (tbE kf lf f e eo m none)) ∧ Evo g w g' w ∧ g'.τ H.length = g.τ id ∧ g'.τ id = g.τ id := by
    have hH' : (H ++ [HE.free])[id]? = some (tbE kf lf f e eo m none) := by rw [List.getElem?_append_left hidlt]; exact hH
    by_cases hm : m = []
    · have hE : tbE kf lf f e eo m none = .lst [] eo 2 := if_pos hm
      rw [hE] at hH' ⊢
      obtain ⟨g', q1, q2, q3, _, _, q6⟩ := h3.addFree.moveLst (id := id) (n := H.length) hH' (by simp)
      exact ⟨g', q1, q2, q3, q6⟩
    · have hE : tbE kf lf f e eo m none = .ob (cO (slC eo 2 (tbL (m.map kf))) e (rsR f (m.map lf) none)) := if_neg hm
      have hs := tbE_simple (kf := kf) (lf := lf) (f := f) (e := e) (eo := eo) (m := m)
      rw [hE] at hH' hs ⊢
      exact h3.addFree.moveOb (id := id) (n := H.length) hs hH' (by simp)
  rw [set_last2 _ _ _ hidlt] at w1
  refine h a w ⟨h1, h2, g', w1, h4.trans w2, fun i => setE_rep ((h5 i).mono w2) (fun hr => ?_) hE⟩
  generalize a.tmps.getD i undef = r at hr ⊢
  cases hr with
  | @hs _ _ _ _ m cap' n0 c0 a' a0' p1 p2 =>
    exact .hs (w3.trans (w6.symm.trans p1)) p2
end
/-! ### ranges over maps whose order is seen -/
noncomputable def rangeK {σ τ α ε : Type} (f : σ → α → Option (σ ⊕ τ)) (fin : σ → τ) (s : σ) (l : List α) (k : τ → Option ε) : Option ε :=
  (rangeM (fun s e => (f s e).map (Sum.map id k)) (fun s => k (fin s)) s l).bind id
theorem AW.loopRK {F : FC} {Q : Exit → St → Prop} {σ τ α ε : Type} {body : Code} {E : Nat → V} {H : List HE} (n0 : Nat) (keep : List Nat) (m : σ → List (Nat × V)) (K : σ → OB → List HE)
    {f : σ → α → Option (σ ⊕ τ)} {fin : σ → τ} {fx : α → D × D} {l : List α} {s0 : σ} {k : τ → Option ε} {r : ε} {rg dn dk it B mid rid : Nat} {ty1 ty2 : TypeId} {p1 p2 : String} {a1 a2 : Array Edge}
    (hr : rangeK f fin s0 l k = some r) (hg : ∀ id, n0 ≤ id → F.g0.σ id = none ∧ F.g0.τ id = none) (h0 : Meets n0 E keep (m s0) (K s0 (itO mid l.length [])) ⟨E, H⟩)
    (hit : ∀ s, Ab.head keep E (m s) it = .ptr rid 0) (hK1 : ∀ s x, (K s x)[rid]? = some (.ob x)) (hK2 : ∀ s x, (K s x)[mid]? = some (.ob (mpO (l.map fx)))) (hset : ∀ s x y, (K s x).set rid (.ob y) = K s y)
    (hd1 : dlt (some dn) F.n = true) (hd2 : dlt (some dk) F.n = true)
    (step : ∀ (inv : σ → Prop) (s : σ) (e : α) (S : List Nat) (i : Nat) (y : σ ⊕ τ), l[i]? = some e → f s e = some y → (match y with | .inl s' => inv s' | .inr v => k v = some r) →
      AW F body (thenQ (fun st => ∃ s', inv s' ∧ Meets n0 E keep (m s') (K s' (itO mid l.length (S ++ [i]))) st) Q) ⟨upd (upd (Ab.head keep E (m s)) dn (.tup [.d (.bool true), .d (fx e).1, .d (fx e).2])) dk (.d (.bool true)), K s (itO mid l.length (S ++ [i]))⟩)
    (done : ∀ (s : σ) (S : List Nat), k (fin s) = some r → Q (.exit B) ⟨upd (upd (Ab.head keep E (m s)) dn (.tup [.d (.bool false)])) dk (.d (.bool false)), K s (itO mid l.length S)⟩) :
    AW F (.loop (.seq (.region rg #[⟨some dn, .next (.tmp it) false, ty1, p1, a1, none⟩, ⟨some dk, .extract (.tmp dn) 0, ty2, p2, a2, none⟩] false) (.seq (.cond (.tmp dk) .skip (.exit B)) body))) Q ⟨E, H⟩ := by
  obtain ⟨t, h1, h2⟩ := Option.bind_eq_some_iff.1 hr
  have h2' : t = some r := h2
  subst h2'
  refine AW.loopR n0 keep m K h1 hg h0 hit hK1 hK2 hset hd1 hd2 (fun inv s e S i y he hy hm => ?_) (fun s S h => done s S (Option.some.inj h))
  obtain ⟨y0, h3, rfl⟩ := Option.map_eq_some_iff.1 hy
  refine step inv s e S i y0 he h3 ?_
  cases y0 with
  | inl s' => exact hm
  | inr v => exact Option.some.inj hm
theorem rangeK_of {σ τ α ε : Type} {f : σ → α → Option (σ ⊕ τ)} {fin : σ → τ} {s : σ} {l : List α} {k : τ → Option ε} {r : ε} (h : ∀ p : List α, p.Perm l → (iterR f fin s p).bind k = some r) : rangeK f fin s l k = some r := by
  unfold rangeK
  have : rangeM (fun s e => (f s e).map (Sum.map id k)) (fun s => k (fin s)) s l = some (some r) := by
    refine rangeM_of fun p hp => ?_
    have key : ∀ (p : List α) (s : σ) (t : τ), iterR f fin s p = some t → iterR (fun s e => (f s e).map (Sum.map id k)) (fun s => k (fin s)) s p = some (k t) := by
      intro p
      induction p with
      | nil => intro s t h; have h' : some (fin s) = some t := h; injection h' with h'; subst h'; rfl
      | cons x p ih =>
        intro s t h
        have h' : (f s x).bind (fun r => match r with | .inl s' => iterR f fin s' p | .inr t => some t) = some t := h
        obtain ⟨y, h3, h4⟩ := Option.bind_eq_some_iff.1 h'
        unfold iterR
        simp only [h3, Option.map_some, Option.bind_some]
        cases y with
        | inl s' => exact ih s' t h4
        | inr v => injection h4 with h4; subst h4; rfl
    obtain ⟨t, h3, h4⟩ := Option.bind_eq_some_iff.1 (h p hp)
    rw [key p s t h3, h4]
  rw [this]; rfl
end
end Go.Proofs.YtkdefjliknpliaaGreatDoor.Ab
