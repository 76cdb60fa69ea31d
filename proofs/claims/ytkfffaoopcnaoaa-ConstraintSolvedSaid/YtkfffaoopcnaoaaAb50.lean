/- Plain laws, joined. Conditions: none. -/
import Derived.Test.YtkfffaoopcnaoaaAb46
import Derived.ArgAppend
namespace Go.Proofs.Ytkfffaoopcnaoaa.Ab
section
/- Going through a map of growing lists, each of which is written. Conditions: none. -/
open Go

/-! ### the plain language -/
section
variable {κ α : Type} [DecidableEq κ]
def rowsM (h : List α → Option (List α)) : List (κ × List α) → Option (List (κ × List α))
  | [] => some []
  | q :: l => (h q.2).bind fun r => (rowsM h l).bind fun t => some ((q.1, r) :: t)
omit [DecidableEq κ] in
theorem rowsM_get {h : List α → Option (List α)} : ∀ {l t : List (κ × List α)}, rowsM h l = some t → t.length = l.length ∧ ∀ (i : Nat) q, l[i]? = some q → ∃ r, h q.2 = some r ∧ t[i]? = some (q.1, r)
  | [], t, e => by
    injection e with e; subst e
    exact ⟨rfl, fun i q h => by simp at h⟩
  | q :: l, t, e => by
    unfold rowsM at e
    obtain ⟨r, h1, h2⟩ := Option.bind_eq_some_iff.1 e
    obtain ⟨t', h3, h4⟩ := Option.bind_eq_some_iff.1 h2
    injection h4 with h4; subst h4
    obtain ⟨k1, k2⟩ := rowsM_get h3
    refine ⟨by simp [k1], fun i q' hq => ?_⟩
    cases i with
    | zero => simp at hq; subst hq; exact ⟨r, h1, rfl⟩
    | succ i => simpa using k2 i q' (by simpa using hq)
end

section
variable {P : Program} {ρ : Operand → V} {H : List HE} {ty : TypeId} {κ α : Type} [DecidableEq κ] {fk : κ → D} {f : α → D} {e : TypeId} {m : List (κ × List α)} {L : List (κ × Nat × Nat)}
theorem op_rangeMapR {x : Operand} {t kt et : TypeId} {mid n : Nat} (ht : P.underlying t = some (.map kt et)) (hx : Is (ρ x) (.mp mid)) (hH : H[mid]? = some (.ob (rmO fk f e m L))) (hn : H.length = n) :
    OpV P (.range t x) ty ρ H (.ptr n 0) (H ++ [.ob (itO mid m.length [])]) := by
  subst hn
  intro g w r pos after guard dst hw h
  obtain ⟨b, hb, hr⟩ := hx.mp (h x (by simp [Op.operands]))
  obtain ⟨b', f1, ⟨Vs, hC⟩, _⟩ := hw.ob mid _ hH
  obtain rfl : b = b' := by rw [hb] at f1; exact Option.some.inj f1
  obtain ⟨q1, ⟨es, c1, c2, c3, c4⟩, c5⟩ := hC.c
  obtain ⟨g', h1, h2, h3⟩ := hw.addFree.newOb (id := H.length) (x0 := itO mid m.length []) (o0 := .mapIter (some b) m.length #[] m.length) (by simp) (fun g' w' he hh => ⟨b, he.σ _ _ hb, hh⟩)
  rw [set_last] at h1
  unfold OpRuns
  simp [execOp, hr, Instr.range, run_underlying ht, MapKept.run_getObj_map c1, Result.andThen]
  exact ⟨g', h1, h2, .ptr h3⟩
theorem op_entryR {x : Operand} {mid rid i n len : Nat} {S : List Nat} {q : κ × List α} (hx : Is (ρ x) (.ptr rid 0)) (hH : H[rid]? = some (.ob (itO mid m.length (S ++ [i])))) (hM : H[mid]? = some (.ob (rmO fk f e m L))) (he : m[i]? = some q) (hk : lget L q.1 = some (n, len)) :
    OpV P (.entry x) ty ρ H (.tup [.d (fk q.1), .hs n 0 len 1]) H :=
  OpV.of_val fun g w r hw h => by
    obtain ⟨b, f1, ⟨Vs, hC⟩, _⟩ := hw.ob mid _ hM
    obtain ⟨p1, ⟨es, c1, c2, c3, c4⟩, c5⟩ := hC.c
    simp only [List.length_map] at c1 c2 c3
    obtain ⟨rb, r1, ⟨bm, r2, r3⟩, _⟩ := hw.ob rid _ hH
    obtain rfl : b = bm := by rw [f1] at r2; exact Option.some.inj r2
    have hp := hx.rep (h x (by simp [Op.operands]))
    generalize hr : r x = u at hp
    cases hp with
    | @ptr _ _ b' hb =>
      obtain rfl : b' = rb := by rw [hb] at r1; exact Option.some.inj r1
      have him : i < m.length := (List.getElem?_eq_some_iff.1 he).1
      have hi : i < es.size := by omega
      have hiV : i < Vs.length := by omega
      have hei : es[i]? = some es[i] := by simp [hi]
      obtain ⟨q1, q2, q3⟩ := c4 i (fk q.1) es[i] Vs[i] (by simp [he]) hei (by simp [hiV])
      have hnd : (es.toList.map (·.born)).Nodup := by
        have : es.toList.map (·.born) = List.range es.size := by
          apply List.ext_getElem
          · simp
          · intro k h1 h2
            simp only [List.length_map, Array.length_toList] at h1
            have hkm : k < m.length := by omega
            have := (c4 k (fk m[k].1) es[k] (Vs[k]'(by omega)) (by simp [hkm]) (by simp [h1]) (by simp [show k < Vs.length by omega])).1
            simp [this]
        rw [this]; exact List.nodup_range
      have hrun := run_entry_at (P := P) w b' b m.length S.toArray es m.length es[i] (by rw [q1]; simpa using r3) c1 (by simp) hnd
      have hrow := hC.row i (.lent n len) Vs[i] (by rw [rmR_at he]; unfold rowOf; rw [hk]) (by simp [hiV])
      refine ⟨.tuple #[es[i].key, es[i].val], fun _ _ _ _ => by simp [execOp, hr, hrun], .tup rfl (fun k y v hy hv => ?_)⟩
      match k, hy, hv with
      | 0, hy, hv => simp at hy hv; subst hy; subst hv; exact .d q2
      | 1, hy, hv =>
        simp at hy hv; subst hy; subst hv
        rw [q3]
        exact rep_lent (g := g) (w := w) ⟨fun _ _ h => ⟨h, rfl⟩, fun _ _ h => h, fun _ m a cap h => ⟨m, a, cap, h, .inr ⟨rfl, rfl, rfl⟩⟩⟩ hrow (.d (.raw _))
      | k + 2, hy, _ => simp at hy
theorem op_nextR {x : Operand} {mid rid : Nat} {S : List Nat} (hx : Is (ρ x) (.ptr rid 0)) (hH : H[rid]? = some (.ob (itO mid m.length S))) (hM : H[mid]? = some (.ob (rmO fk f e m L))) :
    OpVN P (.next x false) ty ρ H fun v H' => (v = .tup [.d (.bool false)] ∧ H' = H ∧ ∀ i, i < m.length → i ∈ S) ∨
      ∃ i q, m[i]? = some q ∧ i ∉ S ∧ v = .tup [.d (.bool true), .d (fk q.1), .any] ∧ H' = H.set rid (.ob (itO mid m.length (S ++ [i]))) := by
  intro g w r pos after guard dst hw h
  obtain ⟨b, f1, ⟨Vs, hC⟩, _⟩ := hw.ob mid _ hM
  obtain ⟨p1, ⟨es, c1, c2, c3, c4⟩, c5⟩ := hC.c
  simp only [List.length_map] at c1 c2 c3
  obtain ⟨rb, r1, ⟨bm, r2, r3⟩, _⟩ := hw.ob rid _ hH
  obtain rfl : b = bm := by rw [f1] at r2; exact Option.some.inj r2
  have hp := hx.rep (h x (by simp [Op.operands]))
  generalize hr : r x = u at hp
  cases hp with
  | @ptr _ _ b' hb =>
    obtain rfl : b' = rb := by rw [hb] at r1; exact Option.some.inj r1
    have idx : ∀ en ∈ es.toList, ∃ i q, m[i]? = some q ∧ es[i]? = some en ∧ en.born = i ∧ RepD g.Pr w (fk q.1) en.key := by
      intro en he
      obtain ⟨i, hi⟩ := List.getElem?_of_mem he
      rw [Array.getElem?_toList] at hi
      have hil : i < m.length := by have := (Array.getElem?_eq_some_iff.1 hi).1; omega
      obtain ⟨q1, q2, q3⟩ := c4 i (fk m[i].1) en (Vs[i]'(by omega)) (by simp [hil]) hi (by simp [show i < Vs.length by omega])
      exact ⟨i, m[i], List.getElem?_eq_getElem hil, hi, q1, q2⟩
    have hold : ∀ x ∈ es.toList, x.born < m.length := by
      intro en he
      obtain ⟨i, x, k1, _, k2, _⟩ := idx en he
      rw [k2]; exact (List.getElem?_eq_some_iff.1 k1).1
    rcases run_next_at (P := P) w ty b' b m.length m.length S.toArray es m.length r3 c1 hold (Nat.le_refl _) with ⟨l0, hrun⟩ | ⟨en, he, w1, hw1, hrun⟩
    · unfold OpRuns
      simp [execOp, hr, hrun]
      refine ⟨g, _, H, .inl ⟨rfl, rfl, fun i hi => ?_⟩, hw, .refl _ _, .tup rfl (fun k y v hy hv => ?_)⟩
      · have hie : i < es.size := by omega
        have hq := (c4 i (fk m[i].1) es[i] (Vs[i]'(by omega)) (by simp [hi]) (by simp [hie]) (by simp [show i < Vs.length by omega])).1
        have hl : leftOf es S.toArray = #[] := Array.eq_empty_of_size_eq_zero l0
        unfold leftOf at hl
        rw [Array.filter_eq_empty_iff] at hl
        have := hl es[i] (by simp)
        simpa [hq] using this
      · match k, hy, hv with
        | 0, hy, hv => simp at hy hv; subst hy; subst hv; exact .d (.bool _)
        | k + 1, hy, _ => simp at hy
    · have hmem : en ∈ es.toList ∧ ¬ S.toArray.contains en.born = true := by
        unfold leftOf at he
        simp only [Array.toList_filter, List.mem_filter] at he
        exact ⟨he.1, by simpa using he.2⟩
      obtain ⟨i, q, k1, k2, k3, k4⟩ := idx en hmem.1
      have hiS : i ∉ S := by
        have := hmem.2
        rw [k3] at this
        simpa using this
      have hww : WOK g w1 H ∧ Evo g w g w1 := by
        rcases hw1 with rfl | rfl
        · exact ⟨hw, .refl _ _⟩
        · exact hw.drew
      have r3' : w1.heap[b']? = some (.mapIter (some b) m.length S.toArray m.length) := by rcases hw1 with rfl | rfl <;> exact r3
      have hbl : b' < w1.heap.size := (Array.getElem?_eq_some_iff.1 r3').1
      obtain ⟨j1, j2⟩ := hww.1.setOb (x1 := itO mid m.length (S ++ [i])) (w' := ChangeMaps.setBlock w1 b' (.mapIter (some b) m.length (S.toArray.push en.born) m.length)) hH hb ⟨rfl, rfl, rfl⟩ (by simp [ChangeMaps.setBlock]) (fun b2 hne => by
        show (w1.heap.setIfInBounds b' _)[b2]? = _
        rw [Array.getElem?_setIfInBounds_ne (Ne.symm hne)]) (fun _ => ⟨b, f1, by
          show (w1.heap.setIfInBounds b' _)[b']? = _
          rw [Array.getElem?_setIfInBounds_self_of_lt hbl, k3]; simp⟩)
      have hev := hww.2.trans j2
      unfold OpRuns
      simp only [execOp, hr, Sem.run_bind, hrun, Result.andThen_ok, Sem.run_pure]
      refine ⟨g, _, _, .inr ⟨i, q, k1, hiS, rfl, rfl⟩, j1, hev, .tup rfl (fun k y v hy hv => ?_)⟩
      match k, hy, hv with
      | 0, hy, hv => simp at hy hv; subst hy; subst hv; exact .d (.bool _)
      | 1, hy, hv => simp at hy hv; subst hy; subst hv; exact .d (k4.mono hev.pr)
      | 2, hy, hv => simp at hy hv; subst hy; subst hv; exact .any
      | k + 3, hy, _ => simp at hy
end

/-- A loop that writes the lists of a map, each by itself. -/
theorem AW.loopRows {F : FC} {Q : Exit → St → Prop} {κ α : Type} [DecidableEq κ] {fk : κ → D} {f : α → D} {e : TypeId} {body : Code} {E : Nat → V} {H : List HE} (n0 : Nat) (keep : List Nat) (m : List (Nat × V)) (K : List (κ × List α) → OB → List HE)
    {h : List α → Option (List α)} {l t : List (κ × List α)} {rg dn dk it B mid rid : Nat} {ty1 ty2 : TypeId} {p1 p2 : String} {a1 a2 : Array Edge}
    (hr : rowsM h l = some t) (hg : ∀ id, n0 ≤ id → F.g0.σ id = none ∧ F.g0.τ id = none) (hH : H[mid]? = some (.ob (rmO fk f e l []))) (h0 : Meets n0 E keep m (K l (itO mid l.length [])) ⟨E, H⟩)
    (hit : Ab.head keep E m it = .ptr rid 0) (hK1 : ∀ s x, (K s x)[rid]? = some (.ob x)) (hK2 : ∀ s x, (K s x)[mid]? = some (.ob (rmO fk f e s []))) (hset : ∀ s x y, (K s x).set rid (.ob y) = K s y)
    (hd1 : dlt (some dn) F.n = true) (hd2 : dlt (some dk) F.n = true)
    (step : ∀ (s : List (κ × List α)) (S : List Nat) (i : Nat) (q : κ × List α) (r : List α), s.length = l.length → s[i]? = some q → mget s q.1 = some q.2 → h q.2 = some r →
      AW F body (thenQ (fun st => Meets n0 E keep m (K (mput s q.1 r) (itO mid l.length (S ++ [i]))) st) Q) ⟨upd (upd (Ab.head keep E m) dn (.tup [.d (.bool true), .d (fk q.1), .any])) dk (.d (.bool true)), K s (itO mid l.length (S ++ [i]))⟩)
    (done : ∀ (S : List Nat), Q (.exit B) ⟨upd (upd (Ab.head keep E m) dn (.tup [.d (.bool false)])) dk (.d (.bool false)), K t (itO mid l.length S)⟩) :
    AW F (.loop (.seq (.region rg #[⟨some dn, .next (.tmp it) false, ty1, p1, a1, none⟩, ⟨some dk, .extract (.tmp dn) 0, ty2, p2, a2, none⟩] false) (.seq (.cond (.tmp dk) .skip (.exit B)) body))) Q ⟨E, H⟩ := by
  intro a w hs
  have hnd : (l.map Prod.fst).Nodup := by
    obtain ⟨_, _, g, hw, _⟩ := hs
    exact nodup_of hw hH
  obtain ⟨ht1, ht2⟩ := rowsM_get hr
  refine (AW.loop (F := F) (Q := Q) (α := List Nat × List (κ × List α)) (fun x => x.2.length = l.length ∧ ∀ (i : Nat), x.2[i]? = if i ∈ x.1 then t[i]? else l[i]?) (fun x => ⟨Ab.head keep E m, K x.2 (itO mid l.length x.1)⟩) (fun x => (left l x.1 (List.range l.length)).length) ([], l) ⟨rfl, fun i => by simp⟩ (fun _ _ hs => meets_sim hg hs h0) ?_) a w hs
  rintro ⟨S, s⟩ ⟨hI1, hI2⟩
  dsimp only at hI1 hI2
  have hkey : ∀ (i : Nat), (s[i]?).map Prod.fst = (l[i]?).map Prod.fst := fun i => by
    rw [hI2 i]
    by_cases hi : i ∈ S
    · rw [if_pos hi]
      cases hl : l[i]? with
      | none =>
        have := List.getElem?_eq_none_iff.1 hl
        rw [List.getElem?_eq_none (by omega)]
      | some q =>
        obtain ⟨r, _, h2⟩ := ht2 i q hl
        rw [h2]; rfl
    · rw [if_neg hi]
  have hkeys : s.map Prod.fst = l.map Prod.fst := by
    apply List.ext_getElem?
    intro i
    rw [List.getElem?_map, List.getElem?_map, hkey i]
  have hnds : (s.map Prod.fst).Nodup := by rw [hkeys]; exact hnd
  refine AW.seqR ?_
  refine AL.stepN hd1 (op_nextR (fk := fk) (f := f) (e := e) (m := s) (L := []) (mid := mid) (rid := rid) (S := S) (.e hit) (by rw [hI1]; exact hK1 s _) (hK2 s _)) ?_
  rintro v H' (⟨rfl, rfl, hall⟩ | ⟨i, q, hq, hiS, rfl, rfl⟩)
  · refine AL.s (v := .d (.bool false)) (H' := K s (itO mid l.length S)) hd2 (op_extractV (l := [.d (.bool false)]) (.e (upd_same _ _ _)) rfl) ?_
    refine AL.nil ?_
    refine AW.seq ?_
    refine AW.cond (b := false) (upd_same _ _ _) (fun h => by cases h) (fun _ => ?_)
    refine AW.exit ?_
    refine tq_exit ?_
    refine tq_exit ?_
    have est : s = t := by
      apply List.ext_getElem?
      intro i
      by_cases hi : i < s.length
      · rw [hI2 i, if_pos (hall i hi)]
      · rw [List.getElem?_eq_none (by omega), List.getElem?_eq_none (by omega)]
    rw [est]
    exact done S
  · rw [hI1, hset]
    refine AL.s (v := .d (.bool true)) (H' := K s (itO mid l.length (S ++ [i]))) hd2 (op_extractV (l := [.d (.bool true), .d (fk q.1), .any]) (.e (upd_same _ _ _)) rfl) ?_
    refine AL.nil ?_
    refine AW.seq ?_
    refine AW.cond (b := true) (upd_same _ _ _) (fun _ => ?_) (fun h => by cases h)
    refine AW.skip ?_
    refine nq ?_
    have hli : l[i]? = some q := by
      have := hI2 i
      rw [if_neg hiS, hq] at this
      exact this.symm
    have hil : i < l.length := (List.getElem?_eq_some_iff.1 hli).1
    obtain ⟨r, hr1, hr2⟩ := ht2 i q hli
    have hfi := mfind_at hnds hq
    have hmg : mget s q.1 = some q.2 := by unfold mget; rw [hfi]; simp [hq]
    have hput : mput s q.1 r = s.set i (q.1, r) := by unfold mput; rw [hfi]
    have hperm := left_take hli hiS List.nodup_range (List.mem_range.2 hil)
    refine (step s S i q r hI1 hq hmg hr1).mono ?_
    intro ex st hq2
    cases ex with
    | normal =>
      refine ⟨(S ++ [i], mput s q.1 r), ⟨by rw [hput]; simpa using hI1, fun j => ?_⟩, ?_, fun a w hs => meets_sim hg hs hq2⟩
      · show (mput s q.1 r)[j]? = if j ∈ S ++ [i] then t[j]? else l[j]?
        rw [hput]
        by_cases hij : i = j
        · subst hij
          rw [List.getElem?_set_self (by omega), if_pos (by simp), hr2]
        · rw [List.getElem?_set_ne hij, hI2 j]
          have : (j ∈ S ++ [i]) ↔ j ∈ S := by simp [Ne.symm hij]
          simp only [this]
      · have := hperm.length_eq
        simp only [List.length_cons] at this
        show (left l (S ++ [i]) (List.range l.length)).length < (left l S (List.range l.length)).length
        omega
    | _ => exact hq2
end
section
/- Containers of lists where ways meet; a list that is taken from in front. Conditions: none. -/
open Go

theorem RowV.ren {g : G} {w : World} {S : List Nat} {i j b : Nat} {e : TypeId} {l : List D} {v : Hd} (hS : S[i]? = some j) (h : RowV g w j b e (.own l) v) : RowV (g.ren S) w i b e (.own l) v := by
  obtain ⟨h1, h2, h3, h4⟩ := h
  refine ⟨h1, h2, h3, fun hc => ?_⟩
  obtain ⟨br, arr, k1, k2, k3⟩ := h4 hc
  exact ⟨br, arr, k1, ⟨j, hS, k2⟩, k3⟩
theorem obR_cO {S : List Nat} {C : Cont} {e : TypeId} {R : List RowD} (hC : ∀ {g : G} {w : World} {i j b : Nat} {Vs : List Hd}, S[i]? = some j → C.C g w j b Vs → C.C (g.ren S) w i b Vs) (hR : ∀ r ∈ R, ∃ l, r = .own l) : ObR S (cO C e R) (cO C e R) := fun {g w i j b} hS hφ => by
  obtain ⟨Vs, h⟩ := hφ
  refine ⟨Vs, fun hu => ?_, hC hS h.c, h.len, fun k r v hr hv => ?_, h.dis⟩
  · obtain ⟨j', h1, h2⟩ := hu
    rw [hS] at h1; injection h1 with h1; subst h1
    exact h.nob h2
  · obtain ⟨l, rfl⟩ := hR r (List.mem_of_getElem? hr)
    exact (h.row k _ v hr hv).ren hS
theorem obR_rs {S : List Nat} {α : Type} {f : α → D} {e eo : TypeId} {m : List (List α)} : ObR S (cO (slC eo 1 rsL) e (rsR f m none)) (cO (slC eo 1 rsL) e (rsR f m none)) :=
  obR_cO (C := slC eo 1 rsL) (fun {g w i j b Vs} hS ⟨cap, arr, h1, h2⟩ => ⟨cap, arr, by simp only [G.ren, hS, Option.bind_some]; exact h1, h2⟩) (fun r hr => by
    simp only [rsR] at hr
    obtain ⟨q, _, rfl⟩ := List.mem_map.1 hr
    exact ⟨_, rfl⟩)
theorem obR_rm {S : List Nat} {κ α : Type} [DecidableEq κ] {fk : κ → D} {f : α → D} {e : TypeId} {m : List (κ × List α)} : ObR S (rmO fk f e m []) (rmO fk f e m []) :=
  obR_cO (C := mpC (m.map fun q => fk q.1) (rmZ m []) (m.map Prod.fst).Nodup) (fun {g w i j b Vs} hS ⟨h1, h2, h3⟩ => ⟨h1, h2, fun n hn => by simp [rmZ] at hn⟩) (fun r hr => by
    simp only [rmR] at hr
    obtain ⟨q, _, rfl⟩ := List.mem_map.1 hr
    exact ⟨_, rfl⟩)
theorem LeRH.rs {S T : List Nat} {H K : List HE} {i : Nat} {α : Type} {f : α → D} {e eo : TypeId} {m : List (List α)} (h : H[i]? = some (rsE f e eo m none)) (hr : LeRH S H T K) : LeRH S H (i :: T) (rsE f e eo m none :: K) := by
  unfold rsE at h ⊢
  by_cases hm : m = []
  · rw [if_pos hm] at h ⊢; exact .lst h hr
  · rw [if_neg hm] at h ⊢; exact .ob h obR_rs hr
/-- An empty list begins as one of growing lists. -/
theorem AW.rsize {F : FC} {Q : Exit → St → Prop} {c : Code} {E : Nat → V} {H : List HE} {α : Type} (f : α → D) (t : Nat) (e eo : TypeId) {n : Nat} (ht : E t = .ex []) (hn : H.length = n)
    (h : AW F c Q ⟨upd E t (.hs n 0 ([] : List (List α)).length 1), H ++ [rsE f e eo ([] : List (List α)) none]⟩) : AW F c Q ⟨E, H⟩ := by
  have he : rsE f e eo ([] : List (List α)) none = .lst [] eo 1 := by unfold rsE; rw [if_pos rfl]
  rw [he] at h
  exact AW.lstize t eo 1 ht hn h

/-! ### the plain language -/
def neK {κ : Type} [DecidableEq κ] (a b : κ) : Option Unit := if a = b then none else some ()
theorem neK_ne {κ : Type} [DecidableEq κ] {a b : κ} {u : Unit} (h : neK a b = some u) : ¬ a = b := fun e => by unfold neK at h; rw [if_pos e] at h; cases h
section
variable {κ α : Type} [DecidableEq κ] {m : List (κ × List α)} {k k' : κ} {l : List α}
theorem mfind_app {x : List (κ × List α)} (h : (mfind m k).isSome = true) : (mfind (m ++ x) k).isSome = true := by
  induction m with
  | nil => simp [mfind] at h
  | cons y m ih =>
    simp only [List.cons_append, mfind] at h ⊢
    by_cases hk : k = y.1
    · simp [hk]
    · rw [if_neg hk] at h ⊢; simpa using ih (by simpa using h)
theorem mtouch_keep (h : (mfind m k).isSome = true) : (mfind (mtouch m k') k).isSome = true := by
  unfold mtouch
  split
  · exact h
  · exact mfind_app h
theorem mtouch_self : (mfind (mtouch m k) k).isSome = true := by
  unfold mtouch
  split
  · assumption
  · rename_i h
    have hn : mfind m k = none := by simpa using h
    clear h
    induction m with
    | nil => simp [mfind]
    | cons y m ih =>
      simp only [List.cons_append, mfind] at hn ⊢
      by_cases hk : k = y.1
      · simp [hk]
      · rw [if_neg hk] at hn ⊢
        simpa using ih (by simpa using hn)
theorem mput_keep (h : (mfind m k).isSome = true) : (mfind (mput m k' l) k).isSome = true := by
  unfold mput
  cases hk : mfind m k' with
  | none => exact mfind_app h
  | some j =>
    obtain ⟨q, q1, q2⟩ := mfind_lt hk
    have key : ∀ (m : List (κ × List α)) (j : Nat) (q : κ × List α), m[j]? = some q → q.1 = k' → mfind (m.set j (k', l)) k = mfind m k := by
      intro m
      induction m with
      | nil => intro j q h; simp at h
      | cons x m ih =>
        intro j q h h2
        cases j with
        | zero =>
          simp at h; subst h
          simp only [List.set_cons_zero, mfind, h2]
        | succ j =>
          simp only [List.set_cons_succ, mfind]
          rw [ih j q (by simpa using h) h2]
    show (mfind (m.set j (k', l)) k).isSome = true
    rw [key m j q q1 q2]; exact h
theorem mfind_touch : mfind (mtouch m k) k = some (mpos m k) := by
  unfold mtouch mpos
  cases hk : mfind m k with
  | some j => simp [hk]
  | none =>
    simp only [Option.isSome_none, Bool.false_eq_true, if_false, Option.getD_none]
    induction m with
    | nil => simp [mfind]
    | cons y m ih =>
      simp only [List.cons_append, mfind] at hk ⊢
      by_cases h : k = y.1
      · rw [if_pos h] at hk; cases hk
      · rw [if_neg h] at hk ⊢
        rw [ih (by simpa using hk)]; simp
end

section
variable {P : Program} {ρ : Operand → V} {H : List HE} {ty : TypeId}
/-- One row without memory, to be put behind others. -/
theorem op_buildNil {t e bytes : Nat} (ht : SlT P t e 1 bytes) (hρ : ρ (.const (.slice none 0 0)) = .nil) : OpV P (.buildSlice t 1 #[(0, .const (.slice none 0 0))]) ty ρ H (.ex [hdD (none, 0, 0)]) H := by
  classical
  intro g w r pos after guard dst hw h
  let ρ' : Operand → V := fun o => if o = .const (.slice none 0 0) then .d (hdD (none, 0, 0)) else ρ o
  have hρ' : ρ' (.const (.slice none 0 0)) = .d (hdD (none, 0, 0)) := if_pos rfl
  have hr := h (.const (.slice none 0 0)) (by simp [Op.operands])
  rw [hρ] at hr
  refine op_buildSlice (ρ := ρ') (ds := [hdD (none, 0, 0)]) ht (.cons (by rw [hρ']; exact .r rfl) rfl (enHd.one _) .nil) rfl (by decide) g w r pos after guard dst hw (fun x hx => ?_)
  have hx' : x = .const (.slice none 0 0) := by simpa [Op.operands] using hx
  subst hx'
  rw [hρ']
  generalize r (.const (.slice none 0 0)) = u at hr
  cases hr with
  | nil => exact .d (.raw _)

/-! ### a list that is taken from in front -/
def quV (e : TypeId) (q : List D) (k : Nat) : OB where
  φ := fun g w id b => ∃ arr a cap, w.heap[b]? = some (.cells arr e (0, 0)) ∧ q.length ≤ cap ∧ cap ≤ 9223372036854775807 ∧ g.τ id = some (0, a, cap) ∧ (0 < cap → a = some ⟨b, k, none⟩ ∧ arr.size = k + cap ∧ ∀ (j : Nat) x v, q[j]? = some x → arr[k + j]? = some v → RepD g.Pr w x v)
  st := fun he ht _ hb _ ⟨arr, a, cap, h1, h2, h3, h4, h5⟩ => ⟨arr, a, cap, hb.trans h1, h2, h3, ht.trans h4, fun hc => ⟨(h5 hc).1, (h5 hc).2.1, fun j x v hx hv => ((h5 hc).2.2 j x v hx hv).mono he.pr⟩⟩
  fr := false
  fre := fun h => by cases h
def quO (e : TypeId) (q : List D) : OB where
  φ := fun g w id b => ∃ k, (quV e q k).φ g w id b
  st := fun he ht hu hb ho ⟨k, h⟩ => ⟨k, (quV e q k).st he ht hu hb ho h⟩
  fr := false
  fre := fun h => by cases h
theorem obR_qu {S : List Nat} {e : TypeId} {q : List D} : ObR S (quO e q) (quO e q) := fun {g w i j b} hS ⟨k, arr, a, cap, h1, h2, h3, h4, h5⟩ => ⟨k, arr, a, cap, h1, h2, h3, by simp only [G.ren, hS, Option.bind_some]; exact h4, h5⟩
theorem Gh.openQu {F : FC} {E : Nat → V} {e : TypeId} {q : List D} {K : St → Prop} {ops : Array Oper} {os : List Oper} (id : Nat) (hH : H[id]? = some (.ob (quO e q))) (h : ∀ k, AL F ops K os ⟨E, H.set id (.ob (quV e q k))⟩) : AL F ops K os ⟨E, H⟩ := by
  rintro a w ⟨h1, h2, g, hw, h4, h5⟩
  obtain ⟨b, k1, ⟨k, k2⟩, _⟩ := hw.ob id _ hH
  exact h k a w ⟨h1, h2, g, (hw.setOb (x1 := quV e q k) hH k1 ⟨rfl, rfl, rfl⟩ rfl (fun _ _ => rfl) (fun _ => k2)).1, h4, h5⟩
theorem Gh.closeQu {F : FC} {E : Nat → V} {e : TypeId} {q : List D} {k id : Nat} (hH : H[id]? = some (.ob (quV e q k))) : Gh F ⟨E, H⟩ ⟨E, H.set id (.ob (quO e q))⟩ := by
  rintro a w ⟨h1, h2, g, hw, h4, h5⟩
  obtain ⟨b, k1, k2, _⟩ := hw.ob id _ hH
  exact ⟨h1, h2, g, (hw.setOb (x1 := quO e q) hH k1 ⟨rfl, rfl, rfl⟩ rfl (fun _ _ => rfl) (fun _ => ⟨k, k2⟩)).1, h4, h5⟩
theorem op_len_qu {x : Operand} {t et s bytes id N : Nat} {e : TypeId} {q : List D} (hx : Is (ρ x) (.hs id 0 N 1)) (hH : H[id]? = some (.ob (quO e q))) (ht : SlT P t et s bytes) : OpV P (.call ⟨.builtin .len, #[x], #[t]⟩) ty ρ H (.d (.int .i64 (N : Int))) H :=
  OpV.of_val fun g w r hw h => ⟨.int .i64 N, fun _ _ _ _ => by
    have := hx.rep (h x (by simp [Op.operands, Call.operands]))
    obtain ⟨b, k1, ⟨k, arr, a, cap, c1, c2, c3, c4, c5⟩, _⟩ := hw.ob id _ hH
    generalize hr : r x = v at this
    cases this with
    | hs q1 q2 =>
      rw [c4] at q1; injection q1 with q1; injection q1 with q1 q3
      obtain ⟨_, p2, _, _⟩ := hs0 (q2 q1.symm)
      subst p2
      simp [execOp, resolve, invoke, builtin, Builtin.len_, run_underlying ht.u, hr, goInt], .d (.int _ _)⟩
section
variable {α : Type} {f : α → D} {e : TypeId} {q : List α}
theorem op_index_qu {x y : Operand} {t bytes id k : Nat} {ik : IntKind} {a : Int} {v : α} (hx : Is (ρ x) (.hs id 0 q.length 1)) (hH : H[id]? = some (.ob (quV e (q.map f) k))) (hy : As (ρ y) (.int ik a)) (hv : ix q a = some v) (ht : SlT P t e 1 bytes) : OpV P (.indexAddr t x y) ty ρ H (.ptr id (k + a.toNat)) H :=
  OpV.of_val fun g w r hw h => by
    have h1 := hx.rep (h x (by simp [Op.operands]))
    have h2 := hy.int (h y (by simp [Op.operands]))
    obtain ⟨i, hi, hv'⟩ := ix_nat hv
    subst hi
    have hil : i < q.length := (List.getElem?_eq_some_iff.1 hv').1
    obtain ⟨b, q0, ⟨arr, ad, cap, c1, c2, c3, c4, c5⟩, _⟩ := hw.ob id _ hH
    simp only [List.length_map] at c2
    obtain ⟨rfl, c6, c7⟩ := c5 (by omega)
    obtain ⟨ie, z, hie, hsz, _⟩ := ht.i
    generalize hr : r x = u at h1
    cases h1 with
    | @hs _ _ _ _ m cap' n0 c0 a' a0 p1 p2 =>
      rw [c4] at p1; injection p1 with p1; injection p1 with p1 p3; injection p3 with p3 p4
      obtain ⟨r1, r2, r3, r4⟩ := hs0 (p2 p1.symm)
      have hlt : i < n0 := by omega
      subst r1; subst r3; subst p3
      refine ⟨.pointer (some ⟨b, k + i, none⟩), fun _ _ _ _ => ?_, .ptr q0⟩
      simp [execOp, Instr.indexAt, asIntOf, hr, h2, run_underlying ht.u, hlt, run_sizeOf' hie, hsz, Addr.add_none]
theorem op_load_qu {x : Operand} {t id k : Nat} {a : Int} {v : α} (h1 : ∀ x, (f x).cells = [f x]) (hx : Is (ρ x) (.ptr id (k + a.toNat))) (hH : H[id]? = some (.ob (quV e (q.map f) k))) (hv : ix q a = some v) (ht : Sc P t) : OpV P (.load t x) ty ρ H (.d (f v)) H :=
  OpV.of_val fun g w r hw h => by
    have hp := hx.rep (h x (by simp [Op.operands]))
    obtain ⟨i, hi, hv'⟩ := ix_nat hv
    subst hi
    have hil : i < q.length := (List.getElem?_eq_some_iff.1 hv').1
    obtain ⟨b, q0, ⟨arr, ad, cap, c1, c2, c3, c4, c5⟩, _⟩ := hw.ob id _ hH
    simp only [List.length_map] at c2
    obtain ⟨rfl, c6, c7⟩ := c5 (by omega)
    generalize hr : r x = u at hp
    cases hp with
    | @ptr _ _ b' hb =>
      obtain rfl : b' = b := by rw [hb] at q0; exact Option.some.inj q0
      simp only [Int.toNat_natCast] at hr
      have hka : k + i < arr.size := by omega
      have hcell : w.cell? ⟨b', k + i, none⟩ = some arr[k + i] := by rw [cell_of_cells c1]; simp [hka]
      exact ⟨arr[k + i], fun _ _ _ _ => by simp [execOp, Instr.loadAt, Instr.sureAddr, hr, run_loadVar_one ht hcell], .d (c7 i _ _ (by simp [hv']) (by simp [hka]))⟩
/-- A list of its own is one that can be taken from in front. -/
theorem Gh.toQu {F : FC} {E : Nat → V} {id : Nat} (h1 : ∀ x, (f x).cells = [f x]) (hq : q ≠ []) (hH : H[id]? = some (.lst (q.map f) e 1)) : Gh F ⟨E, H⟩ ⟨E, H.set id (.ob (quO e (q.map f)))⟩ := by
  refine Gh.wok fun g w hw => ?_
  have hidlt : id < H.length := (List.getElem?_eq_some_iff.1 hH).1
  obtain ⟨a, cap, f1, f2, f3, f4⟩ := hw.lst id _ _ _ hH
  simp only [List.length_map] at f2
  have hpos := List.length_pos_iff.2 hq
  obtain ⟨b, arr, rfl, q0, q2, q3, q4, q5⟩ := f4 (by omega)
  let g2 : G := { g with υ := fun i b' => i ≠ id ∧ g.υ i b' }
  have hev : Evo g w g2 w := {
    same := ⟨rfl, rfl, rfl⟩
    size := Nat.le_refl _
    pr := fun b o hp => ⟨hp, rfl⟩
    prn := fun b o h => .inl h
    x := fun b h => .inl h
    keep := fun b _ _ => rfl
    σ := fun _ _ h => h
    τ := fun _ m a cap h => ⟨m, a, cap, h, .inr ⟨rfl, rfl, rfl⟩⟩ }
  have hbl : g.blk id (.lst (q.map f) e 1) b := by simp [G.blk, f1, show 0 < cap by omega]
  refine ⟨g2, ?_, hev⟩
  refine WOK.chg2 (fun i => i = id) hw hev (by simp) (fun i h => h ▸ hidlt) (fun i h => List.getElem?_set_ne (Ne.symm h)) (fun i h => ⟨rfl, rfl, by funext b'; simp [g2, h]⟩) (fun i e b _ h1 h2 => hw.blk i e b h1 h2) hw.xs hw.pr (fun _ _ _ _ _ _ => ⟨rfl, fun _ h => h⟩) ?_ (fun i i' _ _ _ h h' _ _ _ _ => h.trans h'.symm) ?_
  · rintro i x b' rfl h3 h2
    rcases set_cases hidlt h3 with ⟨_, rfl⟩ | ⟨h, _⟩
    rotate_left
    · exact absurd rfl h
    rcases h2 with h2 | h2
    · have h2' : g.σ i = some b' := h2
      rw [q0] at h2'
      injection h2' with h2'; subst h2'
      exact ⟨hw.blk i _ _ hH hbl, i, _, rfl, hH, hbl⟩
    · exact absurd rfl h2.1
  · rintro i x rfl h3
    rcases set_cases hidlt h3 with ⟨_, rfl⟩ | ⟨h, _⟩
    rotate_left
    · exact absurd rfl h
    exact .inr (.inl ⟨_, rfl, b, q0, ⟨0, arr, _, cap, q2, by simpa using f2, f3, f1, fun _ => ⟨rfl, by omega, fun j x v hx hv => q5 j x v (by rw [flat_one1 h1]; exact hx) (by rw [← Nat.zero_add j]; exact hv)⟩⟩, q4, fun b' o hu => absurd rfl hu.1⟩)
end
end
end
section
/- A list that is taken from in front: pieces and what is put behind. Conditions: none. -/
open Go

section
variable {H : List HE} {e : TypeId} {q q' : List D}
theorem WOK.quNew {g : G} {w w' : World} {id b B cap : Nat} {a : Option Addr} {arr : Array Value} {k : Nat} (hw : WOK g w H) (hH : H[id]? = some (.ob (quO e q))) (hb : g.σ id = some b) (hsame : w'.os = w.os ∧ w'.tape = w.tape ∧ w'.output = w.output) (hsz : w.heap.size ≤ w'.heap.size)
    (hB : B = b ∨ (w.heap.size ≤ B ∧ B < w'.heap.size)) (ho : ∀ b', b' < w.heap.size → b' ≠ B → w'.heap[b']? = w.heap[b']?) (hnew : w'.heap[B]? = some (.cells arr e (0, 0))) (hl : q'.length ≤ cap) (hcm : cap ≤ 9223372036854775807)
    (hc : 0 < cap → a = some ⟨B, k, none⟩ ∧ arr.size = k + cap ∧ ∀ (j : Nat) x v, q'[j]? = some x → arr[k + j]? = some v → RepD g.Pr w x v) :
    ∃ g', WOK g' w' (H.set id .dead ++ [.ob (quO e q')]) ∧ Evo g w g' w' ∧ g'.τ H.length = some (0, a, cap) := by
  have hidlt : id < H.length := (List.getElem?_eq_some_iff.1 hH).1
  obtain ⟨b0, f1, f2, hPr, hPu⟩ := hw.ob id _ hH
  obtain rfl : b = b0 := by rw [hb] at f1; exact Option.some.inj f1
  obtain ⟨hfσ, hfτ, hfυ⟩ := hw.free H.length (.inr (Nat.le_refl _))
  have hXb : g.X b := hw.blk id _ b hH (.inl hb)
  have hbs : b < w.heap.size := hw.xs b hXb
  have hBs : B < w'.heap.size := by rcases hB with rfl | h <;> omega
  have hBP : ∀ o, ¬ g.Pr B o := fun o hp => by
    rcases hB with rfl | h
    · exact hPr o hp
    · have := hw.pr B o hp; omega
  let n := H.length
  let g' : G := { g with σ := fun i => if i = n then some B else g.σ i, τ := fun i => if i = n then some (0, a, cap) else g.τ i, X := fun b' => g.X b' ∨ b' = B }
  have hne : id ≠ n := by omega
  have hev : Evo g w g' w' := {
    same := hsame
    size := hsz
    pr := fun b' o hp => ⟨hp, by
      have hn : b' ≠ B := fun e2 => hBP o (e2 ▸ hp)
      simp [World.cell?, ho b' (hw.pr b' o hp) hn]⟩
    prn := fun b o h => .inl h
    x := fun b' h => by
      rcases h with h | rfl
      · exact .inl h
      · rcases hB with rfl | h
        · exact .inl hXb
        · exact .inr h.1
    keep := fun b' hs hx => ho b' hs (fun e2 => by
      subst e2
      rcases hB with rfl | h
      · exact hx hXb
      · omega)
    σ := fun i b h => by
      have : i ≠ n := fun e => by subst e; rw [hfσ] at h; cases h
      simp only [g']; rw [if_neg this]; exact h
    τ := fun i m a c h => by
      have : i ≠ n := fun e => by subst e; rw [hfτ] at h; cases h
      exact ⟨m, a, c, by simp only [g']; rw [if_neg this]; exact h, .inr ⟨rfl, rfl, rfl⟩⟩ }
  have hA := hw.addFree
  have hcas : ∀ {i : Nat} {x : HE}, (i = id ∨ i = n) → (H.set id .dead ++ [.ob (quO e q')])[i]? = some x → (i = id ∧ x = .dead) ∨ (i = n ∧ x = .ob (quO e q')) := fun {i x} hi hx => by
    rcases hi with rfl | rfl
    · rw [List.getElem?_append_left (by simpa using hidlt), List.getElem?_set_self hidlt] at hx
      exact .inl ⟨rfl, (Option.some.inj hx).symm⟩
    · rw [List.getElem?_append_right (by simp [n])] at hx
      simp [n] at hx
      exact .inr ⟨rfl, hx.symm⟩
  have hblkn : ∀ b', g'.blk n (.ob (quO e q')) b' → b' = B := fun b' h => by
    rcases h with h | h
    · simp [g'] at h; exact h.symm
    · exact absurd h (hfυ b')
  have hold : ∀ (i : Nat) x, ¬ (i = id ∨ i = n) → (H ++ [HE.free])[i]? = some x → ∀ b', g.blk i x b' → b' ≠ B := fun i x hi hx b' hb' e2 => by
    subst e2
    have hx' : H[i]? = some x := by
      by_cases hil : i < H.length
      · rw [List.getElem?_append_left hil] at hx; exact hx
      · exfalso
        rw [List.getElem?_append_right (by omega)] at hx
        have : i - H.length = 0 := by
          have := (List.getElem?_eq_some_iff.1 hx).1
          simp at this; omega
        exact hi (.inr (by omega))
    rcases hB with rfl | h
    · exact hi (.inl (hw.sep i id x _ _ hx' hH hb' (.inl hb)))
    · have := hw.xs _ (hw.blk i x _ hx' hb'); omega
  refine ⟨g', ?_, hev, by simp [g', n]⟩
  refine WOK.chg3 (fun i => i = id ∨ i = n) hA hev (by simp) (fun i h => by rcases h with rfl | rfl <;> simp [n]; omega) (fun i h => ?_) (fun i h => ⟨by simp only [g']; rw [if_neg (fun e => h (.inr e))], by simp only [g']; rw [if_neg (fun e => h (.inr e))], rfl⟩) (fun i e b _ h1 h2 => .inl (hA.blk i e b h1 h2)) (fun b' h => by
    rcases h with h | rfl
    · have := hw.xs b' h; omega
    · exact hBs) (fun b' o h => by have := hw.pr b' o h; omega)
    (fun i x b' hi hx hb' => ⟨ho b' (hA.xs b' (hA.blk i x b' hx hb')) (hold i x hi hx b' hb'), fun _ h => h⟩) ?_ ?_ ?_
  · by_cases hil : i < H.length
    · rw [List.getElem?_append_left (by simpa using hil), List.getElem?_append_left hil, List.getElem?_set_ne (fun e2 => h (.inl e2.symm))]
    · rw [List.getElem?_eq_none (by simp; have : i ≠ n := fun e2 => h (.inr e2); omega), List.getElem?_eq_none (by simp; have : i ≠ n := fun e2 => h (.inr e2); omega)]
  · intro i x b' hi hx hb'
    rcases hcas hi hx with ⟨rfl, rfl⟩ | ⟨rfl, rfl⟩
    · exact hb'.elim
    · rw [hblkn b' hb']
      exact ⟨.inr rfl, fun i0 e0 hi0 h3 h4 => hold i0 e0 hi0 h3 B h4 rfl⟩
  · intro i i' x x' b' hi hi' hx hx' hb1 hb2
    rcases hcas hi hx with ⟨rfl, rfl⟩ | ⟨rfl, rfl⟩
    · exact hb1.elim
    · rcases hcas hi' hx' with ⟨rfl, rfl⟩ | ⟨rfl, rfl⟩
      · exact hb2.elim
      · rfl
  · intro i x hi hx
    rcases hcas hi hx with ⟨rfl, rfl⟩ | ⟨rfl, rfl⟩
    · exact .inl rfl
    · refine .inr (.inl ⟨_, rfl, B, by simp [g'], ⟨k, arr, a, cap, hnew, hl, hcm, by simp [g'], fun h0 => ?_⟩, hBP, fun b' o hu => absurd hu (hfυ b')⟩)
      obtain ⟨r1, r2, r3⟩ := hc h0
      exact ⟨r1, r2, fun j x v hx hv => (r3 j x v hx hv).mono hev.pr⟩
end

section
variable {P : Program} {ρ : Operand → V} {H : List HE} {ty : TypeId} {α : Type} {f : α → D} {e : TypeId} {q r : List α}
/-- What is behind some elements in front. -/
theorem op_slice_qu {x y : Operand} {t bytes id n : Nat} {lo : Int} (hx : Is (ρ x) (.hs id 0 q.length 1)) (hH : H[id]? = some (.ob (quO e (q.map f)))) (hy : As (ρ y) (.int .i64 lo)) (hn : H.length = n) (hv : slc q lo (q.length : Int) = some r) (ht : SlT P t e 1 bytes) :
    OpV P (.slice t x (some y) none none) ty ρ H (.hs n 0 r.length 1) (H.set id .dead ++ [.ob (quO e (r.map f))]) := by
  subst hn
  unfold slc at hv
  split at hv
  rotate_left
  · cases hv
  rename_i hc
  injection hv with hv
  obtain ⟨c1', c2', _⟩ := hc
  have hrq : r = q.drop lo.toNat := by rw [← hv]; simp
  have hrl : r.length = q.length - lo.toNat := by rw [hrq]; simp
  intro g w rr pos after guard dst hw h
  have h1 := hx.rep (h x (by simp [Op.operands]))
  have h2 := hy.int (h y (by simp [Op.operands]))
  obtain ⟨b, q0, ⟨k, arr, ad, cap, c1, c2, c3, c4, c5⟩, _⟩ := hw.ob id _ hH
  simp only [List.length_map] at c2
  obtain ⟨ie, z, hie, hsz, _⟩ := ht.i
  generalize hr : rr x = u at h1
  cases h1 with
  | @hs _ _ _ _ m cap' n0 c0 a' a0 p1 p2 =>
    rw [c4] at p1; injection p1 with p1; injection p1 with p1 p3; injection p3 with p3 p4
    obtain ⟨r1, r2, r3, r4⟩ := hs0 (p2 p1.symm)
    subst r1; subst p3; subst p4; subst r3; subst r2
    have hbs : b < w.heap.size := (Array.getElem?_eq_some_iff.1 c1).1
    obtain ⟨g', k1, k2, k3⟩ := hw.quNew (w' := w) (B := b) (cap := c0 - lo.toNat) (a := if c0 = lo.toNat then ad else ad.map (·.add (lo.toNat * 1))) (arr := arr) (k := k + lo.toNat) (q' := r.map f) hH q0 ⟨rfl, rfl, rfl⟩ (Nat.le_refl _) (.inl rfl) (fun _ _ _ => rfl) c1 (by simp; omega) (by omega) (fun h0 => by
      obtain ⟨e1, e2, e3⟩ := c5 (by omega)
      refine ⟨by rw [if_neg (by omega), e1]; simp [Addr.add], by omega, fun j x v hx hv => e3 (lo.toNat + j) x v ?_ (by rw [← Nat.add_assoc]; exact hv)⟩
      rw [hrq, List.map_drop, List.getElem?_drop] at hx
      exact hx)
    have hlo : ∀ (y : Nat), lo.toNat ≤ y → (Instr.sliceBound (.int .i64 lo) y .sliceB).run P w = .ok lo.toNat w := fun y hy => by
      simp only [Instr.sliceBound, asIntOf, Sem.run_bind, Sem.run_pure, Result.andThen_ok]
      rw [if_pos (by omega)]; rfl
    have hrun : (execOp rr ⟨dst, .slice t x (some y) none none, ty, pos, after, guard⟩).run P w = .ok (.value (.slice (if c0 = lo.toNat then ad else ad.map (·.add (lo.toNat * 1))) r.length (c0 - lo.toNat))) w := by
      simp [execOp, Instr.sliceAt, Instr.slice, Instr.sliceBounds, run_underlying ht.u, hr, run_sizeOf' hie, hsz, h2, hlo _ (show lo.toNat ≤ q.length by omega), hrl]
    unfold OpRuns
    rw [hrun]
    exact ⟨g', k1, k2, .hs k3 (fun _ => ⟨by simp [subA], rfl, by simp, by omega⟩)⟩
/-- What is put behind. -/
theorem op_append_qu {x y : Operand} {t bytes id n : Nat} {l' : List α} (ht : SlT P t e 1 bytes) (hf : En f 1) (h1f : ∀ x, (f x).cells = [f x]) (hx : Is (ρ x) (.hs id 0 q.length 1)) (hy : As (ρ y) (.sl (l'.map f))) (hl0 : l' ≠ []) (hH : H[id]? = some (.ob (quO e (q.map f)))) (hn : H.length = n) (hv : app bytes q l' = some r) :
    OpV P (.call ⟨.builtin .append, #[x, y], #[t, t]⟩) ty ρ H (.hs n 0 r.length 1) (H.set id .dead ++ [.ob (quO e (r.map f))]) := by
  subst hn
  unfold app at hv
  split at hv
  rotate_left
  · cases hv
  rename_i hc
  injection hv with hv; subst hv
  obtain ⟨hbytes, hlen⟩ := hc
  intro g w rr pos after guard dst hw h
  have h1 := hx.rep (h x (by simp [Op.operands, Call.operands]))
  have h2 := hy.rep (h y (by simp [Op.operands, Call.operands]))
  obtain ⟨b, q0, ⟨k, arr, ad, cap, c1, c2, c3, c4, c5⟩, hPr, _⟩ := hw.ob id _ hH
  simp only [List.length_map] at c2
  obtain ⟨ie, z, hie, hsz, hby, hz1, hz2⟩ := ht.i
  have hlpos : 0 < l'.length := List.length_pos_iff.2 hl0
  have hbs : b < w.heap.size := (Array.getElem?_eq_some_iff.1 c1).1
  generalize hr : rr x = u at h1
  cases h1 with
  | @hs _ _ _ _ m cap' n0 c0 a' a0 p1 p2 =>
    rw [c4] at p1; injection p1 with p1; injection p1 with p1 p3; injection p3 with p3 p4
    obtain ⟨r1, r2, r3, r4⟩ := hs0 (p2 p1.symm)
    subst r1; subst p3; subst p4; subst r3; subst r2
    obtain ⟨b', o', cap2, f', hra, _, hk', hrep', hone'⟩ := h2.slCells (s := 1) (fun x hx => by obtain ⟨y, _, rfl⟩ := List.mem_map.1 hx; rw [h1f]; rfl) (fun x hx => by obtain ⟨y, _, rfl⟩ := List.mem_map.1 hx; exact hf.one y) (by simpa using hl0)
    simp only [List.length_map, Nat.mul_one] at hra hk' hone'
    rw [flat_one1 h1f] at hrep'
    have hnews : ∀ (j : Nat) v, ((List.range l'.length).map f')[j]? = some v → w.cell? ((⟨b', o', none⟩ : Addr).add j) = some v := by
      intro j v hv
      have hj : j < l'.length := by
        have := (List.getElem?_eq_some_iff.1 hv).1; simpa using this
      rw [range_map_get _ _ _ hj] at hv
      rw [Addr.add_none, (hk' j hj).2]; exact hv
    have hone1 : ∀ u ∈ (List.range l'.length).map f', u.oneCell' = true := by
      intro u hu
      simp only [List.mem_map, List.mem_range] at hu
      obtain ⟨k, hk, rfl⟩ := hu
      exact hone' k hk
    suffices hgoal : ∃ rv w' g', (Builtin.append_ #[t, t] ty #[.slice ad q.length c0, rr y]).run P w = .ok rv w' ∧ WOK g' w' (H.set id .dead ++ [.ob (quO e ((q ++ l').map f))]) ∧ Evo g w g' w' ∧ Rep g' w' (.hs H.length 0 (q ++ l').length 1) rv by
      obtain ⟨rv, w', g', e1, e2, e3, e4⟩ := hgoal
      unfold OpRuns
      have : (execOp rr ⟨dst, .call ⟨.builtin .append, #[x, y], #[t, t]⟩, ty, pos, after, guard⟩).run P w = .ok (.value rv) w' := by
        simp [execOp, resolve, invoke, builtin, hr, e1]
      rw [this]
      exact ⟨g', e2, e3, e4⟩
    rw [hra]
    -- contents of a row that begins with the old cells and goes on with the new ones
    have cont : ∀ (cs : Nat → Option Value), (∀ (j : Nat) x v, (q.map f)[j]? = some x → cs j = some v → RepD g.Pr w x v) → (∀ j, j < l'.length → cs (q.length + j) = some (f' j)) → ∀ (j : Nat) x v, ((q ++ l').map f)[j]? = some x → cs j = some v → RepD g.Pr w x v := by
      intro cs k1 k2 j x v hx hv
      rw [List.map_append] at hx
      by_cases hj : j < q.length
      · rw [List.getElem?_append_left (by simpa using hj)] at hx
        exact k1 j x v hx hv
      · rw [List.getElem?_append_right (by simpa using hj), List.length_map] at hx
        have hj2 : j - q.length < l'.length := by
          have := (List.getElem?_eq_some_iff.1 hx).1; simpa using this
        have := k2 (j - q.length) hj2
        rw [show q.length + (j - q.length) = j by omega, hv] at this
        injection this with this; subst this
        exact hrep' _ x hx
    by_cases hroom : q.length + l'.length ≤ c0
    · obtain ⟨rfl, e2, e3⟩ := c5 (by omega)
      have hfc := run_firstCells_some (P := P) w ie.size l'.length ⟨b', o', none⟩ l'.length cap2 ((List.range l'.length).map f') (by simp [hsz]) hnews
      have hst := run_storeCells_at P b (k + q.length) e ((List.range l'.length).map f') 0 arr w c1 (by simp; omega) hone1
      simp only [Nat.add_zero] at hst
      generalize hA : (arr.toList.take (k + q.length) ++ (List.range l'.length).map f' ++ arr.toList.drop (k + q.length + ((List.range l'.length).map f').length)).toArray = arr' at hst
      have hrun : (Builtin.append_ #[t, t] ty #[.slice (some ⟨b, k, none⟩) q.length c0, .slice (some ⟨b', o', none⟩) l'.length cap2]).run P w = .ok (.slice (some ⟨b, k, none⟩) (q.length + l'.length) c0) (w.setRow b arr') := by
        simp [Builtin.append_, run_underlying ht.u, sizeOf, typeInfo, hie, hsz, Builtin.lenOf, hroom, Addr.add_lit] at hfc hst ⊢
        simp [hfc, hst]
      obtain ⟨g', k1, k2, k3⟩ := hw.quNew (w' := w.setRow b arr') (B := b) (cap := c0) (a := some ⟨b, k, none⟩) (arr := arr') (k := k) (q' := (q ++ l').map f) hH q0 ⟨rfl, rfl, rfl⟩ (by rw [setRow_size]; exact Nat.le_refl _) (.inl rfl) (fun b2 _ hne => setRow_other w b b2 arr' hne) (setRow_heap w b arr arr' e _ c1) (by simpa using hroom) (by omega) (fun h0 => by
        refine ⟨rfl, ?_, ?_⟩
        · rw [← hA]; simp; omega
        · have hget : ∀ j, arr'[k + j]? = if j < q.length then arr[k + j]? else if j < q.length + l'.length then some (f' (j - q.length)) else arr[k + j]? := fun j => by
            rw [← hA, List.getElem?_toArray]
            have l2 : (List.take (k + q.length) arr.toList).length = k + q.length := by simp; omega
            rw [List.append_assoc]
            by_cases hj : j < q.length
            · rw [List.getElem?_append_left (by omega), List.getElem?_take, if_pos (by omega), Array.getElem?_toList, if_pos hj]
            · rw [List.getElem?_append_right (by omega), l2, if_neg hj]
              by_cases hj2 : j < q.length + l'.length
              · rw [List.getElem?_append_left (by simp; omega), if_pos hj2, show k + j - (k + q.length) = j - q.length by omega]
                exact range_map_get f' _ _ (by omega)
              · rw [List.getElem?_append_right (by simp; omega), List.getElem?_drop, Array.getElem?_toList, if_neg hj2]
                congr 1; simp; omega
          refine cont (fun j => arr'[k + j]?) (fun j x v hx hv => ?_) (fun j hj => ?_)
          · have hjq : j < q.length := by have := (List.getElem?_eq_some_iff.1 hx).1; simpa using this
            simp only [hget, if_pos hjq] at hv
            exact e3 j x v hx hv
          · simp only [hget]
            rw [if_neg (by omega), if_pos (by omega)]
            congr 2; omega)
      exact ⟨_, _, g', hrun, k1, k2, .hs k3 (fun _ => ⟨rfl, by simp, rfl, by simpa using hroom⟩)⟩
    · let need := q.length + l'.length
      let C := grownCap w need c0 e
      have hC : need ≤ C := grownCap_ge w need c0 e
      have hC2 : C ≤ 9223372036854775807 := by
        have := grownCap_le_maxLen w need c0 e (by simp only [maxLen, need]; omega)
        simpa [maxLen] using this
      have hgrow : c0 < q.length + l'.length := by omega
      obtain ⟨olds, hol, hrun, hf2⟩ : ∃ (olds : List Value), olds.length = q.length ∧
          (Builtin.append_ #[t, t] ty #[.slice ad q.length c0, .slice (some ⟨b', o', none⟩) l'.length cap2]).run P w =
            .ok (.slice (some ⟨w.heap.size, 0, none⟩) need C) (w.drew.alloc (.cells (olds.toArray ++ ((List.range l'.length).map f').toArray ++ Builtin.zeroCells z.cells (C - need)) e)) ∧
          (∀ (j : Nat) x v, (q.map f)[j]? = some x → olds[j]? = some v → RepD g.Pr w x v) := by
        by_cases hc0 : c0 = 0
        · have hln : q = [] := List.eq_nil_of_length_eq_zero (by omega)
          subst hln
          refine ⟨[], by simp, ?_, by simp⟩
          cases ad with
          | none =>
            subst hc0
            have := run_append_nil (P := P) w t ty e ie z ht.u hie hz1 ⟨b', o', none⟩ l'.length cap2 ((List.range l'.length).map f') (by simp [hsz]) hnews hlpos (by simp at hlen ⊢; omega) (by rw [hby]; simp at hbytes; omega)
            simpa [need, C] using this
          | some ad =>
            have := run_append_grow (P := P) w t ty e ie z ht.u hie hz1 ad 0 c0 [] (by simp) (by simp) ⟨b', o', none⟩ l'.length cap2 ((List.range l'.length).map f') (by simp [hsz]) hnews
              (by simpa using hgrow) (by simp at hlen ⊢; omega) (growslice_fits (by simpa using hgrow) (by rw [hby]; simpa using hbytes))
            simpa [need, C] using this
        · obtain ⟨rfl, e2, e3⟩ := c5 (by omega)
          refine ⟨(arr.toList.drop k).take q.length, by simp; omega, ?_, fun j x v hx hv => ?_⟩
          · have := run_append_grow (P := P) w t ty e ie z ht.u hie hz1 ⟨b, k, none⟩ q.length c0 ((arr.toList.drop k).take q.length) (by simp [hsz]; omega) (fun j v hv => by
              rw [Addr.add_none, cell_of_cells c1]
              rw [List.getElem?_take] at hv
              split at hv
              · rwa [List.getElem?_drop, Array.getElem?_toList] at hv
              · cases hv) ⟨b', o', none⟩ l'.length cap2 ((List.range l'.length).map f') (by simp [hsz]) hnews
              hgrow (by omega) (growslice_fits hgrow (by rw [hby]; exact hbytes))
            simpa [need, C] using this
          · have hjq : j < q.length := by have := (List.getElem?_eq_some_iff.1 hx).1; simpa using this
            rw [List.getElem?_take, if_pos hjq, List.getElem?_drop, Array.getElem?_toList] at hv
            exact e3 j x v hx hv
      have hzs : (Builtin.zeroCells z.cells (C - need)).size = C - need := by simp [Builtin.zeroCells, hz2]
      obtain ⟨g', k1, k2, k3⟩ := hw.quNew (w' := w.drew.alloc (.cells (olds.toArray ++ ((List.range l'.length).map f').toArray ++ Builtin.zeroCells z.cells (C - need)) e)) (B := w.heap.size) (cap := C) (a := some ⟨w.heap.size, 0, none⟩)
        (arr := olds.toArray ++ ((List.range l'.length).map f').toArray ++ Builtin.zeroCells z.cells (C - need)) (k := 0) (q' := (q ++ l').map f) hH q0 ⟨rfl, rfl, rfl⟩ (by simp) (.inr ⟨Nat.le_refl _, by simp⟩)
        (fun b2 hb2 _ => heap_alloc_old w.drew _ (by simpa using hb2)) (heap_alloc_new w.drew _) (by simpa [need] using hC) hC2 (fun h0 => by
          refine ⟨rfl, ?_, ?_⟩
          · simp only [Array.size_append, List.size_toArray, List.length_map, List.length_range, hol, hzs]
            omega
          · refine cont (fun j => (olds.toArray ++ ((List.range l'.length).map f').toArray ++ Builtin.zeroCells z.cells (C - need))[0 + j]?) (fun j x v hx hv => ?_) (fun j hj => ?_)
            · have hjq : j < q.length := by have := (List.getElem?_eq_some_iff.1 hx).1; simpa using this
              simp only [Nat.zero_add] at hv
              rw [← Array.getElem?_toList] at hv
              simp only [Array.toList_append, List.append_assoc] at hv
              rw [List.getElem?_append_left (by omega)] at hv
              exact hf2 j x v hx hv
            · simp only [Nat.zero_add]
              rw [← Array.getElem?_toList]
              simp only [Array.toList_append, List.append_assoc]
              rw [List.getElem?_append_right (by omega), hol, Nat.add_sub_cancel_left, List.getElem?_append_left (by simpa using hj)]
              exact range_map_get f' _ _ hj)
      exact ⟨_, _, g', hrun, k1, k2, .hs k3 (fun _ => ⟨rfl, by simp [need], rfl, by simpa [need] using hC⟩)⟩
end
end
section
/- A list that is told out and is one of its own. Conditions: none. -/
open Go

section
variable {P : Program} {ρ : Operand → V} {H : List HE} {ty : TypeId}
theorem ix_lt {α : Type} {m : List α} {k : Int} {r : α} (h : ix m k = some r) : k.toNat < m.length := by
  obtain ⟨i, rfl, hi⟩ := ix_nat h
  simpa using (List.getElem?_eq_some_iff.1 hi).1
theorem op_insert_of {t : TypeId} {x y u : Operand} {v : V} {H' : List HE} (h : OpV P (.mapUpdate t x y u) ty ρ H v H') : OpV P (.insert t x y u) ty ρ H v H' :=
  fun g w r pos after guard dst hw hx => h g w r pos after guard dst hw hx
theorem mlen0 {κ α : Type} [DecidableEq κ] {m : List (κ × List α)} {k : κ} (h : mfind m k = none) : ((mget m k).getD []).length = 0 := by simp [mget, h]
theorem mfind_mget {κ α : Type} [DecidableEq κ] {m : List (κ × α)} {k : κ} {v : α} (h : mget m k = some v) : (mfind m k).isSome = true := by
  unfold mget at h
  cases hf : mfind m k with
  | none => rw [hf] at h; cases h
  | some j => rfl
theorem op_buildH {α : Type} {f : α → D} {l : List α} {t e s bytes n k : Nat} {ps : Array (Nat × Operand)} (ht : SlT P t e s bytes) (hp : Els ρ s 0 ps.toList (l.map f)) (hn : l.length = n) (hle : n * s ≤ 2 ^ 24) (hn2 : n ≤ 2 ^ 24) (hk : H.length = k) :
    OpV P (.buildSlice t n ps) ty ρ H (.hs k 0 l.length s) (H ++ [.lst (l.map f) e s]) := by
  intro g w r pos after guard dst hw h
  subst hk
  obtain ⟨ie, z, hie, hsz, _, hz1, hz2⟩ := ht.i
  let zero : Array Value := if n * s = 0 then #[] else z.cells
  obtain ⟨arr', e1, e2, _, e4⟩ := fill_els hp (g := g) (w := w) (r := r) (fun x hx => h x (by simpa [Op.operands] using hx)) (arr := (Array.range (n * s)).map fun i => zero[i % zero.size]!) (by simp [hn])
  have hps := hp.sizes
  have hsize : arr'.size = n * s := by rw [e2]; simp
  obtain ⟨g', h1, h2, h3⟩ := hw.addFree.newLst (w' := { w with heap := w.heap.push (.cells arr' e (0, 0)) }) (id := H.length) (l := l.map f) (s := s) (cap := n) (arr := arr') (et := e) (by simp) ⟨rfl, rfl, rfl⟩ rfl (by simp [hn]) (by
      omega) hsize (fun k x v hx hv => by
      simp only [Nat.zero_mul, Nat.zero_add] at e4
      exact e4 k x hx v hv)
  rw [set_last] at h1
  have hfill : Instr.fill (fun i => some (i * s, s)) ((Array.range (n * s)).map fun i => zero[i % zero.size]!) (ps.map fun p => (p.1, r p.2)).toList = some arr' := by
    rw [← e1]; simp
  unfold OpRuns
  have hrun : (Instr.buildSlice t n (ps.map fun p => (p.1, r p.2))).run P w = .ok (.slice (some ⟨w.heap.size, 0, none⟩) n n) { w with heap := w.heap.push (.cells arr' e (0, 0)) } := by
    have hng : ¬ (n * s > 2 ^ 24) := by omega
    simp only [Instr.buildSlice, Sem.run_bind, run_underlying ht.u, Result.andThen_ok, run_sizeOf' hie, hsz, if_neg hng]
    by_cases h0 : n * s = 0
    · have hz : zero = #[] := by simp [zero, h0]
      rw [hz] at hfill
      rw [if_pos h0]
      simp only [Sem.run_pure, Result.andThen_ok, hfill, newRow, Sem.run_bind, run_newObj]
    · have hz : zero = z.cells := by simp only [zero, if_neg h0]
      rw [hz] at hfill
      rw [if_neg h0]
      simp only [Sem.run_bind, run_zeroValue' hie hz1, Sem.run_pure, Result.andThen_ok, hfill, newRow, run_newObj]
  simp only [execOp, Sem.run_bind, hrun, Result.andThen_ok, Sem.run_pure]
  subst hn
  exact ⟨g', h1, h2, .hs h3 (fun _ => ⟨rfl, rfl, rfl, Nat.le_refl _⟩)⟩
end
end
end Go.Proofs.Ytkfffaoopcnaoaa.Ab
