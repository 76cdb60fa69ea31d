/- Going through maps in whatever order, and through texts: what it comes to. Conditions: none. -/
import Derived.Test.YtgcmhhcopeiomaaGreatAb27
namespace Go.Proofs.YtgcmhhcopeiomaaGreat.Ab
open Go

/-! ### the plain language -/
def iterR {σ τ α : Type} (f : σ → α → Option (σ ⊕ τ)) (fin : σ → τ) : σ → List α → Option τ
  | s, [] => some (fin s)
  | s, e :: p => (f s e).bind fun r => match r with
    | .inl s' => iterR f fin s' p
    | .inr t => some t
/-- The entries in whatever order: what all orders lead to. -/
noncomputable def rangeM {σ τ α : Type} (f : σ → α → Option (σ ⊕ τ)) (fin : σ → τ) (s : σ) (l : List α) : Option τ :=
  open Classical in if h : ∃ t, ∀ p : List α, p.Perm l → iterR f fin s p = some t then some h.choose else none
theorem rangeM_all {σ τ α : Type} {f : σ → α → Option (σ ⊕ τ)} {fin : σ → τ} {s : σ} {l : List α} {t : τ} (h : rangeM f fin s l = some t) : ∀ p : List α, p.Perm l → iterR f fin s p = some t := by
  unfold rangeM at h
  split at h
  · rename_i hh
    injection h with h
    subst h
    exact hh.choose_spec
  · cases h
theorem rangeM_of {σ τ α : Type} {f : σ → α → Option (σ ⊕ τ)} {fin : σ → τ} {s : σ} {l : List α} {t : τ} (h : ∀ p : List α, p.Perm l → iterR f fin s p = some t) : rangeM f fin s l = some t := by
  unfold rangeM
  have hh : ∃ t, ∀ p : List α, p.Perm l → iterR f fin s p = some t := ⟨t, h⟩
  rw [dif_pos hh]
  have h1 := hh.choose_spec l (List.Perm.refl _)
  rw [h l (List.Perm.refl _)] at h1
  exact h1.symm

/-! ### iterators over maps -/
def itO (mid n : Nat) (S : List Nat) : OB where
  φ := fun g w _ r => ∃ bm, g.σ mid = some bm ∧ w.heap[r]? = some (.mapIter (some bm) n S.toArray n)
  st := fun {g g' w w' _ r} he _ _ hb _ h => by
    obtain ⟨bm, h1, h2⟩ := h
    exact ⟨bm, he.σ _ _ h1, hb.trans h2⟩
  fr := false
  fre := fun h => by cases h
theorem obR_it {T : List Nat} {mid mid' n : Nat} {S : List Nat} (h : T[mid']? = some mid) : ObR T (itO mid n S) (itO mid' n S) := fun {g w i j b} _ hφ => by
  obtain ⟨bm, h1, h2⟩ := hφ
  exact ⟨bm, by simp [G.ren, h, h1], h2⟩

theorem WOK.drew {g : G} {w : World} {H : List HE} (h3 : WOK g w H) : WOK g w.drew H ∧ Evo g w g w.drew := by
  have hev : Evo g w g w.drew := ⟨⟨rfl, rfl, rfl⟩, Nat.le_refl _, fun _ _ h => ⟨h, rfl⟩, fun _ _ h => .inl h, fun _ h => .inl h, fun _ _ _ => rfl, fun _ _ h => h, fun _ m a cap h => ⟨m, a, cap, h, .inr ⟨rfl, rfl, rfl⟩⟩⟩
  refine ⟨⟨h3.pr, h3.xs, h3.blk, h3.sep, fun id c hc => ?_, h3.tok, fun id l e s hc => ?_, fun id x hc => ?_, h3.free, h3.kcE hev⟩, hev⟩
  · obtain ⟨b, arr, et, e1, e2, e3, e4, e5⟩ := h3.row id c hc
    exact ⟨b, arr, et, e1, e2, e3, fun k x v hx hv => (e4 k x v hx hv).mono hev, e5⟩
  · obtain ⟨a, cap, k1, k2, k3, k4⟩ := h3.lst id l e s hc
    refine ⟨a, cap, k1, k2, k3, fun hlt => ?_⟩
    obtain ⟨b, arr, q1, q0, q2, q3, q4, q5⟩ := k4 hlt
    exact ⟨b, arr, q1, q0, q2, q3, q4, fun k x v hx hv => (q5 k x v hx hv).mono hev.pr⟩
  · obtain ⟨b, q1, q2, q3, q4⟩ := h3.ob id x hc
    exact ⟨b, q1, x.st hev rfl rfl rfl (fun _ _ => rfl) q2, q3, q4⟩

section
variable {P : Program} {ρ : Operand → V} {H : List HE} {ty : TypeId}
theorem op_rangeMap {x : Operand} {t kt et : TypeId} {mid n : Nat} {M : List (D × D)} (ht : P.underlying t = some (.map kt et)) (hx : Is (ρ x) (.mp mid)) (hH : H[mid]? = some (.ob (mpO M))) (hn : H.length = n) :
    OpV P (.range t x) ty ρ H (.ptr n 0) (H ++ [.ob (itO mid M.length [])]) := by
  subst hn
  intro g w r pos after guard dst hw h
  obtain ⟨b, hb, hr⟩ := hx.mp (h x (by simp [Op.operands]))
  obtain ⟨b', f1, ⟨es, e1, e2, e3⟩, f3, _⟩ := hw.ob mid _ hH
  obtain rfl : b = b' := by rw [hb] at f1; exact Option.some.inj f1
  obtain ⟨g', h1, h2, h3⟩ := hw.addFree.newOb (id := H.length) (x0 := itO mid M.length []) (o0 := .mapIter (some b) M.length #[] M.length) (by simp) (fun g' w' he hh => ⟨b, he.σ _ _ hb, hh⟩)
  rw [set_last] at h1
  unfold OpRuns
  simp [execOp, hr, Instr.range, run_underlying ht, MapKept.run_getObj_map e1, Result.andThen]
  exact ⟨g', h1, h2, .ptr h3⟩
theorem op_entry {x : Operand} {mid rid i : Nat} {M : List (D × D)} {S : List Nat} {e : D × D} (hx : Is (ρ x) (.ptr rid 0)) (hH : H[rid]? = some (.ob (itO mid M.length (S ++ [i])))) (hM : H[mid]? = some (.ob (mpO M))) (he : M[i]? = some e) :
    OpV P (.entry x) ty ρ H (.tup [.d e.1, .d e.2]) H :=
  OpV.of_val fun g w r hw h => by
    obtain ⟨b, f1, ⟨es, e1, e2, e3⟩, f3, _⟩ := hw.ob mid _ hM
    obtain ⟨rb, r1, ⟨bm, r2, r3⟩, _⟩ := hw.ob rid _ hH
    obtain rfl : b = bm := by rw [f1] at r2; exact Option.some.inj r2
    have hp := hx.rep (h x (by simp [Op.operands]))
    generalize hr : r x = u at hp
    cases hp with
    | @ptr _ _ b' hb =>
      obtain rfl : b' = rb := by rw [hb] at r1; exact Option.some.inj r1
      have hi : i < es.size := by rw [e2]; exact (List.getElem?_eq_some_iff.1 he).1
      have hei : es[i]? = some es[i] := by simp [hi]
      obtain ⟨q1, q2, q3⟩ := e3 i e _ he hei
      have hnd : (es.toList.map (·.born)).Nodup := by
        have : es.toList.map (·.born) = List.range es.size := by
          apply List.ext_getElem
          · simp
          · intro k h1 h2
            simp only [List.length_map, Array.length_toList] at h1
            obtain ⟨y, hy⟩ : ∃ y, M[k]? = some y := ⟨_, List.getElem?_eq_getElem (by omega)⟩
            have := (e3 k y es[k] hy (by simp [h1])).1
            simp [this]
        rw [this]; exact List.nodup_range
      have hrun := run_entry_at (P := P) w b' b M.length S.toArray es M.length es[i] (by rw [q1]; simpa using r3) e1 (by simp) hnd
      refine ⟨.tuple #[es[i].key, es[i].val], fun _ _ _ _ => by simp [execOp, hr, hrun], .tup rfl (fun k y v hy hv => ?_)⟩
      match k, hy, hv with
      | 0, hy, hv => simp at hy hv; subst hy; subst hv; exact .d q2
      | 1, hy, hv => simp at hy hv; subst hy; subst hv; exact .d q3
      | k + 2, hy, _ => simp at hy

/-- An operation that ends in one of several ways. -/
def OpVN (P : Program) (o : Op) (ty : TypeId) (ρ : Operand → V) (H : List HE) (R : V → List HE → Prop) : Prop :=
  ∀ g w r pos after guard dst, WOK g w H → (∀ x, x ∈ o.operands → Rep g w (ρ x) (r x)) →
    OpRuns P ⟨dst, o, ty, pos, after, guard⟩ r w fun rv w' => ∃ g' v H', R v H' ∧ WOK g' w' H' ∧ Evo g w g' w' ∧ Rep g' w' v rv
theorem AL.stepN {F : FC} {K : St → Prop} {st : St} {ops : Array Oper} {dst : Option Nat} {o : Op} {ty : TypeId} {pos : String} {after : Array Edge} {rest : List Oper} {R : V → List HE → Prop}
    (hd : dlt dst F.n = true) (h : OpVN F.P o ty (Ab.ρ st.env) st.H R) (k : ∀ v H', R v H' → AL F ops K rest ⟨updO st.env dst v, H'⟩) : AL F ops K (⟨dst, o, ty, pos, after, none⟩ :: rest) st := by
  have hd := dlt_lt hd
  rintro a w ⟨h1, h2, g, h3, h4, h5⟩
  simp only [wpL, Region.wanted, if_true]
  refine OpRuns.wp (h g w a.eval pos after none dst h3 (fun x _ => Rep.eval h5 x)) ?_
  rintro rv w' ⟨g', v, H', hR, hw', he, hr⟩
  exact k v H' hR _ _ (Sim.put h1 h2 h4 h5 hd hw' he hr)
theorem op_nextMap {x : Operand} {mid rid : Nat} {M : List (D × D)} {S : List Nat} (hx : Is (ρ x) (.ptr rid 0)) (hH : H[rid]? = some (.ob (itO mid M.length S))) (hM : H[mid]? = some (.ob (mpO M))) :
    OpVN P (.next x false) ty ρ H fun v H' => (v = .tup [.d (.bool false)] ∧ H' = H ∧ ∀ i, i < M.length → i ∈ S) ∨
      ∃ i e, M[i]? = some e ∧ i ∉ S ∧ v = .tup [.d (.bool true), .d e.1, .d e.2] ∧ H' = H.set rid (.ob (itO mid M.length (S ++ [i]))) := by
  intro g w r pos after guard dst hw h
  obtain ⟨b, f1, ⟨es, e1, e2, e3⟩, f3, _⟩ := hw.ob mid _ hM
  obtain ⟨rb, r1, ⟨bm, r2, r3⟩, _⟩ := hw.ob rid _ hH
  obtain rfl : b = bm := by rw [f1] at r2; exact Option.some.inj r2
  have hp := hx.rep (h x (by simp [Op.operands]))
  generalize hr : r x = u at hp
  cases hp with
  | @ptr _ _ b' hb =>
    obtain rfl : b' = rb := by rw [hb] at r1; exact Option.some.inj r1
    have idx : ∀ e ∈ es.toList, ∃ i x, M[i]? = some x ∧ es[i]? = some e ∧ e.born = i ∧ RepD g.Pr w x.1 e.key ∧ RepD g.Pr w x.2 e.val := by
      intro e he
      obtain ⟨i, hi⟩ := List.getElem?_of_mem he
      rw [Array.getElem?_toList] at hi
      have hil : i < M.length := by rw [← e2]; exact (Array.getElem?_eq_some_iff.1 hi).1
      obtain ⟨q1, q2, q3⟩ := e3 i M[i] e (List.getElem?_eq_getElem hil) hi
      exact ⟨i, M[i], List.getElem?_eq_getElem hil, hi, q1, q2, q3⟩
    have hold : ∀ x ∈ es.toList, x.born < M.length := by
      intro e he
      obtain ⟨i, x, k1, _, k2, _⟩ := idx e he
      rw [k2]; exact (List.getElem?_eq_some_iff.1 k1).1
    rcases run_next_at (P := P) w ty b' b M.length M.length S.toArray es M.length r3 e1 hold (Nat.le_refl _) with ⟨l0, hrun⟩ | ⟨e, he, w1, hw1, hrun⟩
    · unfold OpRuns
      simp [execOp, hr, hrun]
      refine ⟨g, _, H, .inl ⟨rfl, rfl, fun i hi => ?_⟩, hw, .refl _ _, .tup rfl (fun k y v hy hv => ?_)⟩
      · have hie : i < es.size := by omega
        have hq := (e3 i M[i] es[i] (List.getElem?_eq_getElem hi) (by simp [hie])).1
        have hl : leftOf es S.toArray = #[] := Array.eq_empty_of_size_eq_zero l0
        unfold leftOf at hl
        rw [Array.filter_eq_empty_iff] at hl
        have := hl es[i] (by simp)
        simpa [hq] using this
      · match k, hy, hv with
        | 0, hy, hv => simp at hy hv; subst hy; subst hv; exact .d (.bool _)
        | k + 1, hy, _ => simp at hy
    · have hmem : e ∈ es.toList ∧ ¬ S.toArray.contains e.born = true := by
        unfold leftOf at he
        simp only [Array.toList_filter, List.mem_filter] at he
        exact ⟨he.1, by simpa using he.2⟩
      obtain ⟨i, x, k1, k2, k3, k4, k5⟩ := idx e hmem.1
      have hiS : i ∉ S := by
        have := hmem.2
        rw [k3] at this
        simpa using this
      have hww : WOK g w1 H ∧ Evo g w g w1 := by
        rcases hw1 with rfl | rfl
        · exact ⟨hw, .refl _ _⟩
        · exact hw.drew
      have r3' : w1.heap[b']? = some (.mapIter (some b) M.length S.toArray M.length) := by rcases hw1 with rfl | rfl <;> exact r3
      have hbl : b' < w1.heap.size := (Array.getElem?_eq_some_iff.1 r3').1
      obtain ⟨j1, j2⟩ := hww.1.setOb (x1 := itO mid M.length (S ++ [i])) (w' := ChangeMaps.setBlock w1 b' (.mapIter (some b) M.length (S.toArray.push e.born) M.length)) hH hb ⟨rfl, rfl, rfl⟩ (by simp [ChangeMaps.setBlock]) (fun b2 hne => by
        show (w1.heap.setIfInBounds b' _)[b2]? = _
        rw [Array.getElem?_setIfInBounds_ne (Ne.symm hne)]) (fun _ => ⟨b, f1, by
          show (w1.heap.setIfInBounds b' _)[b']? = _
          rw [Array.getElem?_setIfInBounds_self_of_lt hbl, k3]; simp⟩)
      have hev := hww.2.trans j2
      unfold OpRuns
      simp only [execOp, hr, Sem.run_bind, hrun, Result.andThen_ok, Sem.run_pure]
      refine ⟨g, _, _, .inr ⟨i, x, k1, hiS, rfl, rfl⟩, j1, hev, .tup rfl (fun k y v hy hv => ?_)⟩
      match k, hy, hv with
      | 0, hy, hv => simp at hy hv; subst hy; subst hv; exact .d (.bool _)
      | 1, hy, hv => simp at hy hv; subst hy; subst hv; exact .d (k4.mono hev.pr)
      | 2, hy, hv => simp at hy hv; subst hy; subst hv; exact .d (k5.mono hev.pr)
      | k + 3, hy, _ => simp at hy
end

/-- What is left of a list, by places. -/
def left {α : Type} (l : List α) (S : List Nat) : List Nat → List α := fun I => I.filterMap fun i => if i ∈ S then none else l[i]?
theorem left_take {α : Type} {l : List α} {S : List Nat} {i : Nat} {e : α} (he : l[i]? = some e) (hi : i ∉ S) : ∀ {I : List Nat}, I.Nodup → i ∈ I → (e :: left l (S ++ [i]) I).Perm (left l S I)
  | [], _, h => by cases h
  | a :: I, hn, h => by
    rw [List.nodup_cons] at hn
    unfold left
    by_cases hai : a = i
    · subst hai
      rw [List.filterMap_cons, List.filterMap_cons, if_pos (by simp), if_neg hi, he]
      refine List.Perm.cons _ ?_
      have : ∀ J : List Nat, a ∉ J → List.filterMap (fun k => if k ∈ S ++ [a] then none else l[k]?) J = List.filterMap (fun k => if k ∈ S then none else l[k]?) J := by
        intro J
        induction J with
        | nil => intro _; rfl
        | cons k J ih =>
          intro hk
          simp only [List.mem_cons, not_or] at hk
          have hiff : (k ∈ S ++ [a]) ↔ k ∈ S := by simp [Ne.symm hk.1]
          rw [List.filterMap_cons, List.filterMap_cons, ih hk.2]
          simp only [hiff]
      rw [this I hn.1]
    · have hm : i ∈ I := by rcases List.mem_cons.1 h with h | h; exact absurd h.symm hai; exact h
      have ih := left_take he hi hn.2 hm
      unfold left at ih
      rw [List.filterMap_cons, List.filterMap_cons]
      by_cases haS : a ∈ S
      · rw [if_pos (by simp [haS]), if_pos haS]; exact ih
      · rw [if_neg (by simp [haS, hai]), if_neg haS]
        cases hla : l[a]? with
        | none => exact ih
        | some x => exact (List.Perm.swap _ _ _).trans (ih.cons _)
theorem left_none {α : Type} {l : List α} {S : List Nat} (h : ∀ i, i < l.length → i ∈ S) : left l S (List.range l.length) = [] := by
  unfold left
  rw [List.filterMap_eq_nil_iff]
  intro i hi
  rw [if_pos (h i (List.mem_range.1 hi))]
theorem left_all {α : Type} {l : List α} : left l [] (List.range l.length) = l := by
  unfold left
  simp only [List.not_mem_nil, if_false]
  apply List.ext_getElem?
  intro k
  have key : ∀ (n : Nat), n ≤ l.length → (List.range n).filterMap (fun i => l[i]?) = l.take n := by
    intro n
    induction n with
    | zero => intro _; simp
    | succ n ih =>
      intro h
      rw [List.range_succ, List.filterMap_append, ih (by omega), List.take_add_one]
      simp [List.getElem?_eq_getElem (show n < l.length by omega)]
  rw [key l.length (Nat.le_refl _), List.take_length]

/-- A loop over the entries of a map. -/
theorem AW.loopR {F : FC} {Q : Exit → St → Prop} {σ τ α : Type} {body : Code} {E : Nat → V} {H : List HE} (n0 : Nat) (keep : List Nat) (m : σ → List (Nat × V)) (K : σ → OB → List HE)
    {f : σ → α → Option (σ ⊕ τ)} {fin : σ → τ} {fx : α → D × D} {l : List α} {s0 : σ} {t : τ} {rg dn dk it B mid rid : Nat} {ty1 ty2 : TypeId} {p1 p2 : String} {a1 a2 : Array Edge}
    (hr : rangeM f fin s0 l = some t) (hg : ∀ id, n0 ≤ id → F.g0.σ id = none ∧ F.g0.τ id = none) (h0 : Meets n0 E keep (m s0) (K s0 (itO mid l.length [])) ⟨E, H⟩)
    (hit : ∀ s, Ab.head keep E (m s) it = .ptr rid 0) (hK1 : ∀ s x, (K s x)[rid]? = some (.ob x)) (hK2 : ∀ s x, (K s x)[mid]? = some (.ob (mpO (l.map fx)))) (hset : ∀ s x y, (K s x).set rid (.ob y) = K s y)
    (hd1 : dlt (some dn) F.n = true) (hd2 : dlt (some dk) F.n = true)
    (step : ∀ (inv : σ → Prop) (s : σ) (e : α) (S : List Nat) (i : Nat) (y : σ ⊕ τ), l[i]? = some e → f s e = some y → (match y with | .inl s' => inv s' | .inr v => some v = some t) →
      AW F body (thenQ (fun st => ∃ s', inv s' ∧ Meets n0 E keep (m s') (K s' (itO mid l.length (S ++ [i]))) st) Q) ⟨upd (upd (Ab.head keep E (m s)) dn (.tup [.d (.bool true), .d (fx e).1, .d (fx e).2])) dk (.d (.bool true)), K s (itO mid l.length (S ++ [i]))⟩)
    (done : ∀ (s : σ) (S : List Nat), some (fin s) = some t → Q (.exit B) ⟨upd (upd (Ab.head keep E (m s)) dn (.tup [.d (.bool false)])) dk (.d (.bool false)), K s (itO mid l.length S)⟩) :
    AW F (.loop (.seq (.region rg #[⟨some dn, .next (.tmp it) false, ty1, p1, a1, none⟩, ⟨some dk, .extract (.tmp dn) 0, ty2, p2, a2, none⟩] false) (.seq (.cond (.tmp dk) .skip (.exit B)) body))) Q ⟨E, H⟩ := by
  have hML : (l.map fx).length = l.length := by simp
  refine AW.loop (α := List Nat × σ) (fun x => ∀ p : List α, p.Perm (left l x.1 (List.range l.length)) → iterR f fin x.2 p = some t) (fun x => ⟨Ab.head keep E (m x.2), K x.2 (itO mid l.length x.1)⟩) (fun x => (left l x.1 (List.range l.length)).length) ([], s0) ?_ (fun _ _ hs => meets_sim hg hs h0) ?_
  · intro p hp
    dsimp only at hp
    rw [left_all] at hp
    exact rangeM_all hr p hp
  rintro ⟨S, s⟩ hI
  dsimp only at hI
  refine AW.seqR ?_
  refine AL.stepN hd1 (op_nextMap (mid := mid) (rid := rid) (M := l.map fx) (S := S) (.e (hit s)) (by rw [hML]; exact hK1 s _) (hK2 s _)) ?_
  rintro v H' (⟨rfl, rfl, hall⟩ | ⟨i, e', he', hiS, rfl, rfl⟩)
  · refine AL.s (v := .d (.bool false)) (H' := K s (itO mid l.length S)) hd2 (op_extractV (l := [.d (.bool false)]) (.e (upd_same _ _ _)) rfl) ?_
    refine AL.nil ?_
    refine AW.seq ?_
    refine AW.cond (b := false) (upd_same _ _ _) (fun h => by cases h) (fun _ => ?_)
    refine AW.exit ?_
    refine tq_exit ?_
    refine tq_exit ?_
    refine done s S ?_
    have := hI [] (by rw [left_none (fun i hi => hall i (by simpa using hi))])
    exact this
  · rw [hML, hset]
    refine AL.s (v := .d (.bool true)) (H' := K s (itO mid l.length (S ++ [i]))) hd2 (op_extractV (l := [.d (.bool true), .d e'.1, .d e'.2]) (.e (upd_same _ _ _)) rfl) ?_
    refine AL.nil ?_
    refine AW.seq ?_
    refine AW.cond (b := true) (upd_same _ _ _) (fun _ => ?_) (fun h => by cases h)
    refine AW.skip ?_
    refine nq ?_
    obtain ⟨e, he, rfl⟩ : ∃ e, l[i]? = some e ∧ e' = fx e := by
      simp only [List.getElem?_map, Option.map_eq_some_iff] at he'
      obtain ⟨e, h1, h2⟩ := he'
      exact ⟨e, h1, h2.symm⟩
    have hi : i ∈ List.range l.length := List.mem_range.2 (List.getElem?_eq_some_iff.1 he).1
    have hperm := left_take he hiS List.nodup_range hi
    have hstep : ∀ p : List α, p.Perm (left l (S ++ [i]) (List.range l.length)) → (f s e).bind (fun r => match r with | .inl s' => iterR f fin s' p | .inr t => some t) = some t := fun p hp => hI (e :: p) ((hp.cons e).trans hperm)
    obtain ⟨y, hy⟩ : ∃ y, f s e = some y := by
      have := hstep _ (List.Perm.refl _)
      cases hfe : f s e with
      | none => rw [hfe] at this; cases this
      | some y => exact ⟨y, rfl⟩
    have hy2 : ∀ p : List α, p.Perm (left l (S ++ [i]) (List.range l.length)) → Sum.elim (fun s' => iterR f fin s' p) some y = some t := fun p hp => by
      have := hstep p hp
      rw [hy] at this
      cases y <;> exact this
    refine (step (fun s' => ∀ p : List α, p.Perm (left l (S ++ [i]) (List.range l.length)) → iterR f fin s' p = some t) s e S i y he hy ?_).mono ?_
    · cases y with
      | inl s' => exact hy2
      | inr v => exact hy2 _ (List.Perm.refl _)
    · intro ex st hq
      cases ex with
      | normal =>
        obtain ⟨s', h1, h2⟩ := hq
        refine ⟨(S ++ [i], s'), h1, ?_, fun a w hs => meets_sim hg hs h2⟩
        have := hperm.length_eq
        simp only [List.length_cons] at this
        show (left l (S ++ [i]) (List.range l.length)).length < (left l S (List.range l.length)).length
        omega
      | _ => exact hq

/-! ### texts -/
def siN (s : List UInt8) (pos : Nat) : Bool × Int × Int × Nat :=
  if pos < s.length then (true, (pos : Int), ((Utf8.decode ⟨s.toArray⟩ pos).1 : Int), pos + (Utf8.decode ⟨s.toArray⟩ pos).2) else (false, 0, 0, pos)
def siT (r : Bool × Int × Int × Nat) : V := if r.1 = true then .tup [.d (.bool true), .d (.int .i64 r.2.1), .d (.int .i32 r.2.2.1)] else .tup [.d (.bool false)]
def siO (s : List UInt8) (pos : Nat) : OB where
  φ := fun _ w _ r => w.heap[r]? = some (.stringIter ⟨s.toArray⟩ pos)
  st := fun _ _ _ hb _ h => hb.trans h
  fr := true
  fre := fun _ {g g' w i j b} _ _ h => h
theorem obR_si {T : List Nat} {s : List UInt8} {pos : Nat} : ObR T (siO s pos) (siO s pos) := fun _ h => h
section
variable {P : Program} {ρ : Operand → V} {H : List HE} {ty : TypeId}
theorem op_rangeStr {x : Operand} {t : TypeId} {n : Nat} {s : List UInt8} (ht : P.underlying t = some .string) (hx : As (ρ x) (.str s)) (hn : H.length = n) : OpV P (.range t x) ty ρ H (.ptr n 0) (H ++ [.ob (siO s 0)]) := by
  subst hn
  intro g w r pos after guard dst hw h
  have hr := hx.str (h x (by simp [Op.operands]))
  obtain ⟨g', h1, h2, h3⟩ := hw.addFree.newOb (id := H.length) (x0 := siO s 0) (o0 := .stringIter ⟨s.toArray⟩ 0) (by simp) (fun g' w' he hh => hh)
  rw [set_last] at h1
  unfold OpRuns
  simp [execOp, hr, Instr.range, run_underlying ht, Result.andThen]
  exact ⟨g', h1, h2, .ptr h3⟩
theorem op_nextStr {x : Operand} {rid pos : Nat} {s : List UInt8} {r : Bool × Int × Int × Nat} (hx : Is (ρ x) (.ptr rid 0)) (hH : H[rid]? = some (.ob (siO s pos))) (hv : some (siN s pos) = some r) :
    OpV P (.next x true) ty ρ H (siT r) (H.set rid (.ob (siO s r.2.2.2))) := by
  injection hv with hv
  intro g w r' pos' after guard dst hw h
  obtain ⟨rb, r1, r3, _⟩ := hw.ob rid _ hH
  have r3 : w.heap[rb]? = some (.stringIter ⟨s.toArray⟩ pos) := r3
  have hp := hx.rep (h x (by simp [Op.operands]))
  generalize hr : r' x = u at hp
  cases hp with
  | @ptr _ _ b' hb =>
    obtain rfl : b' = rb := by rw [hb] at r1; exact Option.some.inj r1
    have hbl : b' < w.heap.size := (Array.getElem?_eq_some_iff.1 r3).1
    have hsz : (⟨s.toArray⟩ : ByteArray).size = s.length := ba_size s
    have hget : (getObj b').run P w = .ok (.stringIter ⟨s.toArray⟩ pos) w := by simp [getObj, Sem.run, r3]
    by_cases hlt : pos < s.length
    · have hr0 : r = (true, (pos : Int), ((Utf8.decode ⟨s.toArray⟩ pos).1 : Int), pos + (Utf8.decode ⟨s.toArray⟩ pos).2) := by rw [← hv]; unfold siN; rw [if_pos hlt]
      subst hr0
      obtain ⟨j1, j2⟩ := hw.setOb (x1 := siO s (pos + (Utf8.decode ⟨s.toArray⟩ pos).2)) (w' := ChangeMaps.setBlock w b' (.stringIter ⟨s.toArray⟩ (pos + (Utf8.decode ⟨s.toArray⟩ pos).2))) hH hb ⟨rfl, rfl, rfl⟩ (by simp [ChangeMaps.setBlock]) (fun b2 hne => by
        show (w.heap.setIfInBounds b' _)[b2]? = _
        rw [Array.getElem?_setIfInBounds_ne (Ne.symm hne)]) (fun _ => by
          show (w.heap.setIfInBounds b' _)[b']? = _
          rw [Array.getElem?_setIfInBounds_self_of_lt hbl])
      have hset : (setObj b' (.stringIter ⟨s.toArray⟩ (pos + (Utf8.decode ⟨s.toArray⟩ pos).2))).run P w = .ok () (ChangeMaps.setBlock w b' (.stringIter ⟨s.toArray⟩ (pos + (Utf8.decode ⟨s.toArray⟩ pos).2))) := by
        simp [setObj, Sem.run, r3, ChangeMaps.setBlock]
      unfold OpRuns
      simp [execOp, hr, Instr.next, hget, Result.andThen, hsz, hlt, hset, goInt]
      refine ⟨g, j1, j2, ?_⟩
      unfold siT
      rw [if_pos rfl]
      refine .tup rfl (fun k y v hy hv => ?_)
      match k, hy, hv with
      | 0, hy, hv => simp at hy hv; subst hy; subst hv; exact .d (.bool _)
      | 1, hy, hv => simp at hy hv; subst hy; subst hv; exact .d (.int _ _)
      | 2, hy, hv => simp at hy hv; subst hy; subst hv; exact .d (.int _ _)
      | k + 3, hy, _ => simp at hy
    · have hr0 : r = (false, 0, 0, pos) := by rw [← hv]; unfold siN; rw [if_neg hlt]
      subst hr0
      have hsame : H.set rid (.ob (siO s pos)) = H := by
        apply List.ext_getElem?
        intro k
        by_cases hk : k = rid
        · subst hk; rw [List.getElem?_set_self (List.getElem?_eq_some_iff.1 hH).1, hH]
        · rw [List.getElem?_set_ne (Ne.symm hk)]
      unfold OpRuns
      simp [execOp, hr, Instr.next, hget, Result.andThen, hsz, hlt]
      refine ⟨g, by rw [hsame]; exact hw, .refl _ _, ?_⟩
      unfold siT
      rw [if_neg (by simp)]
      refine .tup rfl (fun k y v hy hv => ?_)
      match k, hy, hv with
      | 0, hy, hv => simp at hy hv; subst hy; subst hv; exact .d (.bool _)
      | k + 1, hy, _ => simp at hy
theorem op_exS0 {x : Operand} {r : Bool × Int × Int × Nat} (hx : Is (ρ x) (siT r)) : OpV P (.extract x 0) ty ρ H (.d (.bool r.1)) H := by
  obtain ⟨b, i, c, p⟩ := r
  cases b with
  | true => exact op_extractV (l := [.d (.bool true), .d (.int .i64 i), .d (.int .i32 c)]) hx rfl
  | false => exact op_extractV (l := [.d (.bool false)]) hx rfl
theorem op_exS2 {x : Operand} {r : Bool × Int × Int × Nat} (h : r.1 = true) (hx : Is (ρ x) (siT r)) : OpV P (.extract x 2) ty ρ H (.d (.int .i32 r.2.2.1)) H := by
  obtain ⟨b, i, c, p⟩ := r
  cases h
  exact op_extractV (l := [.d (.bool true), .d (.int .i64 i), .d (.int .i32 c)]) hx rfl
end
end Go.Proofs.YtgcmhhcopeiomaaGreat.Ab
