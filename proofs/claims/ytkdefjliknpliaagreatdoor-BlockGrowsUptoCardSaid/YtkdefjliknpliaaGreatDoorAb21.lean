/- Plain laws, joined. Conditions: none. -/
import Derived.Test.YtkdefjliknpliaaGreatDoorAb19
namespace Go.Proofs.YtkdefjliknpliaaGreatDoor.Ab
section
/- Calls over a heap, and lists whose first element comes by 'append'. Conditions: none. -/
open Go

/-- The end of a function: its results and its heap, the entries numbered anew. -/
def EndG (P : Program) (rs : List ResultVar) (n0 : Nat) (vs0 : List V) (H1 : List HE) : Exit → St → Prop
  | .normal, st | .ret, st => ∃ vs S, ResL P st rs vs ∧ idPre n0 S = true ∧ distinct S = true ∧ LeRC S vs vs0 ∧ LeRH S st.H S H1
  | _, _ => False

theorem resOf_tup {vs : List V} (h : vs.length ≠ 1) : resOf vs = .tup vs := by
  match vs, h with
  | [], _ => rfl
  | [_], h => exact absurd rfl h
  | _ :: _ :: _, _ => rfl
theorem resOf_ren {g : G} {w : World} {S : List Nat} {vs vs0 : List V} (h : LeRC S vs vs0) {r : Value} (hr : Rep g w (resOf vs) r) : Rep (g.ren S) w (resOf vs0) r := by
  obtain ⟨hl, hg⟩ := h.get
  by_cases h1 : vs.length = 1
  · obtain ⟨v, rfl⟩ := List.length_eq_one_iff.1 h1
    obtain ⟨u, rfl⟩ := List.length_eq_one_iff.1 (hl ▸ h1)
    obtain ⟨y, hy, hle⟩ := hg 0 u rfl
    simp at hy; subst hy
    exact hle.rep hr
  · rw [resOf_tup h1] at hr
    rw [resOf_tup (by omega)]
    cases hr with
    | tup h1 h2 =>
      refine .tup (by omega) (fun i x v hx hv => ?_)
      obtain ⟨y, hy, hle⟩ := hg i x hx
      exact hle.rep (h2 i y v hy hv)

theorem ACall.of_AWG {P : Program} {f : FuncId} {fnn : Func} {c : Code} {args : List V} {H H1 : List HE} {vs0 : List V} (hf : P.funcs[f]? = some fnn) (hb : fnn.body = some c) (hn : args.length ≤ fnn.ntmps)
    (h : ∀ g0 w0, WOK g0 w0 H → AW ⟨P, fnn.ntmps, g0, w0⟩ c (EndG P fnn.results.toList H.length vs0 H1) ⟨envOf args, H⟩) : ACall P f args H fun r H' => r = resOf vs0 ∧ H' = H1 := by
  intro g w vals hw hs ha
  refine calls_of_wp hf hb (wp_mono (h g w hw { tmps := vals ++ Array.replicate (fnn.ntmps - vals.size) undef, defers := [] } w ⟨rfl, by simp; omega, g, hw, .refl _ _, fun i => ?_⟩) ?_)
  · by_cases hi : i < args.length
    · have := envOf_rep (args := args) (vals := vals.toList) (by simpa using hs.symm) (fun i x v hx hv => ha i x v hx (by simpa [Array.getElem?_toList] using hv)) i
      have e : (vals ++ Array.replicate (fnn.ntmps - vals.size) undef).getD i undef = vals.toList.getD i undef := by
        simp [Array.getD_eq_getD_getElem?, Array.getElem?_append_left (show i < vals.size by omega)]
      rw [e]; exact this
    · show Rep g w (envOf args i) _
      rw [envOf_any (by omega)]; exact .any
  · rintro e a' w' ⟨st', ⟨h1, h2, g', h3, h4, h5⟩, hq⟩
    have fin : (∃ vs S, ResL P st' fnn.results.toList vs ∧ idPre H.length S = true ∧ distinct S = true ∧ LeRC S vs vs0 ∧ LeRH S st'.H S H1) →
        ∃ v, (results fnn a'.tmps).run P w' = .ok v w' ∧ ∃ rv res g'' H', Ending.returned v = .returned rv ∧ WOK g'' w' H' ∧ Evo g w g'' w' ∧ Rep g'' w' res rv ∧ (res = resOf vs0 ∧ H' = H1) := by
      rintro ⟨vs, S, hr, k1, k2, k3, k4⟩
      obtain ⟨r, e1, e2⟩ := results_run (fnn := fnn) h3 h5 hr
      refine ⟨r, e1, r, _, g'.ren S, _, rfl, h3.ren k4 k2, ?_, resOf_ren k3 e2, rfl, rfl⟩
      refine ⟨h4.same, h4.size, h4.pr, h4.prn, h4.x, h4.keep, fun id b hb => ?_, fun id m a cap ht => ?_⟩
      · have hlt : id < H.length := by
          rcases Nat.lt_or_ge id H.length with h | h
          · exact h
          · rw [(hw.free id (.inr h)).1] at hb; cases hb
        simp [G.ren, idPre_get k1 hlt, h4.σ id b hb]
      · have hlt : id < H.length := by
          rcases Nat.lt_or_ge id H.length with h | h
          · exact h
          · rw [(hw.free id (.inr h)).2.1] at ht; cases ht
        simpa [G.ren, idPre_get k1 hlt] using h4.τ id m a cap ht
    cases e with
    | normal => exact ⟨h1, fin hq⟩
    | ret => exact ⟨h1, fin hq⟩
    | exit id => exact hq.elim
    | goto l => exact hq.elim
    | panic c => exact hq.elim
    | outgrown => exact hq.elim

/-- The entries that a call is handed. -/
inductive InH (H : List HE) (p : Nat → Nat) : List Nat → List HE → Prop
  | nil : InH H p [] []
  | cons {id : Nat} {e : HE} {ids : List Nat} {H0 : List HE} : H[id]? = some (e.rn p) → InH H p ids H0 → InH H p (id :: ids) (e :: H0)
theorem InH.get {H : List HE} {p : Nat → Nat} {ids : List Nat} {H0 : List HE} (h : InH H p ids H0) : ids.length = H0.length ∧ ∀ (i : Nat) e, H0[i]? = some e → ∃ id, ids[i]? = some id ∧ H[id]? = some (e.rn p) := by
  induction h with
  | nil => simp
  | cons h1 _ ih =>
    refine ⟨by simp [ih.1], fun i e he => ?_⟩
    cases i with
    | zero => simp only [List.getElem?_cons_zero, Option.some.injEq] at he; subst he; exact ⟨_, rfl, h1⟩
    | succ i => exact ih.2 i e (by simpa using he)

section
variable {P : Program} {ρ : Operand → V} {H : List HE} {ty : TypeId}
theorem op_callF {fop : Operand} {f : FuncId} {args : Array Operand} {ts : Array TypeId} {args0 vs caps : List V} {H0 H1 H' : List HE} {r0 v : V} (ids : List Nat) (hc : ∀ (a : Array Value) (w : World), (callFunc f a).run P w = .ok (.enter f a) w)
    (hf : Is (ρ fop) (.fn (.func f) caps)) (ha : ArgsV ρ args.toList vs) (h : ACall P f args0 H0 fun r H' => r = r0 ∧ H' = H1) (hargs : vs ++ caps = args0.map (V.rn (glob ids H.length))) (hin : InH H (glob ids H.length) ids H0) (hd : distinct ids = true)
    (hs0 : H0.all HE.simple = true) (ha0 : args0.all V.simple = true) (hr0 : r0.simple = true) (hH1 : H1.all HE.simple = true) (hkl : Nat.ble ids.length H1.length = true) (hv : r0.rn (glob ids H.length) = v) (hm : mergeH H ids H1 = H') :
    OpV P (.call ⟨.value fop, args, ts⟩) ty ρ H v H' := by
  subst hv; subst hm
  refine op_call hc hf ha ?_
  rw [hargs]
  refine (h.frame ids hin.get.1 hd hin.get.2 hs0 ha0 (fun r H' ⟨h1, h2⟩ => by subst h1; subst h2; exact ⟨hr0, hH1, Nat.le_of_ble_eq_true hkl⟩)).mono ?_
  rintro r H' ⟨r0', H0', ⟨rfl, rfl⟩, h3, h4⟩
  exact ⟨h3, h4⟩

theorem WOK.lstize {g : G} {w : World} {s : Nat} {e : TypeId} {ad : Option Addr} (hw : WOK g w H) :
    ∃ g', WOK g' w (H ++ [.lst [] e s]) ∧ Evo g w g' w ∧ g'.τ H.length = some (0, ad, 0) := by
  obtain ⟨hfσ, hfτ, hfυ⟩ := hw.free H.length (.inr (Nat.le_refl _))
  let g' : G := { σ := g.σ, τ := fun i => if i = H.length then some (0, ad, 0) else g.τ i, υ := g.υ, X := g.X, Pr := g.Pr }
  have hτ' : ∀ i, i ≠ H.length → g'.τ i = g.τ i := fun i h => by simp [g', h]
  have hτid : g'.τ H.length = some (0, ad, 0) := by simp [g']
  have hev : Evo g w g' w := {
    same := ⟨rfl, rfl, rfl⟩
    size := Nat.le_refl _
    pr := fun b o hp => ⟨hp, rfl⟩
    prn := fun b o h => .inl h
    x := fun b h => .inl h
    keep := fun b _ _ => rfl
    σ := fun i b h => h
    τ := fun i m a c h => by
      have : i ≠ H.length := fun e => by subst e; rw [hfτ] at h; cases h
      exact ⟨m, a, c, by rw [hτ' i this]; exact h, .inr ⟨rfl, rfl, rfl⟩⟩ }
  have hget : ∀ (i : Nat) x, (H ++ [HE.lst [] e s])[i]? = some x → (i = H.length ∧ x = .lst [] e s) ∨ (i ≠ H.length ∧ H[i]? = some x) := by
    intro i x hx
    by_cases hi : i < H.length
    · rw [List.getElem?_append_left hi] at hx; exact .inr ⟨by omega, hx⟩
    · rw [List.getElem?_append_right (by omega)] at hx
      have : i - H.length = 0 := by
        by_cases h0 : i - H.length = 0
        · exact h0
        · rw [List.getElem?_eq_none (by simp; omega)] at hx; cases hx
      rw [this] at hx
      exact .inl ⟨by omega, by simpa using hx.symm⟩
  have hblk : ∀ (i : Nat) x b, (H ++ [HE.lst [] e s])[i]? = some x → g'.blk i x b → H[i]? = some x ∧ g.blk i x b := by
    intro i x b hx hb
    rcases hget i x hx with ⟨rfl, rfl⟩ | ⟨hi, h⟩
    · simp [G.blk, hτid] at hb
    · refine ⟨h, ?_⟩
      cases x <;> simp only [G.blk, hτ' i hi] at hb ⊢ <;> exact hb
  refine ⟨g', ⟨hw.pr, hw.xs, ?_, ?_, ?_, ?_, ?_, ?_, ?_, hw.kc⟩, hev, hτid⟩
  · intro i x b hx hb
    obtain ⟨k1, k2⟩ := hblk i x b hx hb
    exact hw.blk i x b k1 k2
  · intro i i' x x' b hx hx' hb hb'
    obtain ⟨k1, k2⟩ := hblk i x b hx hb
    obtain ⟨k3, k4⟩ := hblk i' x' b hx' hb'
    exact hw.sep i i' x x' b k1 k3 k2 k4
  · intro i c hx
    rcases hget i _ hx with ⟨_, h⟩ | ⟨hi, h⟩
    · cases h
    · obtain ⟨b1, arr1, et1, k1, k2, k3, k4, k5⟩ := hw.row i c h
      exact ⟨b1, arr1, et1, k1, k2, k3, fun k x v hx hv => (k4 k x v hx hv).mono hev, k5⟩
  · intro i m e1 s1 hx
    rcases hget i _ hx with ⟨_, h⟩ | ⟨hi, h⟩
    · cases h
    · obtain ⟨a, cap, k1, k2⟩ := hw.tok i m e1 s1 h
      exact ⟨a, cap, by rw [hτ' i hi]; exact k1, k2⟩
  · intro i l1 e1 s1 hx
    rcases hget i _ hx with ⟨rfl, h⟩ | ⟨hi, h⟩
    · injection h with q1 q2 q3
      subst q1; subst q2; subst q3
      exact ⟨ad, 0, hτid, by simp, by omega, fun h => by omega⟩
    · obtain ⟨a, cap, k1, k2⟩ := hw.lst i l1 e1 s1 h
      exact ⟨a, cap, by rw [hτ' i hi]; exact k1, k2⟩
  · intro i x hx
    rcases hget i _ hx with ⟨_, h⟩ | ⟨hi, h⟩
    · cases h
    · obtain ⟨b1, k1, k2, k3, k4⟩ := hw.ob i x h
      exact ⟨b1, k1, x.st hev.w (hτ' i hi) rfl rfl (fun _ _ => rfl) k2, k3, k4⟩
  · intro i hi
    have hne : i ≠ H.length ∧ (H[i]? = some .free ∨ H.length ≤ i) := by
      rcases hi with hi | hi
      · rcases hget i _ hi with ⟨_, h⟩ | ⟨h1, h⟩
        · cases h
        · exact ⟨h1, .inl h⟩
      · simp at hi; exact ⟨by omega, .inr (by omega)⟩
    rw [hτ' i hne.1]
    exact hw.free i hne.2

/-- The first append to an empty list that will be written in place. -/
theorem op_appendEH {α : Type} {f : α → D} {l' r : List α} {x y : Operand} {t e s bytes n : Nat} (ht : SlT P t e s bytes) (hx : Is (ρ x) (.ex [])) (hy : As (ρ y) (.sl (l'.map f))) (hn : H.length = n) (hf : En f s) (hv : app bytes [] l' = some r) :
    OpV P (.call ⟨.builtin .append, #[x, y], #[t, t]⟩) ty ρ H (.hs (n + 1) 0 r.length s) (H ++ [.dead, .lst (r.map f) e s]) := by
  classical
  subst hn
  intro g w rr pos after guard dst hw h
  have h1 := hx.rep (h x (by simp [Op.operands, Call.operands]))
  generalize hrx : rr x = vx at h1
  cases h1 with
  | @ex _ ad hd =>
    obtain ⟨g1, w1, w2, w3⟩ := WOK.lstize (e := e) (s := s) (ad := ad) hw
    have hy2 := hy.rep (h y (by simp [Op.operands, Call.operands]))
    have key := op_appendHM (P := P) (ty := ty) (ρ := fun z => if z = x then .hs H.length 0 0 s else .d (.sl (l'.map f))) (H := H ++ [.lst [] e s]) (x := x) (y := y) (l := ([] : List α)) (l' := l') (r := r) (f := f) (id := H.length) (len := 0) (n := H.length + 1) ht
    by_cases hxy : y = x
    · -- the list is appended to itself: both are empty
      subst hxy
      have hl' : l' = [] := by
        obtain ⟨a', c', h3, _⟩ := slice_form hy2
        rw [hrx] at h3
        injection h3 with h3 h4 h5
        simp at h4
        exact List.eq_nil_of_length_eq_zero (by omega)
      subst hl'
      have hr : r = [] := by
        unfold app at hv; split at hv
        · injection hv with hv; subst hv; rfl
        · cases hv
      subst hr
      have hH1 : ((H ++ [HE.lst [] e s]) ++ [.free])[H.length]? = some (.lst [] e s) := by simp
      have hfr : ((H ++ [HE.lst [] e s]) ++ [HE.free])[H.length + 1]? = some .free := by
        rw [List.getElem?_append_right (by simp)]; simp
      obtain ⟨g2, m1, m2, m3, _⟩ := w1.addFree.moveLst hH1 hfr
      unfold OpRuns
      have hrun : (execOp rr ⟨dst, .call ⟨.builtin .append, #[y, y], #[t, t]⟩, ty, pos, after, guard⟩).run P w = .ok (.value (.slice ad 0 0)) w := by
        have := append_none_run (P := P) (ty := ty) ht (w := w) (a := ad) (a' := ad) (n := 0) (cap := 0) (cap' := 0) (Nat.le_refl _)
        simp at hrx
        simp [execOp, resolve, invoke, builtin, hrx, this]
      rw [hrun]
      refine ⟨g2, ?_, w2.trans m2, .hs (m3.trans w3) (fun _ => ⟨rfl, rfl, rfl, Nat.le_refl _⟩)⟩
      have e1 : ((H ++ [HE.lst [] e s]) ++ [HE.free]).set H.length .dead = H ++ [.dead, .free] := by simp
      rw [e1] at m1
      have e2 : (H ++ [HE.dead, HE.free]).set (H.length + 1) (.lst [] e s) = H ++ [.dead, .lst [] e s] := by
        rw [List.set_append_right _ _ (by omega)]; simp
      rw [e2] at m1
      exact m1
    · have k := key (.e (by simp)) (by rw [if_neg hxy]; exact .r rfl) (by simp) rfl (by simp) hf hv g1 w rr pos after guard dst w1 (fun z hz => by
        simp only [Op.operands, Call.operands] at hz
        by_cases hzx : z = x
        · subst hzx
          simp only [if_pos]
          rw [hrx]
          exact .hs w3 (fun _ => ⟨rfl, rfl, rfl, Nat.le_refl _⟩)
        · simp only [if_neg hzx]
          have : z = y := by simp at hz; rcases hz with hz | hz; exact absurd hz hzx; exact hz
          subst this
          exact .d (hy2.mono w2.pr))
      unfold OpRuns at k ⊢
      revert k
      generalize (execOp rr ⟨dst, .call ⟨.builtin .append, #[x, y], #[t, t]⟩, ty, pos, after, guard⟩).run P w = res
      cases res with
      | ok n w' =>
        have fin : ∀ {rv : Value} {w' : World}, (∃ g', WOK g' w' ((H ++ [HE.lst [] e s]).set H.length .dead ++ [.lst (r.map f) e s]) ∧ Evo g1 w g' w' ∧ Rep g' w' (.hs (H.length + 1) 0 r.length s) rv) →
            ∃ g', WOK g' w' (H ++ [.dead, .lst (r.map f) e s]) ∧ Evo g w g' w' ∧ Rep g' w' (.hs (H.length + 1) 0 r.length s) rv := by
          rintro rv w' ⟨g', q1, q2, q3⟩
          refine ⟨g', ?_, w2.trans q2, q3⟩
          simpa using q1
        cases n <;> simp only <;> intro k
        case value v => exact fin k
        case skip => exact fin k
        case enter f0 args => exact k.mono fun e w'' ⟨v, h1, h2⟩ => ⟨v, h1, fin h2⟩
        all_goals exact k
      | halt x w' => exact fun k => k
end
end
section
/- Lists in the cells of rows: they begin empty, to be written in place; they are given up to be data. Conditions: none. -/
open Go

/-- The same memory, a row's cells known otherwise. -/
theorem WOK.recell {g : G} {w : World} {H : List HE} {id : Nat} {c d : List V} (hw : WOK g w H) (hH : H[id]? = some (.row c)) (hl : c.length = d.length) (h : ∀ (i : Nat) x y r, c[i]? = some x → d[i]? = some y → Rep g w x r → Rep g w y r) : WOK g w (H.set id (.row d)) := by
  have hidlt : id < H.length := (List.getElem?_eq_some_iff.1 hH).1
  have hget : ∀ (i : Nat) e, (H.set id (.row d))[i]? = some e → (i = id ∧ e = .row d) ∨ (i ≠ id ∧ H[i]? = some e) := by
    intro i e he
    by_cases hi : i = id
    · subst hi; rw [List.getElem?_set_self hidlt] at he; exact .inl ⟨rfl, (Option.some.inj he).symm⟩
    · rw [List.getElem?_set_ne (Ne.symm hi)] at he; exact .inr ⟨hi, he⟩
  have hblk : ∀ (i : Nat) e b', (H.set id (.row d))[i]? = some e → g.blk i e b' → ∃ e', H[i]? = some e' ∧ g.blk i e' b' := by
    intro i e b' he hb'
    rcases hget i e he with ⟨rfl, rfl⟩ | ⟨_, h⟩
    · exact ⟨_, hH, hb'⟩
    · exact ⟨e, h, hb'⟩
  refine ⟨hw.pr, hw.xs, ?_, ?_, ?_, ?_, ?_, ?_, ?_, hw.kc⟩
  · intro i e b he hb
    obtain ⟨e', h1, h2⟩ := hblk i e b he hb
    exact hw.blk i e' b h1 h2
  · intro i i' e e' b he he' hb hb'
    obtain ⟨e1, h1, h2⟩ := hblk i e b he hb
    obtain ⟨e3, h3, h4⟩ := hblk i' e' b he' hb'
    exact hw.sep i i' e1 e3 b h1 h3 h2 h4
  · intro i ci hi
    rcases hget i _ hi with ⟨rfl, he⟩ | ⟨_, h'⟩
    · injection he with he; subst he
      obtain ⟨b, arr, et, k1, k2, k3, k4, k5⟩ := hw.row i c hH
      refine ⟨b, arr, et, k1, k2, by omega, fun k x v hx hv => ?_, k5⟩
      have hk : k < c.length := by rw [hl]; exact (List.getElem?_eq_some_iff.1 hx).1
      exact h k _ x v (List.getElem?_eq_getElem hk) hx (k4 k _ v (List.getElem?_eq_getElem hk) hv)
    · exact hw.row i ci h'
  · intro i n e s hi
    rcases hget i _ hi with ⟨_, he⟩ | ⟨_, h'⟩
    · cases he
    · exact hw.tok i n e s h'
  · intro i l e s hi
    rcases hget i _ hi with ⟨_, he⟩ | ⟨_, h'⟩
    · cases he
    · exact hw.lst i l e s h'
  · intro i x hi
    rcases hget i _ hi with ⟨_, he⟩ | ⟨_, h'⟩
    · cases he
    · exact hw.ob i x h'
  · intro i hi
    refine hw.free i ?_
    rcases hi with hi | hi
    · rcases hget i _ hi with ⟨_, he⟩ | ⟨_, h'⟩
      · cases he
      · exact .inl h'
    · exact .inr (by simpa using hi)

/-- A list is given up to be data: slots, and cells of one row, that hold it. -/
theorem AW.freezeC {F : FC} {Q : Exit → St → Prop} {c : Code} {E : Nat → V} {H : List HE} {α : Type} {f : α → D} {l : List α} {e : TypeId} {s len : Nat} {cs : List V} (id : Nat) (ts : List Nat) (rid : Nat) (k : Nat) (hH : H[id]? = some (.lst (l.map f) e s)) (hl : l.length = len) (hf : En f s)
    (hE : SameE E (.hs id 0 len s) ts) (hR : H[rid]? = some (.row cs)) (hk : cs[k]? = some (.hs id 0 len s)) (h : AW F c Q ⟨setE E ts (.d (.sl (l.map f))), (H.set id .dead).set rid (.row (cs.set k (.d (.sl (l.map f)))))⟩) : AW F c Q ⟨E, H⟩ := by
  rintro a w ⟨h1, h2, g, h3, h4, h5⟩
  obtain ⟨a0, cap0, k1, k2, _⟩ := h3.lst id _ _ _ hH
  obtain ⟨g', w1, w2, w3, w4⟩ := h3.freeze hH (hf.szL l)
  have conv : ∀ r, Rep g' w (.hs id 0 len s) r → Rep g' w (.d (.sl (l.map f))) r := by
    intro r hr
    cases hr with
    | @hs _ _ _ _ m cap' n0 c0 a' a0' p1 p2 =>
      rw [w3, k1] at p1; injection p1 with p1; injection p1 with p1 p3; injection p3 with p3 p4
      obtain ⟨r1, r2, r3, _⟩ := hs0 (p2 p1.symm)
      have := w4 a0 cap0 k1
      subst r1; subst r3; subst p3; subst p4
      rw [r2, ← hl]
      simp only [List.length_map] at this
      exact .d this
  have hne : rid ≠ id := fun e => by subst e; rw [hH] at hR; cases hR
  have key := w1.recell (id := rid) (c := cs) (d := cs.set k (.d (.sl (l.map f)))) (by rw [List.getElem?_set_ne (Ne.symm hne)]; exact hR) (by simp) (fun i x y r hx hy hr => by
    rw [List.getElem?_set] at hy
    split at hy
    · rename_i hki
      subst hki
      rw [hk] at hx; injection hx with hx; subst hx
      split at hy
      · injection hy with hy; subst hy; exact conv r hr
      · cases hy
    · rw [hx] at hy; injection hy with hy; subst hy; exact hr)
  exact h a w ⟨h1, h2, g', key, h4.trans w2, fun i => setE_rep ((h5 i).mono w2) (conv _) hE⟩
end
end Go.Proofs.YtkdefjliknpliaaGreatDoor.Ab
