/- Entering and leaving a function, loops and meeting ways over listed slots, lists that are handed out to grow on. Conditions: none. -/
import Derived.Test.YtindppnanjcoaaaGreatDoorAb6
namespace Go.Proofs.YtindppnanjcoaaaGreatDoor.Ab
open Go

def envOf : List V → Nat → V
  | [], _ => .any
  | v :: _, 0 => v
  | _ :: l, n + 1 => envOf l n

inductive ResL (P : Program) (st : St) : List ResultVar → List V → Prop
  | nil : ResL P st [] []
  | tmp {t : Nat} {v : V} {rs : List ResultVar} {vs : List V} : Is (st.env t) v → ResL P st rs vs → ResL P st (.tmp t :: rs) (v :: vs)
  | cellA {a ty id off n : Nat} {c cs : List V} {rs : List ResultVar} {vs : List V} : Is (st.env a) (.ptr id off) → st.H[id]? = some (.row c) → (c.drop off).take n = cs → cs.length = n → Ag P ty n →
      ResL P st rs vs → ResL P st (.cell a ty :: rs) (.agg cs :: vs)
  | cell1 {a ty id off : Nat} {c : List V} {v : V} {rs : List ResultVar} {vs : List V} : Is (st.env a) (.ptr id off) → st.H[id]? = some (.row c) → c[off]? = some v → Sc P ty →
      ResL P st rs vs → ResL P st (.cell a ty :: rs) (v :: vs)

def resOf : List V → V
  | [v] => v
  | vs => .tup vs

inductive Le : V → V → Prop
  | any {v : V} : Le v .any
  | of {v u : V} : v = u → Le v u
  | d {v : V} {x : D} : v.asD = some x → Le v (.d x)

theorem Le.int {k : IntKind} {a b : Int} (h : a = b) : Le (.d (.int k a)) (.d (.int k b)) := .of (by rw [h])
theorem Le.tk {id : Nat} {a b : List D} (h : a = b) : Le (.tk id a) (.tk id b) := .of (by rw [h])

theorem Le.rep {g : G} {w : World} {v u : V} {r : Value} (h : Le v u) (hr : Rep g w v r) : Rep g w u r := by
  cases h with
  | any => exact .any
  | of h => exact h ▸ hr
  | d h => exact .d (hr.asD h)

section
variable {P : Program}

def readRes (tmps : Array Value) : ResultVar → Sem Value
  | .tmp t => pure (tmps.getD t undef)
  | .cell a t => do loadVar t (← asAddr (tmps.getD a undef))

theorem results_eq (fnn : Func) (tmps : Array Value) : results fnn tmps = (do let vs ← fnn.results.mapM (readRes tmps); pure (if h : vs.size = 1 then vs[0] else .tuple vs)) := rfl

theorem asAddr_some (a : Addr) : asAddr (.pointer (some a)) = pure a := rfl

theorem ResL.run {st : St} {g : G} {w : World} {tmps : Array Value} (hw : WOK g w st.H) (he : ∀ i, Rep g w (st.env i) (tmps.getD i undef)) {rs : List ResultVar} {vs : List V} (h : ResL P st rs vs) :
    ∃ l : List Value, (rs.mapM (readRes tmps)).run P w = .ok l w ∧ l.length = vs.length ∧
      ∀ (i : Nat) x v, vs[i]? = some x → l[i]? = some v → Rep g w x v := by
  induction h with
  | nil => exact ⟨[], by simp, rfl, by simp⟩
  | @tmp t v rs vs ht _ ih =>
    obtain ⟨l, h1, h2, h3⟩ := ih
    refine ⟨tmps.getD t undef :: l, by simp only [List.mapM_cons, readRes, Sem.run_bind, Sem.run_pure, Result.andThen_ok, h1], by simp [h2], fun i x u hx hu => ?_⟩
    cases i with
    | zero => simp only [List.getElem?_cons_zero, Option.some.injEq] at hx hu; subst hx; subst hu; exact ht.rep (he t)
    | succ i => exact h3 i x u (by simpa using hx) (by simpa using hu)
  | @cellA a ty id off n c cs rs vs hp hH hc hn ht _ ih =>
    obtain ⟨l, h1, h2, h3⟩ := ih
    have hpr := hp.rep (he a)
    generalize hv : tmps.getD a undef = pv at hpr
    have hle : off + n ≤ c.length ∨ n = 0 := by subst hc; simp at hn; omega
    cases hpr with
    | @ptr _ _ b hb =>
      obtain ⟨b', arr, et, e1, e2, e3, e4, _⟩ := hw.row id c hH
      obtain rfl : b = b' := by rw [hb] at e1; exact Option.some.inj e1
      have hcell : ∀ k, k < n → w.cell? ⟨b, off + k, none⟩ = some (arr.getD (off + k) undef) := fun k hk => by
        rw [cell_of_cells e2]
        have : off + k < arr.size := by omega
        simp [Array.getD, this]
      refine ⟨.agg ((List.range n).map fun k => arr.getD (off + k) undef).toArray :: l, by simp only [List.mapM_cons, readRes, Sem.run_bind, hv, asAddr_some, Sem.run_pure, Result.andThen_ok, run_loadVar_agg ht hcell, h1], by simp [h2], fun i x u hx hu => ?_⟩
      cases i with
      | zero =>
        simp only [List.getElem?_cons_zero, Option.some.injEq] at hx hu; subst hx; subst hu
        refine .agg (by simp [hn]) (fun i y v hy hv => ?_)
        have hi : i < n := by rw [← hn]; exact (List.getElem?_eq_some_iff.1 hy).1
        have hlt : off + i < arr.size := by omega
        have hv' : v = arr[off + i] := by
          simp [hi, Array.getD, hlt] at hv; exact hv.symm
        rw [hv']
        refine e4 (off + i) y _ ?_ (by simp [hlt])
        rw [← hc, List.getElem?_take, if_pos hi, List.getElem?_drop] at hy
        exact hy
      | succ i => exact h3 i x u (by simpa using hx) (by simpa using hu)
  | @cell1 a ty id off c v rs vs hp hH hc ht _ ih =>
    obtain ⟨l, h1, h2, h3⟩ := ih
    have hpr := hp.rep (he a)
    generalize hv : tmps.getD a undef = pv at hpr
    cases hpr with
    | @ptr _ _ b hb =>
      obtain ⟨b', arr, et, e1, e2, e3, e4, _⟩ := hw.row id c hH
      obtain rfl : b = b' := by rw [hb] at e1; exact Option.some.inj e1
      have hlt : off < arr.size := Nat.lt_of_lt_of_le (List.getElem?_eq_some_iff.1 hc).1 e3
      have hcell : w.cell? ⟨b, off, none⟩ = some arr[off] := by rw [cell_of_cells e2]; simp [hlt]
      refine ⟨arr[off] :: l, by simp only [List.mapM_cons, readRes, Sem.run_bind, hv, asAddr_some, Sem.run_pure, Result.andThen_ok, run_loadVar_one ht hcell, h1], by simp [h2], fun i x u hx hu => ?_⟩
      cases i with
      | zero => simp only [List.getElem?_cons_zero, Option.some.injEq] at hx hu; subst hx; subst hu; exact e4 off _ _ hc (by simp [hlt])
      | succ i => exact h3 i x u (by simpa using hx) (by simpa using hu)

theorem results_run {fnn : Func} {st : St} {g : G} {w : World} {tmps : Array Value} (hw : WOK g w st.H) (he : ∀ i, Rep g w (st.env i) (tmps.getD i undef)) {vs : List V} (h : ResL P st fnn.results.toList vs) :
    ∃ r, (results fnn tmps).run P w = .ok r w ∧ Rep g w (resOf vs) r := by
  obtain ⟨l, h1, h2, h3⟩ := h.run hw he
  have hm : (fnn.results.mapM (readRes tmps)).run P w = .ok l.toArray w := by
    rw [Array.mapM_eq_mapM_toList]
    simp only [Sem.run_map, h1, Result.andThen_ok]
  refine ⟨if h : l.toArray.size = 1 then l.toArray[0] else .tuple l.toArray, by simp only [results_eq, Sem.run_bind, hm, Result.andThen_ok, Sem.run_pure], ?_⟩
  match vs, l, h2, h3 with
  | [v], [r], _, h3 => simpa [resOf] using h3 0 v r rfl rfl
  | [], [], _, h3 => exact .tup (by simp) (by simp)
  | v :: v' :: vs, r :: r' :: l, h2, h3 =>
    rw [dif_neg (by simp)]
    exact .tup (by simpa using h2) (fun i x u hx hu => h3 i x u hx (by simpa using hu))

def EndQ (P : Program) (rs : List ResultVar) (R : V → List HE → Prop) : Exit → St → Prop
  | .normal, st | .ret, st => ∃ vs v, ResL P st rs vs ∧ Le (resOf vs) v ∧ R v st.H
  | _, _ => False

theorem envOf_rep {g : G} {w : World} : ∀ {args : List V} {vals : List Value}, args.length = vals.length → (∀ (i : Nat) x v, args[i]? = some x → vals[i]? = some v → Rep g w x v) → ∀ (i : Nat), Rep g w (envOf args i) (vals.getD i undef)
  | [], _, _, _, i => .any
  | a :: args, [], h, _, _ => by simp at h
  | a :: args, v :: vals, h, hr, 0 => by simpa [envOf] using hr 0 a v rfl rfl
  | a :: args, v :: vals, h, hr, i + 1 => by
    have := envOf_rep (args := args) (vals := vals) (by simpa using h) (fun i x u hx hu => hr (i + 1) x u (by simpa using hx) (by simpa using hu)) i
    simpa [envOf] using this

theorem envOf_any : ∀ {args : List V} {i : Nat}, args.length ≤ i → envOf args i = .any
  | [], _, _ => rfl
  | _ :: _, 0, h => by simp at h
  | _ :: args, i + 1, h => by simpa [envOf] using envOf_any (args := args) (i := i) (by simpa using h)

theorem ACall.of_AW {f : FuncId} {fnn : Func} {c : Code} {args : List V} {H : List HE} {R : V → List HE → Prop} (hf : P.funcs[f]? = some fnn) (hb : fnn.body = some c) (hn : args.length ≤ fnn.ntmps)
    (h : ∀ g0 w0, WOK g0 w0 H → AW ⟨P, fnn.ntmps, g0, w0⟩ c (EndQ P fnn.results.toList R) ⟨envOf args, H⟩) : ACall P f args H R := by
  intro g w vals hw hs ha
  refine calls_of_wp hf hb (wp_mono (h g w hw { tmps := vals ++ Array.replicate (fnn.ntmps - vals.size) undef, defers := [] } w ⟨rfl, by simp; omega, g, hw, .refl _ _, fun i => ?_⟩) ?_)
  · by_cases hi : i < args.length
    · have := envOf_rep (args := args) (vals := vals.toList) (by simpa using hs.symm) (fun i x v hx hv => ha i x v hx (by simpa [Array.getElem?_toList] using hv)) i
      have e : (vals ++ Array.replicate (fnn.ntmps - vals.size) undef).getD i undef = vals.toList.getD i undef := by
        simp [Array.getD_eq_getD_getElem?, Array.getElem?_append_left (show i < vals.size by omega)]
      rw [e]; exact this
    · show Rep g w (envOf args i) _
      rw [envOf_any (by omega)]; exact .any
  · rintro e a' w' ⟨st', ⟨h1, h2, g', h3, h4, h5⟩, hq⟩
    have fin : ∀ st' : St, WOK g' w' st'.H → (∀ i, Rep g' w' (st'.env i) (a'.tmps.getD i undef)) → (∃ vs v, ResL P st' fnn.results.toList vs ∧ Le (resOf vs) v ∧ R v st'.H) →
        ∃ v, (results fnn a'.tmps).run P w' = .ok v w' ∧ ∃ rv res g'' H', Ending.returned v = .returned rv ∧ WOK g'' w' H' ∧ Evo g w g'' w' ∧ Rep g'' w' res rv ∧ R res H' := by
      rintro st' h3 h5 ⟨vs, v, hr, hle, hR⟩
      obtain ⟨r, e1, e2⟩ := results_run (fnn := fnn) h3 h5 hr
      exact ⟨r, e1, r, v, g', st'.H, rfl, h3, h4, hle.rep e2, hR⟩
    cases e with
    | normal => exact ⟨h1, fin st' h3 h5 hq⟩
    | ret => exact ⟨h1, fin st' h3 h5 hq⟩
    | exit id => exact hq.elim
    | goto l => exact hq.elim
    | panic c => exact hq.elim
    | outgrown => exact hq.elim

theorem Fn.of_AW {f : FuncId} {fnn : Func} {c : Code} {args : List D} {res : D} (hf : P.funcs[f]? = some fnn) (hb : fnn.body = some c) (hn : args.length ≤ fnn.ntmps)
    (h : ∀ g0 w0, WOK g0 w0 [] → AW ⟨P, fnn.ntmps, g0, w0⟩ c (EndQ P fnn.results.toList fun r _ => r = .d res) ⟨envOf (args.map .d), []⟩) : Fn P f args res :=
  ACall.of_AW hf hb (by simpa using hn) h

theorem EndQ.d {rs : List ResultVar} {st : St} {vs : List V} {x : D} (h : ResL P st rs vs) (hx : (resOf vs).asD = some x) {y : D} (hy : x = y) : ∃ vs v, ResL P st rs vs ∧ Le (resOf vs) v ∧ v = .d y :=
  ⟨vs, .d x, h, .d hx, by rw [hy]⟩

/- A list that is handed out to be grown on. -/
def FnK (P : Program) (f : FuncId) (args : List D) (l : List D) (e : TypeId) (s : Nat) : Prop := ACall P f (args.map .d) [] fun r H' => r = .tk 0 l ∧ H' = [.tok l.length e s]

def EndK (P : Program) (rs : List ResultVar) (l : List D) (e : TypeId) (s : Nat) : Exit → St → Prop
  | .normal, st | .ret, st => ∃ v, ResL P st rs [v] ∧ l.length ≤ 9223372036854775807 ∧ (v = .ex l ∨ ∃ k, v = .tk k l ∧ st.H[k]? = some (.tok l.length e s))
  | _, _ => False

theorem WOK.keepTok {g : G} {w : World} {H : List HE} {k n s : Nat} {e : TypeId} (hw : WOK g w H) (hH : H[k]? = some (.tok n e s)) :
    ∃ g', WOK g' w [.tok n e s] ∧ g'.Pr = g.Pr ∧ g'.X = g.X ∧ g'.τ 0 = g.τ k ∧ (∀ id, g'.σ id = none) := by
  refine ⟨{ σ := fun _ => none, τ := fun i => if i = 0 then g.τ k else none, υ := fun _ _ => False, X := g.X, Pr := g.Pr }, ⟨hw.pr, hw.xs, ?_, ?_, ?_, ?_, ?_, ?_, ?_, hw.kc⟩, rfl, rfl, by simp, fun _ => rfl⟩
  · intro i x b hx hb
    match i, hx with
    | 0, hx =>
      simp only [List.getElem?_cons_zero, Option.some.injEq] at hx; subst hx
      exact hw.blk k _ b hH (by simpa [G.blk] using hb)
    | i + 1, hx => simp at hx
  · intro i i' x x' b hx hx' _ _
    match i, i', hx, hx' with
    | 0, 0, _, _ => rfl
    | i + 1, _, hx, _ => simp at hx
    | 0, i + 1, _, hx => simp at hx
  · intro i c hx
    match i, hx with
    | 0, hx => simp at hx
    | i + 1, hx => simp at hx
  · intro i m e' s' hx
    match i, hx with
    | 0, hx =>
      simp only [List.getElem?_cons_zero, Option.some.injEq, HE.tok.injEq] at hx
      obtain ⟨rfl, rfl, rfl⟩ := hx
      simpa using hw.tok k n e s hH
    | i + 1, hx => simp at hx
  · intro i l e' s' hx
    match i, hx with
    | 0, hx => simp at hx
    | i + 1, hx => simp at hx
  · intro i x hx
    match i, hx with
    | 0, hx => simp at hx
    | i + 1, hx => simp at hx
  · intro i hi
    match i, hi with
    | 0, hi => simp at hi
    | i + 1, _ => simp

theorem FnK.of_AW {f : FuncId} {fnn : Func} {c : Code} {args : List D} {l : List D} {e : TypeId} {s : Nat} (hf : P.funcs[f]? = some fnn) (hb : fnn.body = some c) (hn : args.length ≤ fnn.ntmps)
    (h : ∀ g0 w0, WOK g0 w0 [] → AW ⟨P, fnn.ntmps, g0, w0⟩ c (EndK P fnn.results.toList l e s) ⟨envOf (args.map .d), []⟩) : FnK P f args l e s := by
  intro g w vals hw hs ha
  have hτ0 : ∀ id, g.τ id = none ∧ g.σ id = none := fun id => ⟨(hw.free id (.inr (by simp))).2.1, (hw.free id (.inr (by simp))).1⟩
  refine calls_of_wp hf hb (wp_mono (h g w hw { tmps := vals ++ Array.replicate (fnn.ntmps - vals.size) undef, defers := [] } w ⟨rfl, by simp at hs hn ⊢; omega, g, hw, .refl _ _, fun i => ?_⟩) ?_)
  · by_cases hi : i < (args.map V.d).length
    · have := envOf_rep (args := args.map V.d) (vals := vals.toList) (by simpa using hs.symm) (fun i x v hx hv => ha i x v hx (by simpa [Array.getElem?_toList] using hv)) i
      have e : (vals ++ Array.replicate (fnn.ntmps - vals.size) undef).getD i undef = vals.toList.getD i undef := by
        simp [Array.getD_eq_getD_getElem?, Array.getElem?_append_left (show i < vals.size by omega)]
      rw [e]; exact this
    · show Rep g w (envOf (args.map V.d) i) _
      rw [envOf_any (by omega)]; exact .any
  · rintro e' a' w' ⟨st', ⟨h1, h2, g', h3, h4, h5⟩, hq⟩
    have fin : (∃ v, ResL P st' fnn.results.toList [v] ∧ l.length ≤ 9223372036854775807 ∧ (v = .ex l ∨ ∃ k, v = .tk k l ∧ st'.H[k]? = some (.tok l.length e s))) →
        ∃ v, (results fnn a'.tmps).run P w' = .ok v w' ∧ ∃ rv res g'' H', Ending.returned v = .returned rv ∧ WOK g'' w' H' ∧ Evo g w g'' w' ∧ Rep g'' w' res rv ∧ (res = .tk 0 l ∧ H' = [.tok l.length e s]) := by
      rintro ⟨v, hr, hlen, hv⟩
      obtain ⟨r, e1, e2⟩ := results_run (fnn := fnn) h3 h5 hr
      simp only [resOf] at e2
      -- a state of the heap with the token alone
      have key : ∃ k H2 g2, WOK g2 w' H2 ∧ Evo g' w' g2 w' ∧ H2[k]? = some (.tok l.length e s) ∧ Rep g2 w' (.tk k l) r := by
        rcases hv with rfl | ⟨k, rfl, hk⟩
        · cases e2 with
          | @ex _ a hd =>
            obtain ⟨g2, w1, w2, w3⟩ := h3.addFree.tokSame (id := st'.H.length) (n := l.length) (s := s) (e := e) (a := a) (by simp) hlen
            rw [set_last] at w1
            exact ⟨st'.H.length, _, g2, w1, w2, by simp, .tk (hd.mono w2.pr) w3 (Nat.le_refl _) (fun _ => rfl)⟩
        · exact ⟨k, st'.H, g', h3, .refl _ _, hk, e2⟩
      obtain ⟨k, H2, g2, k1, k2, k3, k4⟩ := key
      obtain ⟨g3, m1, m2, m3, m4, m5⟩ := k1.keepTok k3
      have hev := h4.trans k2
      refine ⟨r, e1, r, .tk 0 l, g3, _, rfl, m1, ?_, ?_, rfl, rfl⟩
      · exact { same := hev.same, size := hev.size, pr := fun b o hp => by rw [m2]; exact hev.pr b o hp, prn := fun b o hp => hev.prn b o (by rw [← m2]; exact hp), x := fun b hb => hev.x b (by rw [← m3]; exact hb), keep := hev.keep,
                σ := fun id b hb => (by rw [(hτ0 id).2] at hb; cases hb), τ := fun id m a cap ht => (by rw [(hτ0 id).1] at ht; cases ht) }
      · cases k4 with
        | tk hd ht hle heq => exact .tk (by rw [m2]; exact hd) (by rw [m4]; exact ht) hle heq
    cases e' with
    | normal => exact ⟨h1, fin hq⟩
    | ret => exact ⟨h1, fin hq⟩
    | exit id => exact hq.elim
    | goto l => exact hq.elim
    | panic c => exact hq.elim
    | outgrown => exact hq.elim

theorem FnK.at {f : FuncId} {args : List D} {l : List D} {e : TypeId} {s : Nat} (h : FnK P f args l e s) {H : List HE} {n : Nat} (hn : H.length = n) :
    ACall P f (args.map .d) H fun r H' => r = .tk n l ∧ H' = H ++ [.tok l.length e s] := by
  subst hn
  intro g w vals hw hs ha
  let g0 : G := { σ := fun _ => none, τ := fun _ => none, υ := fun _ _ => False, X := fun _ => False, Pr := g.Pr }
  have hw0 : WOK g0 w [] := by
    refine ⟨hw.pr, fun b hb => hb.elim, ?_, ?_, ?_, ?_, ?_, ?_, fun _ _ => ⟨rfl, rfl, fun _ h => h⟩, fun x hx => ⟨fun h => h, (hw.kc x hx).2⟩⟩ <;> intros <;> simp_all
  have ha0 : ∀ (i : Nat) x v, (args.map V.d)[i]? = some x → vals[i]? = some v → Rep g0 w x v := by
    intro i x v hx hv
    have := ha i x v hx hv
    simp only [List.getElem?_map, Option.map_eq_some_iff] at hx
    obtain ⟨y, _, rfl⟩ := hx
    cases this with
    | d hd => exact .d hd
  refine (h g0 w vals hw0 hs ha0).mono ?_
  rintro e' w' ⟨rv, r, g', H', rfl, hw', he, hr, rfl, rfl⟩
  have keep : ∀ b, b < w.heap.size → w'.heap[b]? = w.heap[b]? := fun b hb => he.keep b hb (fun h => h)
  have hlast : ∀ (i : Nat) x, (H ++ [HE.tok l.length e s])[i]? = some x → (i < H.length ∧ H[i]? = some x) ∨ (i = H.length ∧ x = .tok l.length e s) := by
    intro i x hx
    by_cases hi : i < H.length
    · rw [List.getElem?_append_left hi] at hx; exact .inl ⟨hi, hx⟩
    · rw [List.getElem?_append_right (by omega)] at hx
      have : i - H.length = 0 := by
        by_cases h0 : i - H.length = 0
        · exact h0
        · rw [List.getElem?_eq_none (by simp; omega)] at hx; cases hx
      rw [this] at hx
      exact .inr ⟨by omega, by simpa using hx.symm⟩
  have hfreeH := hw.free H.length (.inr (Nat.le_refl _))
  let g2 : G := { σ := g.σ, τ := fun i => if i = H.length then g'.τ 0 else g.τ i, υ := g.υ, X := fun b => g.X b ∨ (g'.X b), Pr := g'.Pr }
  have hX' : ∀ b, g'.X b → w.heap.size ≤ b := fun b hb => (he.x b hb).resolve_left (fun h => h)
  have hold : ∀ b o, g'.Pr b o → b < w.heap.size → g.Pr b o := by
    intro b o hp hb
    rcases he.prn b o hp with h1 | h1 | h1
    · exact h1
    · exact h1.elim
    · omega
  have hτne : ∀ i, i ≠ H.length → g2.τ i = g.τ i := fun i hi => by simp [g2, hi]
  have hev : Evo g w g2 w' := {
    same := he.same
    size := he.size
    pr := he.pr
    prn := fun b o hp => by
      rcases he.prn b o hp with h1 | h1 | h1
      · exact .inl h1
      · exact h1.elim
      · exact .inr (.inr h1)
    x := fun b hb => hb.imp (fun h => h) (hX' b)
    keep := fun b hb _ => keep b hb
    σ := fun _ _ h => h
    τ := fun i m a cap h => by
      have hi : i ≠ H.length := fun e => by subst e; rw [hfreeH.2.1] at h; cases h
      exact ⟨m, a, cap, by rw [hτne i hi]; exact h, .inr ⟨rfl, rfl, rfl⟩⟩ }
  have hblk : ∀ (i : Nat) x b, (H ++ [HE.tok l.length e s])[i]? = some x → g2.blk i x b →
      (i < H.length ∧ H[i]? = some x ∧ g.blk i x b ∧ b < w.heap.size) ∨ (i = H.length ∧ g'.blk 0 (.tok l.length e s) b ∧ w.heap.size ≤ b) := by
    intro i x b hx hb
    rcases hlast i x hx with ⟨hi, h1⟩ | ⟨rfl, rfl⟩
    · have : g.blk i x b := by
        cases x with
        | tok m e1 s1 => simp only [G.blk, hτne i (by omega)] at hb ⊢; exact hb
        | row c => exact hb
        | free => exact hb
        | dead => exact hb
        | lst l1 e1 s1 => simp only [G.blk, hτne i (by omega)] at hb ⊢; exact hb
        | ob => exact hb
      exact .inl ⟨hi, h1, this, hw.xs b (hw.blk i x b h1 this)⟩
    · have : g'.blk 0 (.tok l.length e s) b := by simpa [G.blk, g2] using hb
      exact .inr ⟨rfl, this, hX' b (hw'.blk 0 _ b (by simp) this)⟩
  refine ⟨rv, .tk H.length l, g2, _, rfl, ⟨hw'.pr, ?_, ?_, ?_, ?_, ?_, ?_, ?_, ?_, hw.kcE hev⟩, hev, ?_, rfl, rfl⟩
  · rintro b (hb | hb)
    · exact Nat.lt_of_lt_of_le (hw.xs b hb) he.size
    · exact hw'.xs b hb
  · intro i x b hx hb
    rcases hblk i x b hx hb with ⟨_, h1, h2, _⟩ | ⟨_, h1, _⟩
    · exact .inl (hw.blk i x b h1 h2)
    · exact .inr (hw'.blk 0 _ b (by simp) h1)
  · intro i i' x x' b hx hx' hb hb'
    rcases hblk i x b hx hb with ⟨_, h1, h2, h3⟩ | ⟨h1, h2, h3⟩ <;> rcases hblk i' x' b hx' hb' with ⟨_, h4, h5, h6⟩ | ⟨h4, h5, h6⟩
    · exact hw.sep i i' x x' b h1 h4 h2 h5
    · omega
    · omega
    · omega
  · intro i c hx
    rcases hlast i _ hx with ⟨hi, h⟩ | ⟨_, h⟩
    · obtain ⟨b, arr, et, h1, h2, h3, h4, h5⟩ := hw.row i c h
      have hb : b < w.heap.size := hw.xs b (hw.blk i _ b h h1)
      exact ⟨b, arr, et, h1, (keep b hb).trans h2, h3, fun k x v hx hv => (h4 k x v hx hv).mono hev, fun o hp => h5 o (hold b o hp hb)⟩
    · cases h
  · intro i n e1 s1 hx
    rcases hlast i _ hx with ⟨hi, h⟩ | ⟨rfl, h⟩
    · obtain ⟨a, cap, h1, h2, h2', h3⟩ := hw.tok i n e1 s1 h
      refine ⟨a, cap, by rw [hτne i (by omega)]; exact h1, h2, h2', fun hlt => ?_⟩
      obtain ⟨b, arr, e1, e2, e3, e4⟩ := h3 hlt
      have hb : b < w.heap.size := hw.xs _ (hw.blk i _ b h (by simp [G.blk, h1, e1, hlt]))
      exact ⟨b, arr, e1, (keep _ hb).trans e2, e3, fun o hp => e4 o (hold _ o hp hb)⟩
    · injection h with q1 q2 q3
      subst q1; subst q2; subst q3
      have := hw'.tok 0 l.length e1 s1 (by simp)
      simpa [g2] using this
  · intro i l1 e1 s1 hx
    rcases hlast i _ hx with ⟨hi, h⟩ | ⟨rfl, h⟩
    · obtain ⟨a, cap, h1, h2, h2', h3⟩ := hw.lst i l1 e1 s1 h
      refine ⟨a, cap, by rw [hτne i (by omega)]; exact h1, h2, h2', fun hlt => ?_⟩
      obtain ⟨b, arr, e1, e0, e2, e3, e4, e5⟩ := h3 hlt
      have hb : b < w.heap.size := hw.xs _ (hw.blk i _ b h (by simp [G.blk, h1, e1, hlt]))
      exact ⟨b, arr, e1, e0, (keep _ hb).trans e2, e3, fun o hp => e4 o (hold _ o hp hb), fun k x v hx hv => (e5 k x v hx hv).mono hev.pr⟩
    · cases h
  · intro i x hx
    rcases hlast i _ hx with ⟨hi, h⟩ | ⟨_, h⟩
    · obtain ⟨b, h1, h2, h3, h4⟩ := hw.ob i x h
      have hb : b < w.heap.size := hw.xs b (hw.blk i _ b h (.inl h1))
      have hbu : ∀ b', g.υ i b' → b' < w.heap.size := fun b' hu => hw.xs b' (hw.blk i _ b' h (.inr hu))
      exact ⟨b, h1, x.st hev.w (hτne i (by omega)) rfl (keep b hb) (fun b' hu => keep b' (hbu b' hu)) h2, fun o hp => h3 o (hold b o hp hb), fun b' o hu hp => h4 b' o hu (hold b' o hp (hbu b' hu))⟩
    · cases h
  · intro i hi
    have : i ≠ H.length ∧ (H[i]? = some .free ∨ H.length ≤ i) := by
      rcases hi with hi | hi
      · rcases hlast i _ hi with ⟨h1, h2⟩ | ⟨_, h⟩
        · exact ⟨by omega, .inl h2⟩
        · cases h
      · simp at hi; exact ⟨by omega, .inr (by omega)⟩
    rw [hτne i this.1]
    exact hw.free i this.2
  · cases hr with
    | tk hd ht hle heq => exact .tk hd (by simpa [g2] using ht) hle heq

/- Loops, and ways that meet: the slots that are named, no more. -/
def lookV : List (Nat × V) → Nat → V → V
  | [], _, e => e
  | (j, v) :: r, i, e => cond (Nat.beq i j) v (lookV r i e)

def inB : List Nat → Nat → Bool
  | [], _ => false
  | j :: r, i => cond (Nat.beq i j) true (inB r i)

def head (keep : List Nat) (E : Nat → V) (m : List (Nat × V)) : Nat → V := fun i => lookV m i (cond (inB keep i) (E i) .any)

def LeL (E : Nat → V) : List (Nat × V) → Prop
  | [] => True
  | (i, v) :: r => Le (E i) v ∧ LeL E r
def KeepL (E E' : Nat → V) : List Nat → Prop
  | [] => True
  | i :: r => E' i = E i ∧ KeepL E E' r

theorem LeL.look {g : G} {w : World} {E : Nat → V} {i : Nat} {e : V} {r : Value} (hr : Rep g w (E i) r) (he : Rep g w e r) : ∀ {m : List (Nat × V)}, LeL E m → Rep g w (lookV m i e) r
  | [], _ => he
  | (j, v) :: m, h => by
    by_cases hij : Nat.beq i j = true
    · have : i = j := Nat.eq_of_beq_eq_true hij
      subst this
      simp only [lookV, hij, cond_true]
      exact h.1.rep hr
    · have : Nat.beq i j = false := by rw [← Bool.not_eq_true]; exact hij
      simp only [lookV, this, cond_false]
      exact LeL.look hr he h.2

theorem KeepL.mem {E E' : Nat → V} {i : Nat} : ∀ {k : List Nat}, KeepL E E' k → inB k i = true → E' i = E i
  | [], _, h => by simp [inB] at h
  | j :: k, h, hi => by
    by_cases hij : Nat.beq i j = true
    · have : i = j := Nat.eq_of_beq_eq_true hij
      subst this; exact h.1
    · have hf : Nat.beq i j = false := by rw [← Bool.not_eq_true]; exact hij
      simp only [inB, hf, cond_false] at hi
      exact KeepL.mem h.2 hi

theorem Sim.head {F : FC} {st : St} {keep : List Nat} {E : Nat → V} {m : List (Nat × V)} {H : List HE} {a : Act} {w : World} (h : Sim F st a w) (hm : LeL st.env m) (hk : KeepL E st.env keep) (hH : st.H = H) :
    Sim F ⟨Ab.head keep E m, H⟩ a w := by
  obtain ⟨h1, h2, g, h3, h4, h5⟩ := h
  subst hH
  refine ⟨h1, h2, g, h3, h4, fun i => ?_⟩
  refine LeL.look (E := st.env) (h5 i) ?_ hm
  cases hb : inB keep i with
  | false => exact .any
  | true => simp only [cond_true]; rw [← KeepL.mem hk hb]; exact h5 i

theorem KeepL.refl (E : Nat → V) : ∀ (k : List Nat), KeepL E E k
  | [] => trivial
  | _ :: k => ⟨rfl, KeepL.refl E k⟩

variable {F : FC} {Q : Exit → St → Prop}

/-- A loop whose heap stands as it stood. -/
theorem AW.loopE {α : Type} {c : Code} {E : Nat → V} {H : List HE} (I : α → Prop) (keep : List Nat) (m : α → List (Nat × V)) (μ : α → Nat) (x₀ : α) (h₀ : I x₀) (enter : LeL E (m x₀))
    (round : ∀ x, I x → AW F c (thenQ (fun s => ∃ x', I x' ∧ μ x' < μ x ∧ LeL s.env (m x') ∧ KeepL E s.env keep ∧ s.H = H) Q) ⟨head keep E (m x), H⟩) : AW F (.loop c) Q ⟨E, H⟩ :=
  AW.loop I (fun x => ⟨head keep E (m x), H⟩) μ x₀ h₀ (fun _ _ hs => hs.head enter (KeepL.refl E keep) rfl)
    (fun x hx => (round x hx).mono fun e s hq => by
      cases e with
      | normal =>
        obtain ⟨x', h1, h2, h3, h4, h5⟩ := hq
        exact ⟨x', h1, h2, fun a w hs => hs.head h3 h4 h5⟩
      | _ => exact hq)

/-- Ways that meet. -/
theorem AW.cut {α : Type} {x y : Code} {E : Nat → V} {H : List HE} (I : α → Prop) (keep : List Nat) (m : α → List (Nat × V)) (K : α → List HE)
    (h1 : AW F x (thenQ (fun s => ∃ z, I z ∧ LeL s.env (m z) ∧ KeepL E s.env keep ∧ s.H = K z) Q) ⟨E, H⟩) (h2 : ∀ z, I z → AW F y Q ⟨head keep E (m z), K z⟩) : AW F (.seq x y) Q ⟨E, H⟩ :=
  AW.seq (h1.mono fun e s hq => by
    cases e with
    | normal =>
      obtain ⟨z, k1, k2, k3, k4⟩ := hq
      exact fun a w hs => h2 z k1 a w (hs.head k2 k3 k4)
    | _ => exact hq)

/-- A slice without room behind it is taken for a list that grows. -/
theorem AW.tokenize {c : Code} {E : Nat → V} {H : List HE} (t : Nat) (e : TypeId) (s : Nat) {l : List D} {n : Nat} (ht : E t = .ex l) (hn : H.length = n) (hl : l.length ≤ 9223372036854775807)
    (h : AW F c Q ⟨upd E t (.tk n l), H ++ [.tok l.length e s]⟩) : AW F c Q ⟨E, H⟩ := by
  subst hn
  rintro a w ⟨h1, h2, g, h3, h4, h5⟩
  have hr := h5 t
  simp only [ht] at hr
  generalize hv : a.tmps.getD t undef = v at hr
  cases hr with
  | @ex _ ad hd =>
    obtain ⟨g2, w1, w2, w3⟩ := h3.addFree.tokSame (id := H.length) (n := l.length) (s := s) (e := e) (a := ad) (by simp) hl
    rw [set_last] at w1
    refine h a w ⟨h1, h2, g2, w1, h4.trans w2, fun i => ?_⟩
    by_cases hi : i = t
    · subst hi
      simp only [upd_same, hv]
      exact .tk (hd.mono w2.pr) w3 (Nat.le_refl _) (fun _ => rfl)
    · simp only [upd_ne _ _ hi]; exact (h5 i).mono w2

end
end Go.Proofs.YtindppnanjcoaaaGreatDoor.Ab
