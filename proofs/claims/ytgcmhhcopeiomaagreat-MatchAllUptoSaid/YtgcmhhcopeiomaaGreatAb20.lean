/- Calls over a heap, and lists whose first element comes by 'append'. Conditions: none. -/
import Derived.Test.YtgcmhhcopeiomaaGreatAb19
namespace Go.Proofs.YtgcmhhcopeiomaaGreat.Ab
open Go

/-- The end of a function: its results and its heap, the entries numbered anew. -/
def EndG (P : Program) (rs : List ResultVar) (n0 : Nat) (vs0 : List V) (H1 : List HE) : Exit → St → Prop
  | .normal, st | .ret, st => ∃ vs S, ResL P st rs vs ∧ idPre n0 S = true ∧ distinct S = true ∧ LeRC S vs vs0 ∧ LeRH S st.H S H1
  | _, _ => False

theorem resOf_tup {vs : List V} (h : vs.length ≠ 1) : resOf vs = .tup vs := by
  match vs, h with
  | [], _ => rfl
  | [_], h => exact absurd rfl h
  | _ :: _ :: _, _ => rfl
theorem resOf_ren {g : G} {w : World} {S : List Nat} {vs vs0 : List V} (h : LeRC S vs vs0) {r : Value} (hr : Rep g w (resOf vs) r) : Rep (g.ren S) w (resOf vs0) r := by
  obtain ⟨hl, hg⟩ := h.get
  by_cases h1 : vs.length = 1
  · obtain ⟨v, rfl⟩ := List.length_eq_one_iff.1 h1
    obtain ⟨u, rfl⟩ := List.length_eq_one_iff.1 (hl ▸ h1)
    obtain ⟨y, hy, hle⟩ := hg 0 u rfl
    simp at hy; subst hy
    exact hle.rep hr
  · rw [resOf_tup h1] at hr
    rw [resOf_tup (by omega)]
    cases hr with
    | tup h1 h2 =>
      refine .tup (by omega) (fun i x v hx hv => ?_)
      obtain ⟨y, hy, hle⟩ := hg i x hx
      exact hle.rep (h2 i y v hy hv)

theorem ACall.of_AWG {P : Program} {f : FuncId} {fnn : Func} {c : Code} {args : List V} {H H1 : List HE} {vs0 : List V} (hf : P.funcs[f]? = some fnn) (hb : fnn.body = some c) (hn : args.length ≤ fnn.ntmps)
    (h : ∀ g0 w0, WOK g0 w0 H → AW ⟨P, fnn.ntmps, g0, w0⟩ c (EndG P fnn.results.toList H.length vs0 H1) ⟨envOf args, H⟩) : ACall P f args H fun r H' => r = resOf vs0 ∧ H' = H1 := by
  intro g w vals hw hs ha
  refine calls_of_wp hf hb (wp_mono (h g w hw { tmps := vals ++ Array.replicate (fnn.ntmps - vals.size) undef, defers := [] } w ⟨rfl, by simp; omega, g, hw, .refl _ _, fun i => ?_⟩) ?_)
  · by_cases hi : i < args.length
    · have := envOf_rep (args := args) (vals := vals.toList) (by simpa using hs.symm) (fun i x v hx hv => ha i x v hx (by simpa [Array.getElem?_toList] using hv)) i
      have e : (vals ++ Array.replicate (fnn.ntmps - vals.size) undef).getD i undef = vals.toList.getD i undef := by
        simp [Array.getD_eq_getD_getElem?, Array.getElem?_append_left (show i < vals.size by omega)]
      rw [e]; exact this
    · show Rep g w (envOf args i) _
      rw [envOf_any (by omega)]; exact .any
  · rintro e a' w' ⟨st', ⟨h1, h2, g', h3, h4, h5⟩, hq⟩
    have fin : (∃ vs S, ResL P st' fnn.results.toList vs ∧ idPre H.length S = true ∧ distinct S = true ∧ LeRC S vs vs0 ∧ LeRH S st'.H S H1) →
        ∃ v, (results fnn a'.tmps).run P w' = .ok v w' ∧ ∃ rv res g'' H', Ending.returned v = .returned rv ∧ WOK g'' w' H' ∧ Evo g w g'' w' ∧ Rep g'' w' res rv ∧ (res = resOf vs0 ∧ H' = H1) := by
      rintro ⟨vs, S, hr, k1, k2, k3, k4⟩
      obtain ⟨r, e1, e2⟩ := results_run (fnn := fnn) h3 h5 hr
      refine ⟨r, e1, r, _, g'.ren S, _, rfl, h3.ren k4 k2, ?_, resOf_ren k3 e2, rfl, rfl⟩
      refine ⟨h4.same, h4.size, h4.pr, h4.prn, h4.x, h4.keep, fun id b hb => ?_, fun id m a cap ht => ?_⟩
      · have hlt : id < H.length := by
          rcases Nat.lt_or_ge id H.length with h | h
          · exact h
          · rw [(hw.free id (.inr h)).1] at hb; cases hb
        simp [G.ren, idPre_get k1 hlt, h4.σ id b hb]
      · have hlt : id < H.length := by
          rcases Nat.lt_or_ge id H.length with h | h
          · exact h
          · rw [(hw.free id (.inr h)).2.1] at ht; cases ht
        simpa [G.ren, idPre_get k1 hlt] using h4.τ id m a cap ht
    cases e with
    | normal => exact ⟨h1, fin hq⟩
    | ret => exact ⟨h1, fin hq⟩
    | exit id => exact hq.elim
    | goto l => exact hq.elim
    | panic c => exact hq.elim
    | outgrown => exact hq.elim

/-- The entries that a call is handed. -/
inductive InH (H : List HE) (p : Nat → Nat) : List Nat → List HE → Prop
  | nil : InH H p [] []
  | cons {id : Nat} {e : HE} {ids : List Nat} {H0 : List HE} : H[id]? = some (e.rn p) → InH H p ids H0 → InH H p (id :: ids) (e :: H0)
theorem InH.get {H : List HE} {p : Nat → Nat} {ids : List Nat} {H0 : List HE} (h : InH H p ids H0) : ids.length = H0.length ∧ ∀ (i : Nat) e, H0[i]? = some e → ∃ id, ids[i]? = some id ∧ H[id]? = some (e.rn p) := by
  induction h with
  | nil => simp
  | cons h1 _ ih =>
    refine ⟨by simp [ih.1], fun i e he => ?_⟩
    cases i with
    | zero => simp only [List.getElem?_cons_zero, Option.some.injEq] at he; subst he; exact ⟨_, rfl, h1⟩
    | succ i => exact ih.2 i e (by simpa using he)

section
variable {P : Program} {ρ : Operand → V} {H : List HE} {ty : TypeId}
theorem op_callF {fop : Operand} {f : FuncId} {args : Array Operand} {ts : Array TypeId} {args0 vs caps : List V} {H0 H1 H' : List HE} {r0 v : V} (ids : List Nat) (hc : ∀ (a : Array Value) (w : World), (callFunc f a).run P w = .ok (.enter f a) w)
    (hf : Is (ρ fop) (.fn (.func f) caps)) (ha : ArgsV ρ args.toList vs) (h : ACall P f args0 H0 fun r H' => r = r0 ∧ H' = H1) (hargs : vs ++ caps = args0.map (V.rn (glob ids H.length))) (hin : InH H (glob ids H.length) ids H0) (hd : distinct ids = true)
    (hs0 : H0.all HE.simple = true) (ha0 : args0.all V.simple = true) (hr0 : r0.simple = true) (hH1 : H1.all HE.simple = true) (hkl : Nat.ble ids.length H1.length = true) (hv : r0.rn (glob ids H.length) = v) (hm : mergeH H ids H1 = H') :
    OpV P (.call ⟨.value fop, args, ts⟩) ty ρ H v H' := by
  subst hv; subst hm
  refine op_call hc hf ha ?_
  rw [hargs]
  refine (h.frame ids hin.get.1 hd hin.get.2 hs0 ha0 (fun r H' ⟨h1, h2⟩ => by subst h1; subst h2; exact ⟨hr0, hH1, Nat.le_of_ble_eq_true hkl⟩)).mono ?_
  rintro r H' ⟨r0', H0', ⟨rfl, rfl⟩, h3, h4⟩
  exact ⟨h3, h4⟩

end
end Go.Proofs.YtgcmhhcopeiomaaGreat.Ab
