/- Going through maps in whatever order, and through texts: what it comes to. Conditions: none. -/
import Derived.Test.YtkfffaoopcnaoaaAb27
namespace Go.Proofs.Ytkfffaoopcnaoaa.Ab
open Go

/-! ### the plain language -/
/-! ### iterators over maps -/
def itO (mid n : Nat) (S : List Nat) : OB where
  φ := fun g w _ r => ∃ bm, g.σ mid = some bm ∧ w.heap[r]? = some (.mapIter (some bm) n S.toArray n)
  st := fun {g g' w w' _ r} he _ _ hb _ h => by
    obtain ⟨bm, h1, h2⟩ := h
    exact ⟨bm, he.σ _ _ h1, hb.trans h2⟩
  fr := false
  fre := fun h => by cases h
theorem obR_it {T : List Nat} {mid mid' n : Nat} {S : List Nat} (h : T[mid']? = some mid) : ObR T (itO mid n S) (itO mid' n S) := fun {g w i j b} _ hφ => by
  obtain ⟨bm, h1, h2⟩ := hφ
  exact ⟨bm, by simp [G.ren, h, h1], h2⟩

theorem WOK.drew {g : G} {w : World} {H : List HE} (h3 : WOK g w H) : WOK g w.drew H ∧ Evo g w g w.drew := by
  have hev : Evo g w g w.drew := ⟨⟨rfl, rfl, rfl⟩, Nat.le_refl _, fun _ _ h => ⟨h, rfl⟩, fun _ _ h => .inl h, fun _ h => .inl h, fun _ _ _ => rfl, fun _ _ h => h, fun _ m a cap h => ⟨m, a, cap, h, .inr ⟨rfl, rfl, rfl⟩⟩⟩
  refine ⟨⟨h3.pr, h3.xs, h3.blk, h3.sep, fun id c hc => ?_, h3.tok, fun id l e s hc => ?_, fun id x hc => ?_, h3.free, h3.kcE hev⟩, hev⟩
  · obtain ⟨b, arr, et, e1, e2, e3, e4, e5⟩ := h3.row id c hc
    exact ⟨b, arr, et, e1, e2, e3, fun k x v hx hv => (e4 k x v hx hv).mono hev, e5⟩
  · obtain ⟨a, cap, k1, k2, k3, k4⟩ := h3.lst id l e s hc
    refine ⟨a, cap, k1, k2, k3, fun hlt => ?_⟩
    obtain ⟨b, arr, q1, q0, q2, q3, q4, q5⟩ := k4 hlt
    exact ⟨b, arr, q1, q0, q2, q3, q4, fun k x v hx hv => (q5 k x v hx hv).mono hev.pr⟩
  · obtain ⟨b, q1, q2, q3, q4⟩ := h3.ob id x hc
    exact ⟨b, q1, x.st hev.w rfl rfl rfl (fun _ _ => rfl) q2, q3, q4⟩

section
variable {P : Program} {ρ : Operand → V} {H : List HE} {ty : TypeId}
/-- An operation that ends in one of several ways. -/
def OpVN (P : Program) (o : Op) (ty : TypeId) (ρ : Operand → V) (H : List HE) (R : V → List HE → Prop) : Prop :=
  ∀ g w r pos after guard dst, WOK g w H → (∀ x, x ∈ o.operands → Rep g w (ρ x) (r x)) →
    OpRuns P ⟨dst, o, ty, pos, after, guard⟩ r w fun rv w' => ∃ g' v H', R v H' ∧ WOK g' w' H' ∧ Evo g w g' w' ∧ Rep g' w' v rv
theorem AL.stepN {F : FC} {K : St → Prop} {st : St} {ops : Array Oper} {dst : Option Nat} {o : Op} {ty : TypeId} {pos : String} {after : Array Edge} {rest : List Oper} {R : V → List HE → Prop}
    (hd : dlt dst F.n = true) (h : OpVN F.P o ty (Ab.ρ st.env) st.H R) (k : ∀ v H', R v H' → AL F ops K rest ⟨updO st.env dst v, H'⟩) : AL F ops K (⟨dst, o, ty, pos, after, none⟩ :: rest) st := by
  have hd := dlt_lt hd
  rintro a w ⟨h1, h2, g, h3, h4, h5⟩
  simp only [wpL, Region.wanted, if_true]
  refine OpRuns.wp (h g w a.eval pos after none dst h3 (fun x _ => Rep.eval h5 x)) ?_
  rintro rv w' ⟨g', v, H', hR, hw', he, hr⟩
  exact k v H' hR _ _ (Sim.put h1 h2 h4 h5 hd hw' he hr)
end

/-- What is left of a list, by places. -/
def left {α : Type} (l : List α) (S : List Nat) : List Nat → List α := fun I => I.filterMap fun i => if i ∈ S then none else l[i]?
theorem left_take {α : Type} {l : List α} {S : List Nat} {i : Nat} {e : α} (he : l[i]? = some e) (hi : i ∉ S) : ∀ {I : List Nat}, I.Nodup → i ∈ I → (e :: left l (S ++ [i]) I).Perm (left l S I)
  | [], _, h => by cases h
  | a :: I, hn, h => by
    rw [List.nodup_cons] at hn
    unfold left
    by_cases hai : a = i
    · subst hai
      rw [List.filterMap_cons, List.filterMap_cons, if_pos (by simp), if_neg hi, he]
      refine List.Perm.cons _ ?_
      have : ∀ J : List Nat, a ∉ J → List.filterMap (fun k => if k ∈ S ++ [a] then none else l[k]?) J = List.filterMap (fun k => if k ∈ S then none else l[k]?) J := by
        intro J
        induction J with
        | nil => intro _; rfl
        | cons k J ih =>
          intro hk
          simp only [List.mem_cons, not_or] at hk
          have hiff : (k ∈ S ++ [a]) ↔ k ∈ S := by simp [Ne.symm hk.1]
          rw [List.filterMap_cons, List.filterMap_cons, ih hk.2]
          simp only [hiff]
      rw [this I hn.1]
    · have hm : i ∈ I := by rcases List.mem_cons.1 h with h | h; exact absurd h.symm hai; exact h
      have ih := left_take he hi hn.2 hm
      unfold left at ih
      rw [List.filterMap_cons, List.filterMap_cons]
      by_cases haS : a ∈ S
      · rw [if_pos (by simp [haS]), if_pos haS]; exact ih
      · rw [if_neg (by simp [haS, hai]), if_neg haS]
        cases hla : l[a]? with
        | none => exact ih
        | some x => exact (List.Perm.swap _ _ _).trans (ih.cons _)
/-! ### texts -/
section
variable {P : Program} {ρ : Operand → V} {H : List HE} {ty : TypeId}
end
end Go.Proofs.Ytkfffaoopcnaoaa.Ab
