/- Plain laws, joined. Conditions: none. -/
import Derived.Test.YtkdefjliknpliaaGreatDoorAb46
import Derived.ArgAppend
namespace Go.Proofs.YtkdefjliknpliaaGreatDoor.Ab
section
/- Going through a map of growing lists, each of which is written. Conditions: none. -/
open Go

/-! ### the plain language -/
section
variable {κ α : Type} [DecidableEq κ]
end

section
variable {P : Program} {ρ : Operand → V} {H : List HE} {ty : TypeId} {κ α : Type} [DecidableEq κ] {fk : κ → D} {f : α → D} {e : TypeId} {m : List (κ × List α)} {L : List (κ × Nat × Nat)}
end

end
section
/- Containers of lists where ways meet; a list that is taken from in front. Conditions: none. -/
open Go

theorem RowV.ren {g : G} {w : World} {S : List Nat} {i j b : Nat} {e : TypeId} {l : List D} {v : Hd} (hS : S[i]? = some j) (h : RowV g w j b e (.own l) v) : RowV (g.ren S) w i b e (.own l) v := by
  obtain ⟨h1, h2, h3, h4⟩ := h
  refine ⟨h1, h2, h3, fun hc => ?_⟩
  obtain ⟨br, arr, k1, k2, k3⟩ := h4 hc
  exact ⟨br, arr, k1, ⟨j, hS, k2⟩, k3⟩
theorem obR_cO {S : List Nat} {C : Cont} {e : TypeId} {R : List RowD} (hC : ∀ {g : G} {w : World} {i j b : Nat} {Vs : List Hd}, S[i]? = some j → C.C g w j b Vs → C.C (g.ren S) w i b Vs) (hR : ∀ r ∈ R, ∃ l, r = .own l) : ObR S (cO C e R) (cO C e R) := fun {g w i j b} hS hφ => by
  obtain ⟨Vs, h⟩ := hφ
  refine ⟨Vs, fun hu => ?_, hC hS h.c, h.len, fun k r v hr hv => ?_, h.dis⟩
  · obtain ⟨j', h1, h2⟩ := hu
    rw [hS] at h1; injection h1 with h1; subst h1
    exact h.nob h2
  · obtain ⟨l, rfl⟩ := hR r (List.mem_of_getElem? hr)
    exact (h.row k _ v hr hv).ren hS
theorem obR_rs {S : List Nat} {α : Type} {f : α → D} {e eo : TypeId} {m : List (List α)} : ObR S (cO (slC eo 1 rsL) e (rsR f m none)) (cO (slC eo 1 rsL) e (rsR f m none)) :=
  obR_cO (C := slC eo 1 rsL) (fun {g w i j b Vs} hS ⟨cap, arr, h1, h2⟩ => ⟨cap, arr, by simp only [G.ren, hS, Option.bind_some]; exact h1, h2⟩) (fun r hr => by
    simp only [rsR] at hr
    obtain ⟨q, _, rfl⟩ := List.mem_map.1 hr
    exact ⟨_, rfl⟩)
theorem LeRH.rs {S T : List Nat} {H K : List HE} {i : Nat} {α : Type} {f : α → D} {e eo : TypeId} {m : List (List α)} (h : H[i]? = some (rsE f e eo m none)) (hr : LeRH S H T K) : LeRH S H (i :: T) (rsE f e eo m none :: K) := by
  unfold rsE at h ⊢
  by_cases hm : m = []
  · rw [if_pos hm] at h ⊢; exact .lst h hr
  · rw [if_neg hm] at h ⊢; exact .ob h obR_rs hr
/-! ### the plain language -/
section
variable {κ α : Type} [DecidableEq κ] {m : List (κ × List α)} {k k' : κ} {l : List α}
end

section
variable {P : Program} {ρ : Operand → V} {H : List HE} {ty : TypeId}
/-! ### a list that is taken from in front -/
section
variable {α : Type} {f : α → D} {e : TypeId} {q : List α}
end
end
end
section
/- A list that is taken from in front: pieces and what is put behind. Conditions: none. -/
open Go

section
variable {H : List HE} {e : TypeId} {q q' : List D}
end

section
variable {P : Program} {ρ : Operand → V} {H : List HE} {ty : TypeId} {α : Type} {f : α → D} {e : TypeId} {q r : List α}
end
end
section
/- A list that is told out and is one of its own. Conditions: none. -/
open Go

section
variable {P : Program} {ρ : Operand → V} {H : List HE} {ty : TypeId}
end
end
end Go.Proofs.YtkdefjliknpliaaGreatDoor.Ab
