/- Lists of lists in cells of rows are given up to be data. Conditions: none. -/
import Derived.Test.YthjinjinnklkgaaAb30
import Derived.Test.YthjinjinnklkgaaAb21
namespace Go.Proofs.Ythjinjinnklkgaa.Ab
open Go

section
variable {H : List HE} {α : Type} {f : α → D} {e eo : TypeId} {N : Nat} {M : List (Bool × List α)}
theorem AW.freezeNlC {F : FC} {Q : Exit → St → Prop} {c : Code} {E : Nat → V} {cs : List V} (id : Nat) (ts : List Nat) (rid k : Nat) (hH : H[id]? = some (.ob (nlO e eo N (nlD f M)))) (h1 : ∀ x, (f x).cells = [f x]) (hE : SameE E (.hs id 0 N 1) ts)
    (hR : H[rid]? = some (.row cs)) (hk : cs[k]? = some (.hs id 0 N 1)) (h : AW F c Q ⟨setE E ts (.d (.sl ((M.map Prod.snd).map (esl f)))), (H.set id .dead).set rid (.row (cs.set k (.d (.sl ((M.map Prod.snd).map (esl f))))))⟩) : AW F c Q ⟨E, H⟩ := by
  rw [nl_snd] at h
  rintro a w ⟨h1', h2, g, h3, h4, h5⟩
  obtain ⟨g', w1, w2, w4, w3⟩ := h3.freezeNl hH h1
  have hne : rid ≠ id := fun e => by subst e; rw [hH] at hR; cases hR
  have key := w1.recell (id := rid) (c := cs) (d := cs.set k (.d (.sl (M.map fun m => esl f m.2)))) (by rw [List.getElem?_set_ne (Ne.symm hne)]; exact hR) (by simp) (fun i x y r hx hy hr => by
    rw [List.getElem?_set] at hy
    split at hy
    · rename_i hki
      subst hki
      rw [hk] at hx; injection hx with hx; subst hx
      split at hy
      · injection hy with hy; subst hy
        refine w3 r ?_
        cases hr with
        | hs p1 p2 => exact .hs (by rw [← w4]; exact p1) p2
      · cases hy
    · rw [hx] at hy; injection hy with hy; subst hy; exact hr)
  exact h a w ⟨h1', h2, g', key, h4.trans w2, fun i => setE_rep2 (h5 i) w2 w3 hE⟩
end
end Go.Proofs.Ythjinjinnklkgaa.Ab
