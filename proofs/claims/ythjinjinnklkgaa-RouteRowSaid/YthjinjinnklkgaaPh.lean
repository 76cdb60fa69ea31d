/- Chapter 56: the law RouteRow in plain Lean. Conditions: none. -/
import Derived.Test.YthjinjinnklkgaaPg
import Derived.Test.YthjinjinnklkgaaOk
set_option maxRecDepth 100000
namespace Go.Proofs.Ythjinjinnklkgaa.Ab
open Go

theorem sameRefl {n : Nat} {a : List Int} (ha : a.length ≤ ML) (hn : ML < n) : m_ref56_Same n a a = some true := by
  unfold m_ref56_Same
  have h1 : iter n (fun s => m_ref56_Same_L1 n a a s) (0 : Int) = some (if anyN a.length (fun _ => false) = true then .inl false else .inr ()) := by
    refine iter_any (ρ := Bool ⊕ Unit) a.length n _ _ _ (fun j hj => ?_) ?_ (by omega)
    · unfold m_ref56_Same_L1
      simp only [show ((j : Int) < (a.length : Int)) from by omega, decide_true, if_true, ix_get (0 : Int) hj, Option.bind_some, wadd1 hj ha]
      simp
    · simp [m_ref56_Same_L1]
  rw [h1, anyN_f.2 (fun _ _ => rfl)]
  simp
theorem lendersId {n : Nat} {l : List SLender} (hl : l.length ≤ 13) (hn : ML < n) : m_law56_lenders n l = some l := by
  unfold m_law56_lenders
  have hit := (iter_foldN (f := fun s : List SLender × Int => m_law56_lenders_L1 n l s.1 s.2) (ρ := List SLender) (fun j s => s.length = j) (fun j s => (s, (j : Int))) (fun j s => s ++ [l.getD j default]) (fun s => s) l.length l.length 0 n [] (([] : List SLender), (0 : Int)) (by omega) ?_ (by intro j s _ h; simp [h]) ?_ (by simp only [ML] at hn; omega) rfl rfl).1
  · rw [hit]
    simp only [Option.bind_some]
    rw [foldN_append, List.nil_append, range_getD l default (fun x => x)]; simp
  · rintro j s hj hlen
    unfold m_law56_lenders_L1
    simp only [show ((j : Int) < (l.length : Int)) from by omega, decide_true, if_true, ix_get (default : SLender) hj, Option.bind_some, wadd1 hj (show l.length ≤ ML by simp only [ML]; omega)]
    generalize l.getD j default = x
    have e : ∀ c : SLender, app 40 s [c] = some (s ++ [c]) := fun c => app_one (by omega) (by omega)
    rw [e]; rfl
  · intro s _
    simp [m_law56_lenders_L1]
theorem rem3 (j : Nat) : rem (j : Int) (3 : Int) = some ((j % 3 : Nat) : Int) := by
  unfold rem
  rw [if_neg (by decide), rem64 (by omega)]; rfl
def triedG (l : List SLender) (j : Nat) (s : List (List UInt8)) : List (List UInt8) ⊕ Unit :=
  if decide (50 < ((l.getD j default).fLibrary.length : Int)) = true then .inr () else .inl (if j % 3 = 1 then s ++ [(l.getD j default).fLibrary] else s)
theorem triedLoop {n : Nat} {l : List SLender} (hl : l.length ≤ 13) (hn : ML < n) :
    iter n (fun s => m_law56_RouteRow_L1 n l s.1 s.2) (([] : List (List UInt8)), (0 : Int)) = some (Sum.elim (fun s => .inr s) (fun _ => .inl true) (foldE (triedG l) 0 l.length [])) := by
  refine iter_foldE (ρ := Bool ⊕ List (List UInt8)) (fun j (s : List (List UInt8)) => s.length ≤ j) (fun j s => (s, (j : Int))) (triedG l) (fun s => .inr s) (fun _ => .inl true) l.length l.length 0 n [] _ (by omega) ?_ ?_ ?_ (by simp only [ML] at hn; omega) rfl (by simp)
  · rintro j s hj hlen
    unfold m_law56_RouteRow_L1 triedG
    simp only [show ((j : Int) < (l.length : Int)) from by omega, decide_true, if_true, ix_get (default : SLender) hj, Option.bind_some, wadd1 hj (show l.length ≤ ML by simp only [ML]; omega), rem3]
    generalize l.getD j default = x
    have e : ∀ c : List UInt8, app 16 s [c] = some (s ++ [c]) := fun c => app_one (by omega) (by omega)
    rw [e]
    have h3 : decide (((j % 3 : Nat) : Int) = 1) = decide (j % 3 = 1) := by
      by_cases h : j % 3 = 1
      · rw [decide_eq_true h, decide_eq_true (by omega)]
      · rw [decide_eq_false h, decide_eq_false (by omega)]
    rw [h3]
    by_cases q1 : (50 : Int) < x.fLibrary.length
    · simp [q1]
    · by_cases q2 : j % 3 = 1
      · simp [q1, q2]
      · simp [q1, q2]
  · rintro j s s' hj hlen hg
    unfold triedG at hg
    split at hg
    · cases hg
    · injection hg with hg; subst hg
      split
      · simp; omega
      · omega
  · intro s _
    simp [m_law56_RouteRow_L1]
theorem tried_all {l : List SLender} {s : List (List UInt8)} (h : foldE (triedG l) 0 l.length [] = .inl s) : s.length ≤ l.length ∧ ∀ i, i < l.length → i % 3 = 1 → (l.getD i default).fLibrary ∈ s := by
  have := foldE_inv (fun j (s : List (List UInt8)) => s.length ≤ j ∧ ∀ i, i < j → i % 3 = 1 → (l.getD i default).fLibrary ∈ s) l.length 0 [] s (fun i s s' _ _ hI hg => by
    unfold triedG at hg
    split at hg
    · cases hg
    · injection hg with hg; subst hg
      split
      · refine ⟨by simp; omega, fun k hk h3 => ?_⟩
        by_cases hki : k = i
        · subst hki; simp
        · simp only [List.mem_append]; exact .inl (hI.2 k (by omega) h3)
      · rename_i h3'
        refine ⟨by omega, fun k hk h3 => ?_⟩
        by_cases hki : k = i
        · subst hki; exact absurd h3 h3'
        · exact hI.2 k (by omega) h3) ⟨by simp, fun i hi => by omega⟩ h
  simpa using this

theorem routeRow_plain {lib : List UInt8} {at_ : A2} {l : List SLender} (h1 : lib.length ≤ ML) (hs : SaneL l) : m_law56_RouteRow FU lib at_ l = some true := by
  have hn : ML < FU := by decide
  have ha := awake_yes
  unfold m_law56_RouteRow
  generalize FU = n at *
  simp only [ha, Option.bind_some]
  by_cases c1 : (50 : Int) < lib.length
  · simp [c1]
  · by_cases c2 : (13 : Int) < l.length
    · simp [c2]
    · simp only [c1, c2, decide_false, Bool.not_true, Bool.or_false, Bool.false_eq_true, if_false]
      have hl : l.length ≤ 13 := by omega
      rw [triedLoop hl hn]
      cases hf : foldE (triedG l) 0 l.length [] with
      | inr t => rfl
      | inl s =>
        obtain ⟨t1, t2⟩ := tried_all hf
        have hsl : s.length ≤ ML := by simp only [ML]; omega
        simp only [Sum.elim_inl, Option.bind_some, lendersId hl hn]
        have e1 : m_route_Row n lib (⟨at_.e0, at_.e1⟩ : A2) s l = some (rowB lib at_ s l) := progRow h1 hsl hs hn
        have e2 : m_ref56_Row n lib (⟨at_.e0, at_.e1⟩ : A2) s l = some (rowB lib at_ s l) := refRow h1 hsl hs hn
        rw [e1, e2]
        have hrl : (rowB lib at_ s l).1 = [] ∨ (rowB lib at_ s l).1 = l.map (costB lib at_ s) := by
          unfold rowB
          split
          · exact .inl rfl
          · split
            · exact .inl rfl
            · split
              · exact .inl rfl
              · exact .inr rfl
        have hlen : (rowB lib at_ s l).1.length ≤ l.length := by rcases hrl with h | h <;> rw [h] <;> simp
        simp only [Option.bind_some, sameRefl (show (rowB lib at_ s l).1.length ≤ ML by simp only [ML]; omega) hn, decide_true, Bool.not_true, Bool.or_false, Bool.false_eq_true, if_false]
        have hit : iter n (fun i => m_law56_RouteRow_L2 n lib l (rowB lib at_ s l) i) (0 : Int) = some (if anyN (rowB lib at_ s l).1.length (fun _ => false) = true then .inl false else .inr ()) := by
          refine iter_any (ρ := Bool ⊕ Unit) _ n _ _ _ (fun j hj => ?_) ?_ (by simp only [ML] at hn; omega)
          · unfold m_law56_RouteRow_L2
            have hjl : j < l.length := by omega
            simp only [show ((j : Int) < ((rowB lib at_ s l).1.length : Int)) from by omega, decide_true, if_true, ix_get (default : SLender) hjl, ix_get (0 : Int) hj, Option.bind_some, wadd1 hj (show (rowB lib at_ s l).1.length ≤ ML by simp only [ML]; omega), rem3, ite_bind]
            have hval : (rowB lib at_ s l).1.getD j 0 = costB lib at_ s (l.getD j default) := by
              rcases hrl with h | h
              · rw [h] at hj; simp at hj
              · rw [h]; simp [hjl]
            rw [hval]
            have h3 : decide (((j % 3 : Nat) : Int) = 1) = decide (j % 3 = 1) := by
              by_cases h : j % 3 = 1
              · rw [decide_eq_true h, decide_eq_true (by omega)]
              · rw [decide_eq_false h, decide_eq_false (by omega)]
            rw [h3]
            have ht := t2 j hjl
            generalize l.getD j default = x at *
            unfold costB
            by_cases q1 : j % 3 = 1
            · simp [q1, ht q1]
            · by_cases q2 : x.fLibrary = lib
              · simp [q1, q2]
              · simp [q1, q2]
          · simp [m_law56_RouteRow_L2]
        rw [hit, anyN_f.2 (fun _ _ => rfl)]
        simp

theorem routeRow_plain2 {lib : List UInt8} {at_ : A2} {l : List SLender} (h1 : Ok9 lib) (_h2 : Ok51 at_) (h3 : Ok52 l) : m_law56_RouteRow FU lib at_ l = some true :=
  routeRow_plain h1 ⟨h3.1, fun x hx => (h3.2 x hx).1⟩
end Go.Proofs.Ythjinjinnklkgaa.Ab
