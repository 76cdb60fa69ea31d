/- Models and weights, in plain Lean. Conditions: none. -/
import Derived.Test.YtgcmhhcopeiomaaVd
import Derived.ProofKit
namespace Go.Proofs.Ytgcmhhcopeiomaa.Ab
open Go

theorem own_ok (m : A72) : m_law31_Own FU m = some m := by
  obtain ⟨⟨⟨a1, a2⟩, ⟨a3, a4⟩, ⟨a5, a6⟩⟩, ⟨⟨b1, b2⟩, ⟨b3, b4⟩, ⟨b5, b6⟩⟩, ⟨⟨c1, c2⟩, ⟨c3, c4⟩, ⟨c5, c6⟩⟩, ⟨⟨d1, d2⟩, ⟨d3, d4⟩, ⟨d5, d6⟩⟩, ⟨⟨e1, e2⟩, ⟨e3, e4⟩, ⟨e5, e6⟩⟩, ⟨⟨f1, f2⟩, ⟨f3, f4⟩, ⟨f5, f6⟩⟩, ⟨⟨g1, g2⟩, ⟨g3, g4⟩, ⟨g5, g6⟩⟩⟩ := m
  kernel_rfl
def WK : A72 := ⟨⟨⟨20, 1⟩, ⟨6, 1⟩, ⟨1, 12⟩⟩, ⟨⟨12, 1⟩, ⟨4, 1⟩, ⟨1, 20⟩⟩, ⟨⟨2, 1⟩, ⟨3, 2⟩, ⟨4, 5⟩⟩, ⟨⟨100, 1⟩, ⟨1, 1⟩, ⟨3, 4⟩⟩, ⟨⟨3, 2⟩, ⟨1, 1⟩, ⟨1, 2⟩⟩, ⟨⟨6, 5⟩, ⟨1, 1⟩, ⟨9, 10⟩⟩, ⟨⟨1, 1⟩, ⟨1, 1⟩, ⟨1, 1⟩⟩⟩
def ED : A72 := ⟨⟨⟨8, 1⟩, ⟨3, 1⟩, ⟨1, 16⟩⟩, ⟨⟨4, 1⟩, ⟨2, 1⟩, ⟨1, 16⟩⟩, ⟨⟨6, 1⟩, ⟨1, 4⟩, ⟨1, 20⟩⟩, ⟨⟨400, 1⟩, ⟨1, 1⟩, ⟨1, 8⟩⟩, ⟨⟨2, 1⟩, ⟨1, 1⟩, ⟨1, 100⟩⟩, ⟨⟨3, 1⟩, ⟨3, 2⟩, ⟨1, 6⟩⟩, ⟨⟨5, 1⟩, ⟨1, 1⟩, ⟨1, 30⟩⟩⟩
theorem works_ok : m_match_Works FU = some WK := by decide +kernel
theorem editions_ok : m_match_Editions FU = some ED := by decide +kernel
def mvl (m : A72) : Bool := m.l.all fun r => ovl r.l
theorem valid_ok (m : A72) : m_match_Valid FU m = some (mvl m) := by
  unfold m_match_Valid
  have e : m_slices_ContainsFunc_3_odds_Ratio_3_odds_Ratio FU m.l (fun y1 => m_match_Valid_1 FU y1) = some (m.l.any fun r => !ovl r.l) :=
    contains_loop FU m.l (fun y1 => m_match_Valid_1 FU y1) (fun r => !ovl r.l) (fun r _ => by
      unfold m_match_Valid_1; rw [odds_Valid (l := r.l) (show 3 ≤ ML by decide) (show 3 < FU by decide)]; rfl) (show 7 ≤ ML by decide) (show 7 < FU by decide)
  rw [e, Option.bind_some]
  congr 1
  unfold mvl
  rw [List.all_eq_not_any_not]
theorem ovl_three (r : A3) : ovl r.l = (ovl [r.e0] && ovl [r.e1] && ovl [r.e2]) := by
  simp [ovl, A3.l, Bool.and_assoc]
theorem refvalid_ok (m : A72) : m_ref31_Valid FU m = some (mvl m) := by
  have row : ∀ i : Nat, i < 7 → iter FU (fun s => m_ref31_Valid_L2 FU m i s) (0 : Int) = some (if anyN 3 (fun k => !ovl [(m.l.getD i default).l.getD k default]) = true then .inl false else .inr ()) := by
    intro i hi
    refine iter_any (ρ := Bool ⊕ Unit) 3 FU _ (.inl false) (.inr ()) (fun j hj => ?_) (by unfold m_ref31_Valid_L2; simp) (by decide)
    unfold m_ref31_Valid_L2
    rw [if_pos (by simp; omega), ix_get default (by simpa [A72.l] using hi), Option.bind_some, ix_get default (by simpa [A3.l] using hj), Option.bind_some, ref28_Valid (l := [_]) (show 1 ≤ ML by decide) (show 1 < FU by decide), Option.bind_some, wadd1 hj (by decide)]
    split <;> rfl
  unfold m_ref31_Valid
  rw [iter_any (ρ := Bool ⊕ Unit) 7 FU (fun i => anyN 3 fun k => !ovl [(m.l.getD i default).l.getD k default]) (.inl false) (.inr ()) (fun j hj => by
    unfold m_ref31_Valid_L1
    rw [if_pos (by simp; omega), row j hj, Option.bind_some, wadd1 hj (by decide)]
    cases anyN 3 (fun k => !ovl [(m.l.getD j default).l.getD k default]) <;> rfl) (by unfold m_ref31_Valid_L1; simp) (by decide)]
  have e : mvl m = !anyN 7 (fun i => anyN 3 fun k => !ovl [(m.l.getD i default).l.getD k default]) := by
    have e1 : ∀ i, (anyN 3 fun k => !ovl [(m.l.getD i default).l.getD k default]) = !ovl (m.l.getD i default).l := by
      intro i
      rw [ovl_three]
      generalize m.l.getD i default = r
      simp [anyN, A3.l, List.range_succ, Bool.or_assoc]
    have e2 := anyN_getD m.l default (fun r => !ovl r.l)
    have e3 : m.l.length = 7 := rfl
    rw [e3] at e2
    have e4 : anyN 7 (fun i => anyN 3 fun k => !ovl [(m.l.getD i default).l.getD k default]) = anyN 7 (fun i => !ovl (m.l.getD i default).l) := anyN_congr (fun i _ => e1 i)
    rw [e4, e2]
    unfold mvl
    rw [List.all_eq_not_any_not]
  rw [e]
  cases anyN 7 (fun i => anyN 3 fun k => !ovl [(m.l.getD i default).l.getD k default]) <;> rfl
theorem models_loop : iter FU (fun s => m_law31_MatchModels_L1 FU WK ED s) (0 : Int) = some (.inr ()) := by decide +kernel
theorem plain_MatchModels (m : A72) : m_law31_MatchModels FU m = some true := by
  unfold m_law31_MatchModels
  have t1 : m_law31_theirs FU WK = some WK := by decide +kernel
  have t2 : m_ref31_Works FU = some WK := by decide +kernel
  have t3 : m_law31_theirs FU ED = some ED := by decide +kernel
  have t4 : m_ref31_Editions FU = some ED := by decide +kernel
  rw [awake31, works_ok, editions_ok, t2, t4]
  have o : m_law31_Own FU (⟨(⟨(⟨m.e0.e0.fNum, m.e0.e0.fDen⟩ : SRatio), (⟨m.e0.e1.fNum, m.e0.e1.fDen⟩ : SRatio), (⟨m.e0.e2.fNum, m.e0.e2.fDen⟩ : SRatio)⟩ : A3), (⟨(⟨m.e1.e0.fNum, m.e1.e0.fDen⟩ : SRatio), (⟨m.e1.e1.fNum, m.e1.e1.fDen⟩ : SRatio), (⟨m.e1.e2.fNum, m.e1.e2.fDen⟩ : SRatio)⟩ : A3), (⟨(⟨m.e2.e0.fNum, m.e2.e0.fDen⟩ : SRatio), (⟨m.e2.e1.fNum, m.e2.e1.fDen⟩ : SRatio), (⟨m.e2.e2.fNum, m.e2.e2.fDen⟩ : SRatio)⟩ : A3), (⟨(⟨m.e3.e0.fNum, m.e3.e0.fDen⟩ : SRatio), (⟨m.e3.e1.fNum, m.e3.e1.fDen⟩ : SRatio), (⟨m.e3.e2.fNum, m.e3.e2.fDen⟩ : SRatio)⟩ : A3), (⟨(⟨m.e4.e0.fNum, m.e4.e0.fDen⟩ : SRatio), (⟨m.e4.e1.fNum, m.e4.e1.fDen⟩ : SRatio), (⟨m.e4.e2.fNum, m.e4.e2.fDen⟩ : SRatio)⟩ : A3), (⟨(⟨m.e5.e0.fNum, m.e5.e0.fDen⟩ : SRatio), (⟨m.e5.e1.fNum, m.e5.e1.fDen⟩ : SRatio), (⟨m.e5.e2.fNum, m.e5.e2.fDen⟩ : SRatio)⟩ : A3), (⟨(⟨m.e6.e0.fNum, m.e6.e0.fDen⟩ : SRatio), (⟨m.e6.e1.fNum, m.e6.e1.fDen⟩ : SRatio), (⟨m.e6.e2.fNum, m.e6.e2.fDen⟩ : SRatio)⟩ : A3)⟩ : A72) = some m := own_ok m
  have v : m_ref31_Valid FU (⟨(⟨(⟨m.e0.e0.fNum, m.e0.e0.fDen⟩ : SRatio), (⟨m.e0.e1.fNum, m.e0.e1.fDen⟩ : SRatio), (⟨m.e0.e2.fNum, m.e0.e2.fDen⟩ : SRatio)⟩ : A3), (⟨(⟨m.e1.e0.fNum, m.e1.e0.fDen⟩ : SRatio), (⟨m.e1.e1.fNum, m.e1.e1.fDen⟩ : SRatio), (⟨m.e1.e2.fNum, m.e1.e2.fDen⟩ : SRatio)⟩ : A3), (⟨(⟨m.e2.e0.fNum, m.e2.e0.fDen⟩ : SRatio), (⟨m.e2.e1.fNum, m.e2.e1.fDen⟩ : SRatio), (⟨m.e2.e2.fNum, m.e2.e2.fDen⟩ : SRatio)⟩ : A3), (⟨(⟨m.e3.e0.fNum, m.e3.e0.fDen⟩ : SRatio), (⟨m.e3.e1.fNum, m.e3.e1.fDen⟩ : SRatio), (⟨m.e3.e2.fNum, m.e3.e2.fDen⟩ : SRatio)⟩ : A3), (⟨(⟨m.e4.e0.fNum, m.e4.e0.fDen⟩ : SRatio), (⟨m.e4.e1.fNum, m.e4.e1.fDen⟩ : SRatio), (⟨m.e4.e2.fNum, m.e4.e2.fDen⟩ : SRatio)⟩ : A3), (⟨(⟨m.e5.e0.fNum, m.e5.e0.fDen⟩ : SRatio), (⟨m.e5.e1.fNum, m.e5.e1.fDen⟩ : SRatio), (⟨m.e5.e2.fNum, m.e5.e2.fDen⟩ : SRatio)⟩ : A3), (⟨(⟨m.e6.e0.fNum, m.e6.e0.fDen⟩ : SRatio), (⟨m.e6.e1.fNum, m.e6.e1.fDen⟩ : SRatio), (⟨m.e6.e2.fNum, m.e6.e2.fDen⟩ : SRatio)⟩ : A3)⟩ : A72) = some (mvl m) := refvalid_ok m
  rw [o, v]
  simp only [t1, t3, Option.bind_some, Bool.not_true, Bool.not_false, if_true, decide_true, Bool.or_self, valid_ok, beq_self_eq_true, Bool.false_eq_true, if_false, models_loop]
end Go.Proofs.Ytgcmhhcopeiomaa.Ab
