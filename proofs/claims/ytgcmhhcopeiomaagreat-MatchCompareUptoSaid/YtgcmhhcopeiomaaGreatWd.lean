/- Comparing, in plain Lean. Conditions: none. -/
import Derived.Test.YtgcmhhcopeiomaaGreatVg
import Derived.Test.YtgcmhhcopeiomaaGreatWc
namespace Go.Proofs.YtgcmhhcopeiomaaGreat.Ab
open Go

theorem refcompare_ok {f g : SFeatures} (hf : FOk f) (hg : FOk g) : m_ref31_Compare FU f g = some (if (fv f && fv g) = true then (cmp f g, 0) else (⟨0, 0, 0, 0, 0, 0, 0⟩, 1)) := by
  unfold m_ref31_Compare
  rw [refv_ok hf, refv_ok hg]
  cases hvf : fv f with
  | false => simp
  | true =>
    cases hvg : fv g with
    | false => simp
    | true =>
      simp only [Option.bind_some, Bool.not_true, Bool.not_false, if_true, Bool.or_self, Bool.false_eq_true, if_false, Bool.and_self]
      rw [refcmp_ok (fv_small hvf) (fv_small hvg)]
      rfl
theorem own29_ok (f : SFeatures) : m_law29_Own FU f = some f := rfl
theorem plain_MatchCompare {f g : SFeatures} (hf : FB f) (hg : FB g) : m_law31_MatchCompare FU f g = some true := by
  obtain ⟨b1, w1⟩ := few_ok hf
  obtain ⟨b2, w2⟩ := few_ok hg
  unfold m_law31_MatchCompare
  rw [awake31, w1, w2, own29_ok, own29_ok]
  simp only [Option.bind_some]
  rw [compare_ok hf.ok hg.ok, refcompare_ok hf.ok hg.ok]
  cases b1 with
  | false => simp
  | true =>
    cases b2 with
    | false => simp
    | true => simp
end Go.Proofs.YtgcmhhcopeiomaaGreat.Ab
