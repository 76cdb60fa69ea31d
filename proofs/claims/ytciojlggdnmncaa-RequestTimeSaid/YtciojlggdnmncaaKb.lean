/- What comes in as requests and steps. Conditions: none. -/
import Derived.Test.YtciojlggdnmncaaKa
import Derived.Test.YtciojlggdnmncaaSp
set_option maxRecDepth 100000
namespace Go.Proofs.Ytciojlggdnmncaa.Ab
open Go Go.ChangeShapes Go.WideShapes Go.ChangeAt Go.RowKit


theorem row24 : isRow Try.prog 24 = true := by simp [isRow, Try.underlying24]
theorem row44 : isRow Try.prog 44 = true := by simp [isRow, Try.underlying44]
theorem parts24 : partsOf Try.prog 24 = [(0, 3), (1, 3), (2, 9), (3, 3), (4, 3), (5, 9), (6, 22), (7, 3), (8, 3)] := by simp [partsOf, Try.underlying24]
theorem parts44 : partsOf Try.prog 44 = [(0, 3), (1, 3), (2, 9), (3, 3)] := by simp [partsOf, Try.underlying44]
theorem small {n : Nat} (h : n ≤ maxLen) : n ≤ 9223372036854775807 := by unfold maxLen at h; omega
theorem strs_of {l : List (List D)} (h : ∀ x ∈ l, Ty Try.prog 9 x) : ∃ ss : List (List UInt8), l.map (mkD (isRow Try.prog 9)) = ss.map D.str ∧ ss.length = l.length ∧ ∀ s ∈ ss, s.length ≤ 9223372036854775807 := by
  obtain ⟨ss, rfl, hs⟩ := list_of2 (f := fun s => [D.str s]) (S := fun s : List UInt8 => s.length ≤ maxLen) (fun x hx => Ty.inv_str hx Try.underlying9) h
  refine ⟨ss, ?_, by simp, fun s hs' => small (hs s hs')⟩
  rw [List.map_map, one9]
  rfl
/-- A request that came in. -/
theorem req_of {c : List D} (h : Ty Try.prog 24 c) : ∃ r : Req, D.agg c = r.e ∧ r.Fits := by
  obtain ⟨a0, _, h0, ⟨a1, _, h1, ⟨a2, _, h2, ⟨a3, _, h3, ⟨a4, _, h4, ⟨a5, _, h5, ⟨a6, _, h6, ⟨a7, _, h7, ⟨a8, _, h8, rfl, rfl⟩, rfl⟩, rfl⟩, rfl⟩, rfl⟩, rfl⟩, rfl⟩, rfl⟩, rfl⟩ := h.inv_row row24 parts24
  obtain ⟨id, rfl, _⟩ := h0.inv_int Try.underlying3
  obtain ⟨work, rfl, _⟩ := h1.inv_int Try.underlying3
  obtain ⟨lib, rfl, hlib⟩ := h2.inv_str Try.underlying9
  obtain ⟨st, rfl, _⟩ := h3.inv_int Try.underlying3
  obtain ⟨tm, rfl, _⟩ := h4.inv_int Try.underlying3
  obtain ⟨lender, rfl, hlender⟩ := h5.inv_str Try.underlying9
  obtain ⟨l, rfl, hl, hx⟩ := h6.inv_sl Try.underlying22
  obtain ⟨due, rfl, _⟩ := h7.inv_int Try.underlying3
  obtain ⟨ren, rfl, _⟩ := h8.inv_int Try.underlying3
  obtain ⟨ss, e, hsl, hss⟩ := strs_of hx
  refine ⟨⟨id, work, lib, st, tm, lender, ss, due, ren⟩, by rw [e]; rfl, small hlib, small hlender, by rw [hsl]; exact small hl, fun k => ?_⟩
  show (ss.getD k []).length ≤ _
  rw [List.getD_eq_getElem?_getD]
  by_cases hk : k < ss.length
  · rw [List.getElem?_eq_getElem hk]; exact hss _ (List.getElem_mem hk)
  · rw [List.getElem?_eq_none (by omega)]; decide
theorem stp_of {c : List D} (h : Ty Try.prog 44 c) : ∃ s : Stp, D.agg c = s.e ∧ s.lender.length ≤ 9223372036854775807 := by
  obtain ⟨a0, _, h0, ⟨a1, _, h1, ⟨a2, _, h2, ⟨a3, _, h3, rfl, rfl⟩, rfl⟩, rfl⟩, rfl⟩ := h.inv_row row44 parts44
  obtain ⟨kind, rfl, _⟩ := h0.inv_int Try.underlying3
  obtain ⟨tm, rfl, _⟩ := h1.inv_int Try.underlying3
  obtain ⟨lender, rfl, hl⟩ := h2.inv_str Try.underlying9
  obtain ⟨due, rfl, _⟩ := h3.inv_int Try.underlying3
  exact ⟨⟨kind, tm, lender, due⟩, rfl, small hl⟩
theorem stps_of {l : List (List D)} (h : ∀ x ∈ l, Ty Try.prog 44 x) : ∃ ss : List Stp, l.map (mkD (isRow Try.prog 44)) = ss.map Stp.e ∧ ss.length = l.length ∧ ∀ s ∈ ss, s.lender.length ≤ 9223372036854775807 := by
  obtain ⟨ss, e, hs⟩ := list_of2 (f := fun s : Stp => s.e.cells) (S := fun s : Stp => s.lender.length ≤ 9223372036854775807) (fun x hx => by
    obtain ⟨s, e, hl⟩ := stp_of hx
    exact ⟨s, by rw [← e]; rfl, hl⟩) h
  subst e
  refine ⟨ss, ?_, by simp, hs⟩
  rw [List.map_map, row44]
  rfl
theorem u8_of {n : Int} (h : (Lit.int .u8 n).wf = true) : 0 ≤ n ∧ n ≤ 255 := by
  simp only [Lit.wf, Bool.and_eq_true, decide_eq_true_eq] at h
  exact ⟨h.1, h.2⟩


end Go.Proofs.Ytciojlggdnmncaa.Ab
