/- strconv.Itoa as a function of data. Conditions: none. -/
import Derived.Test.YtkdefjliknpliaaGreatDoorJn
import Derived.Test.YtkdefjliknpliaaGreatDoorIj
namespace Go.Proofs.YtkdefjliknpliaaGreatDoor.Ab
open Go Go.RowKit

theorem tab_of {g : G} {w : World} {H : List HE} (hw : WOK g w H) : Lib.TabIs Tryz.prog w "internal/strconv.uint64pow10" .u64 Lib.pow10Tab := by
  obtain ⟨_, _, et, fr, h⟩ := hw.kc _ (List.mem_singleton.2 rfl)
  have hg : Tryz.prog.globalNamed "internal/strconv.uint64pow10" = some 1 := by kernel_rfl
  unfold Lib.TabIs World.var?
  rw [hg]
  show (match w.heap[1]? with | some (.cells cs _ _) => some cs | _ => none) = _
  rw [show w.heap[1]? = _ from h]
  simp [Lib.pow10Tab, Function.comp_def]
theorem below_grow (w : World) (k : Nat) (os : Array Obj) : Below w.heap.size w (Sort.grow (w.drewN k) os) :=
  ⟨rfl, rfl, rfl, by show w.heap.size ≤ (w.heap ++ os).size; simp, fun b hb => by show (w.heap ++ os)[b]? = _; rw [Array.getElem?_append_left hb]⟩
theorem itoaM_fn {n : Int} {r : List UInt8} (h : itoaM n = some r) : Fn Tryz.prog 47 [.int .i64 n] (.str r) := by
  unfold itoaM at h
  split at h
  · rename_i hh
    injection h with h; subst h
    refine Fn.of_below (fun g w vals hw hs ha => ?_)
    obtain ⟨v0, rfl⟩ : ∃ v0, vals = #[v0] := by
      obtain ⟨vs⟩ := vals
      match vs, hs with
      | [a], _ => exact ⟨a, rfl⟩
    have h0 := ha 0 _ v0 rfl rfl
    have hv : v0 = .int .i64 n := by cases h0; rfl
    subst hv
    refine (Tryz.strconv_Itoa n hh.1 hh.2 w (tab_of hw)).mono ?_
    rintro e w' ⟨rfl, k, os, rfl⟩
    exact ⟨_, rfl, below_grow w k os, .str _⟩
  · cases h
end Go.Proofs.YtkdefjliknpliaaGreatDoor.Ab
