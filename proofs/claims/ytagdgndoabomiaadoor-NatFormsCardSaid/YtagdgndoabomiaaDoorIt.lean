/- strconv.Itoa as a function of data. Conditions: none. -/
import Derived.Test.YtagdgndoabomiaaDoorAb26
import Derived.Test.YtagdgndoabomiaaDoorSh
import Derived.Test.YtagdgndoabomiaaDoorIm
namespace Go.Proofs.YtagdgndoabomiaaDoor.Ab
open Go

theorem tab_of {g : G} {w : World} {H : List HE} (hw : WOK g w H) : Lib.TabIs Tryd.prog w "internal/strconv.uint64pow10" .u64 Lib.pow10Tab := by
  obtain ⟨_, _, et, fr, h⟩ := hw.kc _ (List.mem_singleton.2 rfl)
  have hg : Tryd.prog.globalNamed "internal/strconv.uint64pow10" = some 0 := by kernel_rfl
  unfold Lib.TabIs World.var?
  rw [hg]
  show (match w.heap[0]? with | some (.cells cs _ _) => some cs | _ => none) = _
  rw [show w.heap[0]? = _ from h]
  simp [Lib.pow10Tab, Function.comp_def]
theorem itoa_fn {n : Int} (h0 : -9223372036854775808 ≤ n) (h1 : n ≤ 9223372036854775807) : Fn Tryd.prog 46 [.int .i64 n] (.str (Lib.itoa n)) := by
  intro g w vals hw hs ha
  have hv : vals = #[.int .i64 n] := by
    obtain ⟨vs⟩ := vals
    match vs, hs with
    | [v], _ =>
      have := ha 0 _ v rfl rfl
      cases this with
      | d h => cases h; rfl
  subst hv
  refine (Tryd.strconv_Itoa_laid n h0 h1 w (tab_of hw)).mono ?_
  rintro e w' ⟨rfl, k, os, rfl⟩
  have hev : Evo g w g (Sort.grow (w.drewN k) os) := {
    same := ⟨rfl, rfl, rfl⟩
    size := by show w.heap.size ≤ (w.heap ++ os).size; simp
    pr := fun b o h => ⟨h, by
      have := hw.pr b o h
      have e : (Sort.grow (w.drewN k) os).heap[b]? = w.heap[b]? := by show (w.heap ++ os)[b]? = _; rw [Array.getElem?_append_left this]
      simp only [World.cell?, e]⟩
    prn := fun b o h => .inl h
    x := fun b h => .inl h
    keep := fun b hb _ => by show (w.heap ++ os)[b]? = _; rw [Array.getElem?_append_left hb]
    σ := fun _ _ h => h
    τ := fun _ m a cap h => ⟨m, a, cap, h, .inr ⟨rfl, rfl, rfl⟩⟩ }
  refine ⟨_, .d (.str (Lib.itoa n)), g, [], rfl, ⟨fun b o h => Nat.lt_of_lt_of_le (hw.pr b o h) hev.size, fun b h => Nat.lt_of_lt_of_le (hw.xs b h) hev.size, ?_, ?_, ?_, ?_, ?_, ?_, hw.free, hw.kcE hev⟩, hev, .d (.str _), rfl⟩ <;> intros <;> simp_all
theorem itoaM_fn {n : Int} {r : List UInt8} (h : itoaM n = some r) : Fn Tryd.prog 46 [.int .i64 n] (.str r) := by
  unfold itoaM at h
  split at h
  · rename_i hh
    injection h with h; subst h
    exact itoa_fn hh.1 hh.2
  · cases h
end Go.Proofs.YtagdgndoabomiaaDoor.Ab
