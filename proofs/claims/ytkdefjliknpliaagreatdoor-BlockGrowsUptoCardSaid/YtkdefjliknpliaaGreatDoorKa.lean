/- Facts on the program. Conditions: none. -/
import Derived.Test.YtkdefjliknpliaaGreatDoorAb11
import Derived.Test.YtkdefjliknpliaaGreatDoorChecked
import Derived.Test.YtkdefjliknpliaaGreatDoorRows
import Derived.ProofKit
import Derived.JoinedCond
set_option maxRecDepth 100000
namespace Go.Proofs.YtkdefjliknpliaaGreatDoor.Ab
open Go Go.ChangeShapes Go.WideShapes Go.ChangeAt Go.RowKit


theorem bulk_left {H : Type} {ds gs : List (DataW H)} (h : Rows.uptoBulkAll (ds ++ gs) ≤ 1048576) : Rows.uptoBulkAll ds ≤ 1048576 := by
  have key : ∀ ds : List (DataW H), Rows.uptoBulkAll ds ≤ Rows.uptoBulkAll (ds ++ gs) := by
    intro ds
    induction ds with
    | nil => simp [Rows.uptoBulkAll]
    | cons d ds ih => simp only [List.cons_append, Rows.uptoBulkAll]; omega
  exact Nat.le_trans (key ds) h
theorem bulk_each {H : Type} {d : DataW H} : ∀ {ds : List (DataW H)}, d ∈ ds → Rows.uptoBulkAll ds ≤ 1048576 → Rows.uptoBulk d ≤ 1048576
  | [], hd, _ => by cases hd
  | e :: ds, hd, h => by
    simp only [Rows.uptoBulkAll] at h
    rcases List.mem_cons.1 hd with rfl | hd
    · omega
    · exact bulk_each hd (by omega)
theorem bulk_pos {H : Type} (d : DataW H) : 1 ≤ Rows.uptoBulk d := by
  cases d with
  | lit l => cases l <;> simp [Rows.uptoBulk]
  | _ => simp [Rows.uptoBulk]
theorem bulk_len {H : Type} : ∀ ds : List (DataW H), ds.length ≤ Rows.uptoBulkAll ds
  | [] => by simp
  | d :: ds => by have h1 := bulk_len ds; have h2 := bulk_pos d; simp only [List.length_cons, Rows.uptoBulkAll]; omega
theorem smU {H : Type} : Sm 1048576 (fun d : DataW H => Rows.uptoBulk d ≤ 1048576) where
  str s h _ := by simp only [Rows.uptoBulk, Array.length_toList] at h; have e : s.size = s.data.size := rfl; omega
  sl es sp h _ := by
    simp only [Rows.uptoBulk] at h
    have h1 := bulk_len es
    exact ⟨by omega, fun e he => bulk_each he (by omega)⟩
  ag ps h p hp := by
    simp only [Rows.uptoBulk] at h
    exact bulk_each hp (by omega)
theorem own : ownKnob Tryz.prog.godebug = none := by kernel_rfl
theorem laidOut : laidOutB Tryz.prog = true := by kernel_rfl
end Go.Proofs.YtkdefjliknpliaaGreatDoor.Ab
