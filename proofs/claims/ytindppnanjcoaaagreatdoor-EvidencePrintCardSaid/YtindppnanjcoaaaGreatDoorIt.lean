/- strings.Join as a function of data. strconv.Itoa as a function of data. Conditions: none. -/
import Derived.Test.YtindppnanjcoaaaGreatDoorIj
import Derived.Test.YtindppnanjcoaaaGreatDoorSh
section
namespace Go.Proofs.YtindppnanjcoaaaGreatDoor.Ab
open Go Go.RowKit

theorem sl_str {Pr : Nat → Nat → Prop} {w : World} {xs : List (List UInt8)} {r : Value} (h : RepD Pr w (.sl (xs.map D.str)) r) : ∃ a c, r = .slice a xs.length c ∧ xs.length ≤ c ∧ (xs ≠ [] → ∃ b o, a = some ⟨b, o, none⟩ ∧ Pr b o ∧ ∀ (j : Nat) x, xs[j]? = some x → w.cell? ⟨b, o + j, none⟩ = some (.string ⟨x.toArray⟩)) := by
  obtain ⟨a, c, rfl, hc⟩ := slice_form h
  simp only [List.length_map] at hc
  refine ⟨a, c, by simp, hc, fun hne => ?_⟩
  have hne' : xs.map D.str ≠ [] := by simpa using hne
  cases h with
  | sl _ _ _ s f q1 q2 q3 q4 =>
    obtain ⟨b, o, rfl, h5⟩ := q3 hne'
    have hs : s = 1 := by
      obtain ⟨x, xs', rfl⟩ := List.exists_cons_of_ne_nil hne
      have := q1 (.str x) (by simp)
      simpa [D.cells] using this.symm
    subst hs
    have hflat : D.flat (xs.map D.str) = xs.map D.str := flat_one1 (fun _ => rfl) xs
    refine ⟨b, o, rfl, by have := (h5 0 (by simpa using List.length_pos_iff.2 hne)).1; simpa using this, fun j x hx => ?_⟩
    have hj : j < xs.length := (List.getElem?_eq_some_iff.1 hx).1
    rw [(h5 j (by simpa using hj)).2]
    have := q4 j (.str x) (by rw [hflat]; simp [hx])
    generalize f j = u at this ⊢
    cases this with
    | str => rfl
theorem joinM_fn {xs : List (List UInt8)} {sep r : List UInt8} (hm : joinM xs sep = some r) : Fn Tryz.prog 14 [.sl (xs.map D.str), .str sep] (.str r) := by
  unfold joinM at hm
  split at hm
  · rename_i hh
    injection hm with hm; subst hm
    refine Fn.of_below (fun g w vals hw hs ha => ?_)
    obtain ⟨v0, v1, rfl⟩ : ∃ v0 v1, vals = #[v0, v1] := by
      obtain ⟨vs⟩ := vals
      match vs, hs with
      | [a, b], _ => exact ⟨a, b, rfl⟩
    have h0 := ha 0 _ v0 rfl rfl
    have h1 := ha 1 _ v1 rfl rfl
    have hsep : v1 = .string ⟨sep.toArray⟩ := by cases h1; rfl
    subst hsep
    obtain ⟨a, c, rfl, hc, hcell⟩ := sl_str h0
    have hmap : (xs.map fun l : List UInt8 => (⟨l.toArray⟩ : ByteArray)).map (fun b => b.data.toList) = xs := by
      rw [List.map_map]
      exact (List.map_congr_left (fun l _ => by simp)).trans (List.map_id xs)
    by_cases hne : xs = []
    · subst hne
      refine (Tryz.strings_Join_none a c ⟨sep.toArray⟩ w).mono ?_
      rintro e w' ⟨rfl, rfl⟩
      exact ⟨_, rfl, Below.refl _ _, by simpa [Lib.join] using RepD.str (Pr := g.Pr) (w := w') []⟩
    · obtain ⟨b, o, rfl, hp, hx⟩ := hcell hne
      have key := Tryz.strings_Join b o c (xs.map fun l => ⟨l.toArray⟩) ⟨sep.toArray⟩ w (fun j x hjx => by
        simp only [List.getElem?_map, Option.map_eq_some_iff] at hjx
        obtain ⟨l, hl, rfl⟩ := hjx
        exact hx j l hl) (hw.pr b o hp) (by simpa using hh.1) (by simpa using hc) (by rw [hmap]; exact hh.2)
      rw [List.length_map, hmap] at key
      refine key.mono ?_
      rintro e w' ⟨rfl, hb⟩
      exact ⟨_, rfl, hb, .str _⟩
  · cases hm
end Go.Proofs.YtindppnanjcoaaaGreatDoor.Ab
end
section
namespace Go.Proofs.YtindppnanjcoaaaGreatDoor.Ab
open Go Go.RowKit

theorem tab_of {g : G} {w : World} {H : List HE} (hw : WOK g w H) : Lib.TabIs Tryz.prog w "internal/strconv.uint64pow10" .u64 Lib.pow10Tab := by
  obtain ⟨_, _, et, fr, h⟩ := hw.kc _ (List.mem_singleton.2 rfl)
  have hg : Tryz.prog.globalNamed "internal/strconv.uint64pow10" = some 0 := by kernel_rfl
  unfold Lib.TabIs World.var?
  rw [hg]
  show (match w.heap[0]? with | some (.cells cs _ _) => some cs | _ => none) = _
  rw [show w.heap[0]? = _ from h]
  simp [Lib.pow10Tab, Function.comp_def]
theorem below_grow (w : World) (k : Nat) (os : Array Obj) : Below w.heap.size w (Sort.grow (w.drewN k) os) :=
  ⟨rfl, rfl, rfl, by show w.heap.size ≤ (w.heap ++ os).size; simp, fun b hb => by show (w.heap ++ os)[b]? = _; rw [Array.getElem?_append_left hb]⟩
theorem itoaM_fn {n : Int} {r : List UInt8} (h : itoaM n = some r) : Fn Tryz.prog 13 [.int .i64 n] (.str r) := by
  unfold itoaM at h
  split at h
  · rename_i hh
    injection h with h; subst h
    refine Fn.of_below (fun g w vals hw hs ha => ?_)
    obtain ⟨v0, rfl⟩ : ∃ v0, vals = #[v0] := by
      obtain ⟨vs⟩ := vals
      match vs, hs with
      | [a], _ => exact ⟨a, rfl⟩
    have h0 := ha 0 _ v0 rfl rfl
    have hv : v0 = .int .i64 n := by cases h0; rfl
    subst hv
    refine (Tryz.strconv_Itoa n hh.1 hh.2 w (tab_of hw)).mono ?_
    rintro e w' ⟨rfl, k, os, rfl⟩
    exact ⟨_, rfl, below_grow w k os, .str _⟩
  · cases h
end Go.Proofs.YtindppnanjcoaaaGreatDoor.Ab
end
