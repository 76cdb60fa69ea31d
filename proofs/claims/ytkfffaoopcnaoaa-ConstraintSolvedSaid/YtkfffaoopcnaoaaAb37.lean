/- New lists with room, and cells that become data. Conditions: none. -/
import Derived.Test.YtkfffaoopcnaoaaAb36
import Derived.Test.YtkfffaoopcnaoaaAb29
namespace Go.Proofs.Ytkfffaoopcnaoaa.Ab
open Go Go.RowKit

/-- What the library says of its Grow at nil, at this program. -/
structure Grows (P : Program) (fs : FuncId) (e : TypeId) (s bytes : Nat) : Prop where
  zero : ∀ w, Calls P fs #[.slice none 0 0, .int .i64 0] w fun r w' => r = .returned (.slice none 0 0) ∧ w' = w
  more : ∀ (n : Nat) w, 0 < n → n * bytes ≤ 140737488355328 → n ≤ 4611686018427387904 → Calls P fs #[.slice none 0 0, .int .i64 n] w fun r w' =>
    ∃ C arr, r = .returned (.slice (some ⟨w.heap.size, 0, none⟩) 0 C) ∧ w' = w.drew.alloc (.cells arr e) ∧ arr.size = C * s ∧ C ≤ 9223372036854775807
theorem ACall.grow {P : Program} {fs : FuncId} {e : TypeId} {s bytes : Nat} {H : List HE} {n : Int} (hG : Grows P fs e s bytes) (h0 : 0 ≤ n) (h1 : n * bytes ≤ 140737488355328) (h2 : n ≤ 4611686018427387904) :
    ACall P fs [.nil, .d (.int .i64 n)] H fun r H' => r = .hs H.length 0 0 s ∧ H' = H ++ [.lst [] e s] := by
  intro g w vals hw hs ha
  obtain ⟨v0, v1, rfl⟩ : ∃ v0 v1, vals = #[v0, v1] := by
    obtain ⟨vs⟩ := vals
    match vs, hs with
    | [a, b], _ => exact ⟨a, b, rfl⟩
  have r0 := ha 0 _ v0 rfl rfl
  have r1 := ha 1 _ v1 rfl rfl
  cases r0
  cases r1 with
  | d r1 =>
    cases r1
    obtain ⟨m, rfl⟩ : ∃ m : Nat, n = m := ⟨n.toNat, by omega⟩
    by_cases hm : m = 0
    · subst hm
      refine (hG.zero w).mono ?_
      rintro r w' ⟨rfl, rfl⟩
      obtain ⟨g', w1, w2, w3⟩ := hw.lstize (s := s) (e := e) (ad := none)
      exact ⟨_, _, g', _, rfl, w1, w2, .hs w3 (fun _ => ⟨rfl, rfl, rfl, Nat.le_refl _⟩), rfl, rfl⟩
    · refine (hG.more m w (by omega) (by rw [← Int.natCast_mul] at h1; omega) (by omega)).mono ?_
      rintro r w' ⟨C, arr, rfl, rfl, h3, h4⟩
      obtain ⟨g', w1, w2, w3⟩ := hw.addFree.newLst (w' := w.drew.alloc (.cells arr e)) (id := H.length) (l := []) (s := s) (cap := C) (arr := arr) (et := e) (by simp) ⟨rfl, rfl, rfl⟩ rfl (Nat.zero_le _) h4 h3 (fun k x v hx _ => by simp [D.flat] at hx)
      rw [set_last] at w1
      exact ⟨_, _, g', _, rfl, w1, w2, .hs w3 (fun _ => ⟨rfl, rfl, rfl, by omega⟩), rfl, rfl⟩
section
variable {P : Program} {ρ : Operand → V} {H : List HE} {ty : TypeId}
end

/-- Arguments as they stand, or taken for data. -/
inductive ArgsW (ρ : Operand → V) : List Operand → List V → Prop
  | nil : ArgsW ρ [] []
  | i {x : Operand} {xs : List Operand} {v : V} {vs : List V} : Is (ρ x) v → ArgsW ρ xs vs → ArgsW ρ (x :: xs) (v :: vs)
  | a {x : Operand} {xs : List Operand} {d : D} {vs : List V} : As (ρ x) d → ArgsW ρ xs vs → ArgsW ρ (x :: xs) (.d d :: vs)
theorem ArgsW.get {ρ : Operand → V} {xs : List Operand} {vs : List V} (h : ArgsW ρ xs vs) : xs.length = vs.length ∧ ∀ (i : Nat) v, vs[i]? = some v → ∃ x, xs[i]? = some x ∧ ∀ {g w r}, Rep g w (ρ x) r → Rep g w v r := by
  induction h with
  | nil => exact ⟨rfl, fun i v h => by simp at h⟩
  | i hx _ ih =>
    refine ⟨by simp [ih.1], fun i v hv => ?_⟩
    cases i with
    | zero => simp only [List.getElem?_cons_zero, Option.some.injEq] at hv; subst hv; exact ⟨_, rfl, fun h => hx.rep h⟩
    | succ i => exact ih.2 i v (by simpa using hv)
  | a hx _ ih =>
    refine ⟨by simp [ih.1], fun i v hv => ?_⟩
    cases i with
    | zero => simp only [List.getElem?_cons_zero, Option.some.injEq] at hv; subst hv; exact ⟨_, rfl, fun h => .d (hx.rep h)⟩
    | succ i => exact ih.2 i v (by simpa using hv)
section
variable {P : Program} {ρ : Operand → V} {H : List HE} {ty : TypeId}
end

end Go.Proofs.Ytkfffaoopcnaoaa.Ab
