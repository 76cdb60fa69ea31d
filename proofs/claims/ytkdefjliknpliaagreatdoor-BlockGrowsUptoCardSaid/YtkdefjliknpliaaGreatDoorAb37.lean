/- Plain laws, joined. Conditions: none. -/
import Derived.Test.YtkdefjliknpliaaGreatDoorAb32
import Derived.Test.YtkdefjliknpliaaGreatDoorAb34
import Derived.Test.YtkdefjliknpliaaGreatDoorAb29
namespace Go.Proofs.YtkdefjliknpliaaGreatDoor.Ab
section
/- Sorting lists of numbers or texts in place. Conditions: none. -/
open Go Go.Sort

section
variable {α : Type} [Inhabited α] {f : α → D} {enc1 : α → Value}
theorem flat1 (he : ∀ x, encP f x = [enc1 x]) (l : List α) (k : Nat) (h : k < l.length) : (flatK (encP f) 1 l.toArray)[k]! = enc1 (l.toArray[k]!) := by
  rw [get_flatK _ _ _ _ (by simpa using h), Nat.div_one, Nat.mod_one, he]; rfl
theorem putRow1 (he : ∀ x, encP f x = [enc1 x]) (w : World) (b : Nat) (l : List α) : putRowK (encP f) 1 w b 0 l.toArray = putRow enc1 w b 0 l.toArray := by
  unfold putRowK putRow
  congr 1
  funext c
  unfold putCells
  apply Array.ext_getElem?
  intro k
  simp only [Array.getElem?_mapIdx, size_flatK, Nat.mul_one, Nat.zero_add, Nat.zero_le, true_and, Nat.sub_zero]
  cases c[k]? with
  | none => rfl
  | some x =>
    simp only [Option.map_some]
    by_cases hk : k < l.toArray.size
    · rw [if_pos hk, if_pos hk, flat1 he l k (by simpa using hk)]; rfl
    · rw [if_neg hk, if_neg hk]
theorem holds1 (he : ∀ x, encP f x = [enc1 x]) {w : World} {b : Nat} {l : List α} (h : HoldsK (encP f) 1 w b 0 l.toArray) : Holds enc1 w b 0 l.toArray := fun j hj => by
  have h1 := h j (by simpa using hj)
  rw [flat1 he l j (by simpa using hj)] at h1
  exact h1
/-- What the library says of its sort, at this program. -/
structure Sorts1 (P : Program) (fs : FuncId) (enc1 : α → Value) (lt : α → α → Bool) : Prop where
  nil : ∀ p cap w, Calls P fs #[.slice p 0 cap] w fun e w' => e = .returned (.tuple #[]) ∧ w' = w
  row : ∀ b cap (l : List α) w, Holds enc1 w b 0 l.toArray → b < w.heap.size → l.length < 4611686018427387904 →
    Calls P fs #[.slice (some ⟨b, 0, none⟩) l.length cap] w fun e w' => e = .returned (.tuple #[]) ∧ ∃ n os, w' = grow (putRow enc1 (Sort.ahead w n) b 0 (l.mergeSort fun x y => !lt y x).toArray) os
theorem ACall.sort1 {P : Program} {fs : FuncId} {lt : α → α → Bool} {e : TypeId} {l : List α} (hS : Sorts1 P fs enc1 lt) (hp : Pl f 1) (he : ∀ x, encP f x = [enc1 x]) (hO : SWO lt) (hT : ∀ x y, lt x y = false → lt y x = false → x = y) (hlen : l.length < 4611686018427387904) :
    ACall P fs [.hs 0 0 l.length 1] [.lst (l.map f) e 1] fun r H' => r = .tup [] ∧ H' = [.lst ((isort lt l).map f) e 1] := by
  intro g w vals hw hs ha
  obtain ⟨v0, rfl⟩ : ∃ v0, vals = #[v0] := by
    obtain ⟨vs⟩ := vals
    match vs, hs with
    | [a], _ => exact ⟨a, rfl⟩
  have h0 := ha 0 _ v0 rfl rfl
  obtain ⟨a, cap, rfl, hne⟩ := hw.lstAt hp rfl h0
  by_cases hl : l = []
  · subst hl
    refine (hS.nil a cap w).mono ?_
    rintro e' w' ⟨rfl, rfl⟩
    exact ⟨_, .tup [], g, _, rfl, hw, Evo.refl g w', .tup rfl (by simp), rfl, rfl⟩
  · obtain ⟨b, rfl, hτ, hcap, hpr, hX, hH⟩ := hne hl
    refine (hS.row b cap l w (holds1 he hH) (hw.xs b hX) hlen).mono ?_
    rintro e' w' ⟨rfl, n, os, rfl⟩
    obtain ⟨w1, w2⟩ := hw.putL (id := 0) (l' := isort lt l) hp rfl hτ hcap (isort_len _ l) n
    obtain ⟨w3, w4⟩ := w1.grown os
    rw [merge_isort hO hT, ← putRow1 he]
    exact ⟨_, .tup [], g, _, rfl, w3, w2.trans w4, .tup rfl (by simp), rfl, rfl⟩
end
def strLt (x y : List UInt8) : Bool := decide (x < y)
theorem strLt_swo : SWO strLt where
  irrefl x := by simp [strLt, List.lt_irrefl]
  trans x y z h1 h2 := by simp [strLt] at *; exact List.lt_trans h1 h2
  ntrans x y z h1 h2 := by simp [strLt] at *; exact List.le_trans h2 h1
theorem strLt_total (x y : List UInt8) (h1 : strLt x y = false) (h2 : strLt y x = false) : x = y := by
  simp [strLt] at *; exact List.le_antisymm h2 h1
theorem ACall.sort_str {P : Program} {fs : FuncId} {e : TypeId} {l : List (List UInt8)} (hS : Sorts1 P fs (fun s : List UInt8 => Value.string ⟨s.toArray⟩) strLt) (hlen : l.length < 4611686018427387904) :
    ACall P fs [.hs 0 0 l.length 1] [.lst (l.map D.str) e 1] fun r H' => r = .tup [] ∧ H' = [.lst ((isort strLt l).map D.str) e 1] :=
  ACall.sort1 hS ⟨fun _ => rfl, fun x c hc => by simp [D.cells] at hc; subst hc; rfl⟩ (fun _ => rfl) strLt_swo strLt_total hlen
end
section
/- New lists with room, and cells that become data. Conditions: none. -/
open Go Go.RowKit

/-- What the library says of its Grow at nil, at this program. -/
structure Grows (P : Program) (fs : FuncId) (e : TypeId) (s bytes : Nat) : Prop where
  zero : ∀ w, Calls P fs #[.slice none 0 0, .int .i64 0] w fun r w' => r = .returned (.slice none 0 0) ∧ w' = w
  more : ∀ (n : Nat) w, 0 < n → n * bytes ≤ 140737488355328 → n ≤ 4611686018427387904 → Calls P fs #[.slice none 0 0, .int .i64 n] w fun r w' =>
    ∃ C arr, r = .returned (.slice (some ⟨w.heap.size, 0, none⟩) 0 C) ∧ w' = w.drew.alloc (.cells arr e) ∧ arr.size = C * s ∧ C ≤ 9223372036854775807
theorem ACall.grow {P : Program} {fs : FuncId} {e : TypeId} {s bytes : Nat} {H : List HE} {n : Int} (hG : Grows P fs e s bytes) (h0 : 0 ≤ n) (h1 : n * bytes ≤ 140737488355328) (h2 : n ≤ 4611686018427387904) :
    ACall P fs [.nil, .d (.int .i64 n)] H fun r H' => r = .hs H.length 0 0 s ∧ H' = H ++ [.lst [] e s] := by
  intro g w vals hw hs ha
  obtain ⟨v0, v1, rfl⟩ : ∃ v0 v1, vals = #[v0, v1] := by
    obtain ⟨vs⟩ := vals
    match vs, hs with
    | [a, b], _ => exact ⟨a, b, rfl⟩
  have r0 := ha 0 _ v0 rfl rfl
  have r1 := ha 1 _ v1 rfl rfl
  cases r0
  cases r1 with
  | d r1 =>
    cases r1
    obtain ⟨m, rfl⟩ : ∃ m : Nat, n = m := ⟨n.toNat, by omega⟩
    by_cases hm : m = 0
    · subst hm
      refine (hG.zero w).mono ?_
      rintro r w' ⟨rfl, rfl⟩
      obtain ⟨g', w1, w2, w3⟩ := hw.lstize (s := s) (e := e) (ad := none)
      exact ⟨_, _, g', _, rfl, w1, w2, .hs w3 (fun _ => ⟨rfl, rfl, rfl, Nat.le_refl _⟩), rfl, rfl⟩
    · refine (hG.more m w (by omega) (by rw [← Int.natCast_mul] at h1; omega) (by omega)).mono ?_
      rintro r w' ⟨C, arr, rfl, rfl, h3, h4⟩
      obtain ⟨g', w1, w2, w3⟩ := hw.addFree.newLst (w' := w.drew.alloc (.cells arr e)) (id := H.length) (l := []) (s := s) (cap := C) (arr := arr) (et := e) (by simp) ⟨rfl, rfl, rfl⟩ rfl (Nat.zero_le _) h4 h3 (fun k x v hx _ => by simp [D.flat] at hx)
      rw [set_last] at w1
      exact ⟨_, _, g', _, rfl, w1, w2, .hs w3 (fun _ => ⟨rfl, rfl, rfl, by omega⟩), rfl, rfl⟩
section
variable {P : Program} {ρ : Operand → V} {H : List HE} {ty : TypeId}
end

/-- Arguments as they stand, or taken for data. -/
inductive ArgsW (ρ : Operand → V) : List Operand → List V → Prop
  | nil : ArgsW ρ [] []
  | i {x : Operand} {xs : List Operand} {v : V} {vs : List V} : Is (ρ x) v → ArgsW ρ xs vs → ArgsW ρ (x :: xs) (v :: vs)
  | a {x : Operand} {xs : List Operand} {d : D} {vs : List V} : As (ρ x) d → ArgsW ρ xs vs → ArgsW ρ (x :: xs) (.d d :: vs)
theorem ArgsW.get {ρ : Operand → V} {xs : List Operand} {vs : List V} (h : ArgsW ρ xs vs) : xs.length = vs.length ∧ ∀ (i : Nat) v, vs[i]? = some v → ∃ x, xs[i]? = some x ∧ ∀ {g w r}, Rep g w (ρ x) r → Rep g w v r := by
  induction h with
  | nil => exact ⟨rfl, fun i v h => by simp at h⟩
  | i hx _ ih =>
    refine ⟨by simp [ih.1], fun i v hv => ?_⟩
    cases i with
    | zero => simp only [List.getElem?_cons_zero, Option.some.injEq] at hv; subst hv; exact ⟨_, rfl, fun h => hx.rep h⟩
    | succ i => exact ih.2 i v (by simpa using hv)
  | a hx _ ih =>
    refine ⟨by simp [ih.1], fun i v hv => ?_⟩
    cases i with
    | zero => simp only [List.getElem?_cons_zero, Option.some.injEq] at hv; subst hv; exact ⟨_, rfl, fun h => .d (hx.rep h)⟩
    | succ i => exact ih.2 i v (by simpa using hv)
section
variable {P : Program} {ρ : Operand → V} {H : List HE} {ty : TypeId}
theorem op_callW {fop : Operand} {f : FuncId} {args : Array Operand} {ts : Array TypeId} {vs : List V} {v : V} {H' : List HE} (hc : ∀ (a : Array Value) (w : World), (callFunc f a).run P w = .ok (.enter f a) w)
    (hf : Is (ρ fop) (.fn (.func f) [])) (ha : ArgsW ρ args.toList vs) (h : ACall P f vs H fun r H2 => r = v ∧ H2 = H') : OpV P (.call ⟨.value fop, args, ts⟩) ty ρ H v H' := by
  intro g w r pos after guard dst hw hx
  obtain ⟨hl, hg⟩ := ha.get
  have hmem : ∀ z, z ∈ args → z ∈ (Op.call ⟨.value fop, args, ts⟩).operands := fun z hz => by
    simp only [Op.operands, Call.operands]; exact Array.mem_append.2 (.inr hz)
  have hfr := hf.rep (hx fop (by simp [Op.operands, Call.operands]))
  generalize hrf : r fop = fv at hfr
  cases hfr with
  | @fn _ _ arr hsz hrep =>
    obtain rfl : arr = #[] := Array.eq_empty_of_size_eq_zero (by simpa using hsz)
    have hcall := h g w (args.map r) hw (by simp at hl ⊢; omega) (fun i x v hx' hv => by
      obtain ⟨y, hy, his⟩ := hg i x hx'
      simp only [Array.getElem?_map, Option.map_eq_some_iff] at hv
      obtain ⟨z, hz, rfl⟩ := hv
      rw [Array.getElem?_toList] at hy
      obtain rfl : z = y := by rw [hz] at hy; exact Option.some.inj hy
      exact his (hx z (hmem z (Array.mem_of_getElem? hz))))
    unfold OpRuns
    simp only [execOp, resolve, hrf, Deferred.ofValue, Sem.run_bind, Sem.run_pure, Result.andThen_ok, invoke, Array.empty_append, Array.append_empty, hc]
    refine hcall.mono ?_
    rintro e w' ⟨rv, res, g', H2, rfl, h1, h2, h3, rfl, rfl⟩
    exact ⟨rv, rfl, g', h1, h2, h3⟩
end

end
end Go.Proofs.YtkdefjliknpliaaGreatDoor.Ab
