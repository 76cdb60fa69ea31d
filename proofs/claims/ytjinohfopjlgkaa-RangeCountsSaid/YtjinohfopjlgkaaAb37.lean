/- New lists with room, and cells that become data. Conditions: none. -/
import Derived.Test.YtjinohfopjlgkaaAb36
import Derived.Test.YtjinohfopjlgkaaAb29
namespace Go.Proofs.Ytjinohfopjlgkaa.Ab
open Go Go.RowKit

/-- What the library says of its Grow at nil, at this program. -/
structure Grows (P : Program) (fs : FuncId) (e : TypeId) (s bytes : Nat) : Prop where
  zero : ∀ w, Calls P fs #[.slice none 0 0, .int .i64 0] w fun r w' => r = .returned (.slice none 0 0) ∧ w' = w
  more : ∀ (n : Nat) w, 0 < n → n * bytes ≤ 140737488355328 → n ≤ 4611686018427387904 → Calls P fs #[.slice none 0 0, .int .i64 n] w fun r w' =>
    ∃ C arr, r = .returned (.slice (some ⟨w.heap.size, 0, none⟩) 0 C) ∧ w' = w.drew.alloc (.cells arr e) ∧ arr.size = C * s ∧ C ≤ 9223372036854775807
def growM (b : Nat) (α : Type) (n : Int) : Option (List α) := if 0 ≤ n ∧ n * b ≤ 140737488355328 ∧ n ≤ 4611686018427387904 then some [] else none
theorem ACall.grow {P : Program} {fs : FuncId} {e : TypeId} {s bytes : Nat} {H : List HE} {n : Int} (hG : Grows P fs e s bytes) (h0 : 0 ≤ n) (h1 : n * bytes ≤ 140737488355328) (h2 : n ≤ 4611686018427387904) :
    ACall P fs [.nil, .d (.int .i64 n)] H fun r H' => r = .hs H.length 0 0 s ∧ H' = H ++ [.lst [] e s] := by
  intro g w vals hw hs ha
  obtain ⟨v0, v1, rfl⟩ : ∃ v0 v1, vals = #[v0, v1] := by
    obtain ⟨vs⟩ := vals
    match vs, hs with
    | [a, b], _ => exact ⟨a, b, rfl⟩
  have r0 := ha 0 _ v0 rfl rfl
  have r1 := ha 1 _ v1 rfl rfl
  cases r0
  cases r1 with
  | d r1 =>
    cases r1
    obtain ⟨m, rfl⟩ : ∃ m : Nat, n = m := ⟨n.toNat, by omega⟩
    by_cases hm : m = 0
    · subst hm
      refine (hG.zero w).mono ?_
      rintro r w' ⟨rfl, rfl⟩
      obtain ⟨g', w1, w2, w3⟩ := hw.lstize (s := s) (e := e) (ad := none)
      exact ⟨_, _, g', _, rfl, w1, w2, .hs w3 (fun _ => ⟨rfl, rfl, rfl, Nat.le_refl _⟩), rfl, rfl⟩
    · refine (hG.more m w (by omega) (by rw [← Int.natCast_mul] at h1; omega) (by omega)).mono ?_
      rintro r w' ⟨C, arr, rfl, rfl, h3, h4⟩
      obtain ⟨g', w1, w2, w3⟩ := hw.addFree.newLst (w' := w.drew.alloc (.cells arr e)) (id := H.length) (l := []) (s := s) (cap := C) (arr := arr) (et := e) (by simp) ⟨rfl, rfl, rfl⟩ rfl (Nat.zero_le _) h4 h3 (fun k x v hx _ => by simp [D.flat] at hx)
      rw [set_last] at w1
      exact ⟨_, _, g', _, rfl, w1, w2, .hs w3 (fun _ => ⟨rfl, rfl, rfl, by omega⟩), rfl, rfl⟩
section
variable {P : Program} {ρ : Operand → V} {H : List HE} {ty : TypeId}
theorem op_growM {α : Type} {f : α → D} {r : List α} {fop x y : Operand} {fs : FuncId} {ts : Array TypeId} {e : TypeId} {s bytes n : Nat} {a : Int} (hc : ∀ (a : Array Value) (w : World), (callFunc fs a).run P w = .ok (.enter fs a) w)
    (hf : Is (ρ fop) (.fn (.func fs) [])) (hx : Is (ρ x) .nil) (hy : Is (ρ y) (.d (.int .i64 a))) (hG : Grows P fs e s bytes) (hn : H.length = n) (hv : growM bytes α a = some r) :
    OpV P (.call ⟨.value fop, #[x, y], ts⟩) ty ρ H (.hs n 0 r.length s) (H ++ [.lst (r.map f) e s]) := by
  subst hn
  unfold growM at hv
  split at hv
  · rename_i h
    injection hv with hv; subst hv
    exact op_call hc hf (.cons hx (.cons hy .nil)) (ACall.grow hG h.1 h.2.1 h.2.2)
  · cases hv
end

/-- Arguments as they stand, or taken for data. -/
inductive ArgsW (ρ : Operand → V) : List Operand → List V → Prop
  | nil : ArgsW ρ [] []
  | i {x : Operand} {xs : List Operand} {v : V} {vs : List V} : Is (ρ x) v → ArgsW ρ xs vs → ArgsW ρ (x :: xs) (v :: vs)
  | a {x : Operand} {xs : List Operand} {d : D} {vs : List V} : As (ρ x) d → ArgsW ρ xs vs → ArgsW ρ (x :: xs) (.d d :: vs)
theorem ArgsW.get {ρ : Operand → V} {xs : List Operand} {vs : List V} (h : ArgsW ρ xs vs) : xs.length = vs.length ∧ ∀ (i : Nat) v, vs[i]? = some v → ∃ x, xs[i]? = some x ∧ ∀ {g w r}, Rep g w (ρ x) r → Rep g w v r := by
  induction h with
  | nil => exact ⟨rfl, fun i v h => by simp at h⟩
  | i hx _ ih =>
    refine ⟨by simp [ih.1], fun i v hv => ?_⟩
    cases i with
    | zero => simp only [List.getElem?_cons_zero, Option.some.injEq] at hv; subst hv; exact ⟨_, rfl, fun h => hx.rep h⟩
    | succ i => exact ih.2 i v (by simpa using hv)
  | a hx _ ih =>
    refine ⟨by simp [ih.1], fun i v hv => ?_⟩
    cases i with
    | zero => simp only [List.getElem?_cons_zero, Option.some.injEq] at hv; subst hv; exact ⟨_, rfl, fun h => .d (hx.rep h)⟩
    | succ i => exact ih.2 i v (by simpa using hv)
section
variable {P : Program} {ρ : Operand → V} {H : List HE} {ty : TypeId}
theorem op_callW {fop : Operand} {f : FuncId} {args : Array Operand} {ts : Array TypeId} {vs : List V} {v : V} {H' : List HE} (hc : ∀ (a : Array Value) (w : World), (callFunc f a).run P w = .ok (.enter f a) w)
    (hf : Is (ρ fop) (.fn (.func f) [])) (ha : ArgsW ρ args.toList vs) (h : ACall P f vs H fun r H2 => r = v ∧ H2 = H') : OpV P (.call ⟨.value fop, args, ts⟩) ty ρ H v H' := by
  intro g w r pos after guard dst hw hx
  obtain ⟨hl, hg⟩ := ha.get
  have hmem : ∀ z, z ∈ args → z ∈ (Op.call ⟨.value fop, args, ts⟩).operands := fun z hz => by
    simp only [Op.operands, Call.operands]; exact Array.mem_append.2 (.inr hz)
  have hfr := hf.rep (hx fop (by simp [Op.operands, Call.operands]))
  generalize hrf : r fop = fv at hfr
  cases hfr with
  | @fn _ _ arr hsz hrep =>
    obtain rfl : arr = #[] := Array.eq_empty_of_size_eq_zero (by simpa using hsz)
    have hcall := h g w (args.map r) hw (by simp at hl ⊢; omega) (fun i x v hx' hv => by
      obtain ⟨y, hy, his⟩ := hg i x hx'
      simp only [Array.getElem?_map, Option.map_eq_some_iff] at hv
      obtain ⟨z, hz, rfl⟩ := hv
      rw [Array.getElem?_toList] at hy
      obtain rfl : z = y := by rw [hz] at hy; exact Option.some.inj hy
      exact his (hx z (hmem z (Array.mem_of_getElem? hz))))
    unfold OpRuns
    simp only [execOp, resolve, hrf, Deferred.ofValue, Sem.run_bind, Sem.run_pure, Result.andThen_ok, invoke, Array.empty_append, Array.append_empty, hc]
    refine hcall.mono ?_
    rintro e w' ⟨rv, res, g', H2, rfl, h1, h2, h3, rfl, rfl⟩
    exact ⟨rv, rfl, g', h1, h2, h3⟩
/-- A call that leaves the heap as it is, with arguments taken for data. -/
theorem op_callQW {fop : Operand} {f : FuncId} {args : Array Operand} {ts : Array TypeId} {vs : List V} {r0 : V} (hc : ∀ (a : Array Value) (w : World), (callFunc f a).run P w = .ok (.enter f a) w)
    (hf : Is (ρ fop) (.fn (.func f) [])) (ha : ArgsW ρ args.toList vs) (h : ACall P f vs [] fun r H' => r = r0 ∧ H' = []) (hargs : vs = vs.map (V.rn (glob [] H.length)))
    (ha0 : vs.all V.simple = true) (hr0 : r0.simple = true) (hv : r0.rn (glob [] H.length) = r0) :
    OpV P (.call ⟨.value fop, args, ts⟩) ty ρ H r0 H := by
  refine op_callW hc hf ha ?_
  rw [hargs]
  have hin : InH H (glob [] H.length) [] [] := .nil
  refine (h.frame [] hin.get.1 rfl hin.get.2 rfl ha0 (fun r H' ⟨h1, h2⟩ => by subst h1; subst h2; exact ⟨hr0, rfl, Nat.le_refl _⟩)).mono ?_
  rintro r H' ⟨r0', H0', ⟨rfl, rfl⟩, h3, h4⟩
  exact ⟨h3.trans hv, h4.trans (by simp [mergeH, setAll])⟩
end

/-- Cells that a call has left behind, taken for data from now on. -/
theorem WOK.belowP {g : G} {w w' : World} {H : List HE} (hw : WOK g w H) (hb : Below w.heap.size w w') (S : Nat → Nat → Prop) (hS : ∀ b o, S b o → w.heap.size ≤ b ∧ b < w'.heap.size) :
    ∃ g', WOK g' w' H ∧ Evo g w g' w' ∧ (∀ b o, g'.Pr b o ↔ g.Pr b o ∨ S b o) := by
  have hcell : ∀ b o, b < w.heap.size → w'.cell? ⟨b, o, none⟩ = w.cell? ⟨b, o, none⟩ := fun b o h => hb.cell (p := ⟨b, o, none⟩) h
  let g' : G := { σ := g.σ, τ := g.τ, υ := g.υ, X := g.X, Pr := fun b o => g.Pr b o ∨ S b o }
  have hev : Evo g w g' w' := {
    same := ⟨hb.os, hb.tape, hb.output⟩
    size := hb.size
    pr := fun b o h => ⟨.inl h, hcell b o (hw.pr b o h)⟩
    prn := fun b o h => h.imp (fun h => h) (fun h => .inr (hS b o h).1)
    x := fun b h => .inl h
    keep := fun b h _ => hb.block b h
    σ := fun _ _ h => h
    τ := fun _ m a cap h => ⟨m, a, cap, h, .inr ⟨rfl, rfl, rfl⟩⟩ }
  have hnX : ∀ b o, g.X b → ¬ S b o := fun b o hx hs => by have := hw.xs b hx; have := (hS b o hs).1; omega
  refine ⟨g', ⟨fun b o h => ?_, fun b h => Nat.lt_of_lt_of_le (hw.xs b h) hb.size, hw.blk, hw.sep, fun id c hc => ?_, fun id n e s hc => ?_, fun id l e s hc => ?_, fun id x hc => ?_, hw.free, hw.kcE hev⟩, hev, fun _ _ => Iff.rfl⟩
  · rcases h with h | h
    · exact Nat.lt_of_lt_of_le (hw.pr b o h) hb.size
    · exact (hS b o h).2
  · obtain ⟨b, arr, et, e1, e2, e3, e4, e5⟩ := hw.row id c hc
    have hX := hw.blk id _ b hc e1
    exact ⟨b, arr, et, e1, (hb.block b (hw.xs b hX)).trans e2, e3, fun k x v hx hv => (e4 k x v hx hv).mono hev, fun o h => h.elim (e5 o) (hnX b o hX)⟩
  · obtain ⟨a, cap, k1, k2, k3, k4⟩ := hw.tok id n e s hc
    refine ⟨a, cap, k1, k2, k3, fun hlt => ?_⟩
    obtain ⟨b, arr, q1, q2, q3, q4⟩ := k4 hlt
    have hX : g.X b := hw.blk id _ b hc (by simp [G.blk, k1, hlt, q1])
    exact ⟨b, arr, q1, (hb.block b (hw.xs b hX)).trans q2, q3, fun o h => h.elim (q4 o) (fun h => (hnX b o hX h).elim)⟩
  · obtain ⟨a, cap, k1, k2, k3, k4⟩ := hw.lst id l e s hc
    refine ⟨a, cap, k1, k2, k3, fun hlt => ?_⟩
    obtain ⟨b, arr, q1, q0, q2, q3, q4, q5⟩ := k4 hlt
    have hX : g.X b := hw.blk id _ b hc (by simp [G.blk, k1, hlt, q1])
    exact ⟨b, arr, q1, q0, (hb.block b (hw.xs b hX)).trans q2, q3, fun o h => h.elim (q4 o) (hnX b o hX), fun k x v hx hv => (q5 k x v hx hv).mono hev.pr⟩
  · obtain ⟨b, q1, q2, q3, q4⟩ := hw.ob id x hc
    have hX := hw.blk id _ b hc (.inl q1)
    exact ⟨b, q1, x.st hev rfl rfl (hb.block b (hw.xs b hX)) (fun b' hu => hb.block b' (hw.xs b' (hw.blk id _ b' hc (.inr hu)))) q2, fun o h => h.elim (q3 o) (hnX b o hX),
      fun b' o hu h => h.elim (q4 b' o hu) (hnX b' o (hw.blk id _ b' hc (.inr hu)))⟩
end Go.Proofs.Ytjinohfopjlgkaa.Ab
