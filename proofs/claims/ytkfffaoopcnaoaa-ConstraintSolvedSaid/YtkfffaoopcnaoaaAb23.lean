/- Pieces of lists that are written in place, and 'copy' into them. Conditions: none. -/
import Derived.Test.YtkfffaoopcnaoaaAb22
import Derived.Scope
namespace Go.Proofs.Ytkfffaoopcnaoaa.Ab
open Go

theorem slc_le {α : Type} {l r : List α} {lo hi : Int} (h : slc l lo hi = some r) : lo.toNat + r.length ≤ l.length := by
  unfold slc at h
  split at h
  · injection h with h; subst h; simp; omega
  · cases h
section
variable {P : Program} {ρ : Operand → V} {H : List HE} {ty : TypeId}

theorem op_sliceH {α : Type} {f : α → D} {l r : List α} {x : Operand} {t e s bytes id len : Nat} {lo hi : Int} {a b : Option Operand} (hx : Is (ρ x) (.hs id 0 len s)) (hH : H[id]? = some (.lst (l.map f) e s)) (hl : l.length = len) (ht : SlT P t e s bytes) (ha : loM ρ a lo) (hb : hiM ρ len b hi)
    (hv : slc l lo hi = some r) : OpV P (.slice t x a b none) ty ρ H (.hs id lo.toNat r.length s) H := by
  unfold slc at hv
  split at hv
  · rename_i hc
    injection hv with hv
    have hrl : r.length = hi.toNat - lo.toNat := by subst hv; simp; omega
    clear hv
    refine OpV.of_val fun g w rr hw h => ?_
    have h1 := hx.rep (h x (by cases a <;> cases b <;> simp [Op.operands]))
    obtain ⟨ad, cap, k1, k2, k3, _⟩ := hw.lst id _ _ _ hH
    rename_i k4; clear k4
    simp only [List.length_map] at k2
    obtain ⟨ie, z, hie, hsz, _⟩ := ht.i
    generalize hr : rr x = u at h1
    cases h1 with
    | @hs _ _ _ _ m cap' n0 c0 a' a0 p1 p2 =>
      rw [k1] at p1; injection p1 with p1; injection p1 with p1 p3
      injection p3 with p3 p4
      obtain ⟨r1, r2, r3, r4⟩ := hs0 (p2 p1.symm)
      subst r1; subst r3; subst p3; subst p4; subst r2
      have hlo : ∀ (z : Value) (y : Nat), z = .int .i64 lo → lo.toNat ≤ y → (Instr.sliceBound z y .sliceB).run P w = .ok lo.toNat w := fun z y hz hy => by
        subst hz
        simp only [Instr.sliceBound, asIntOf, Sem.run_bind, Sem.run_pure, Result.andThen_ok]
        rw [if_pos (by omega)]; rfl
      have hhi : ∀ (z : Value) (y : Nat), z = .int .i64 hi → hi.toNat ≤ y → (Instr.sliceBound z y .sliceAcap).run P w = .ok hi.toNat w := fun z y hz hy => by
        subst hz
        simp only [Instr.sliceBound, asIntOf, Sem.run_bind, Sem.run_pure, Result.andThen_ok]
        rw [if_pos (by omega)]; rfl
      have hcaphi : hi.toNat ≤ cap := by omega
      have hres : (if cap = lo.toNat then ad else ad.map (·.add (lo.toNat * s))) = subA ad cap lo.toNat s := by
        unfold subA
        by_cases h0 : lo.toNat = 0
        · rw [h0]; simp only [Nat.zero_mul, if_true]
          split
          · rfl
          · cases ad <;> simp [Addr.add]
        · rw [if_neg h0]
      refine ⟨.slice (subA ad cap lo.toNat s) (hi.toNat - lo.toNat) (cap - lo.toNat), fun _ _ _ _ => ?_, ?_⟩
      · cases a with
        | none =>
          have h0 : lo = 0 := ha
          subst h0
          simp only [Int.toNat_zero, Nat.zero_mul] at hres
          cases b with
          | none =>
            have h0 : hi = _ := hb
            subst h0
            simp [execOp, Instr.sliceAt, Instr.slice, Instr.sliceBounds, run_underlying ht.u, hr, run_sizeOf' hie, hsz, hres]
          | some y =>
            have h2 := As.int hb (h y (by simp [Op.operands]))
            simp [execOp, Instr.sliceAt, Instr.slice, Instr.sliceBounds, run_underlying ht.u, hr, run_sizeOf' hie, hsz, hhi _ _ h2 hcaphi, hres]
        | some z =>
          have h1 := As.int ha (h z (by cases b <;> simp [Op.operands]))
          cases b with
          | none =>
            have h0 : hi = _ := hb
            subst h0
            simp [execOp, Instr.sliceAt, Instr.slice, Instr.sliceBounds, run_underlying ht.u, hr, run_sizeOf' hie, hsz, hlo _ _ h1 (show lo.toNat ≤ n0 by omega), hres]
          | some y =>
            have h2 := As.int hb (h y (by simp [Op.operands]))
            simp [execOp, Instr.sliceAt, Instr.slice, Instr.sliceBounds, run_underlying ht.u, hr, run_sizeOf' hie, hsz, hhi _ _ h2 hcaphi, hlo _ _ h1 (show lo.toNat ≤ hi.toNat by omega), hres]
      · exact .hs k1 (fun _ => ⟨rfl, hrl.symm, rfl, by omega⟩)
  · cases hv

end

/- Code whose labels nobody jumps to. -/
section
variable {P : Program} {ρ : Operand → V} {H : List HE} {ty : TypeId}
end

/-- A slot's value is taken for data. -/
theorem AL.toD {F : FC} {K : St → Prop} {ops : Array Oper} {os : List Oper} {E : Nat → V} {H : List HE} (t : Nat) {x : D} (h : (E t).asD = some x) (k : AL F ops K os ⟨upd E t (.d x), H⟩) : AL F ops K os ⟨E, H⟩ := by
  rintro a w ⟨h1, h2, g, h3, h4, h5⟩
  refine k a w ⟨h1, h2, g, h3, h4, fun i => ?_⟩
  by_cases hi : i = t
  · subst hi
    show Rep g w (upd E i (.d x) i) _
    rw [upd_same]
    exact .d ((h5 i).asD h)
  · show Rep g w (upd E t (.d x) i) _
    rw [upd_ne _ _ hi]; exact h5 i
end Go.Proofs.Ytkfffaoopcnaoaa.Ab
