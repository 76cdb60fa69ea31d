/- Texts: pieces of them, bytes as a text, their order. Conditions: none. -/
import Derived.Test.YtgcmhhcopeiomaaAb16
import Derived.Laws.BytesArg
namespace Go.Proofs.Ytgcmhhcopeiomaa.Ab
open Go

def textL (l : List Int) : List UInt8 := l.map fun n => UInt8.ofNat n.toNat
abbrev ltS (a b : List UInt8) : Bool := Go.Op.bytesLess a b
section
variable {P : Program} {ρ : Operand → V} {H : List HE} {ty : TypeId} {x y : Operand} {t u : TypeId} {s s' : List UInt8}
theorem op_textM {l : List Int} {e : TypeId} (hx : As (ρ x) (.sl (l.map (D.int .u8)))) (ht : P.underlying t = some (.slice e)) (hu : P.underlying u = some .string) (he : P.underlying e = some (.int .u8)) :
    OpV P (.convert t u x) ty ρ H (.d (.str (textL l))) H :=
  OpV.of_val fun g w r _ h => ⟨.string ⟨(textL l).toArray⟩, fun _ _ _ _ => by
    have h1 := hx.rep (h x (by simp [Op.operands]))
    generalize hr : r x = v at h1
    cases h1 with
    | sl _ a cap s' f hs' hcap hrow hrep =>
      simp only [List.length_map] at hcap hr
      by_cases hl : l = []
      · subst hl
        cases a with
        | none => simp [execOp, hr, run_convert_bytes_nil w t e ht he _ _ u hu, textL]; rfl
        | some ad =>
          have := run_convert_bytes_string (P := P) w t u e (some ad) 0 cap ht he hu
          simp at hr
          simp [execOp, hr, this, Conv.bytesToString, textL]
          rfl
      · have hs1 : s' = 1 := by
          obtain ⟨c, hc⟩ := List.exists_mem_of_ne_nil l hl
          exact (hs' (.int .u8 c) (List.mem_map.2 ⟨c, hc, rfl⟩)).symm
        subst hs1
        obtain ⟨b, o, rfl, hk⟩ := hrow (by simpa using hl)
        have hflat : D.flat (l.map (D.int .u8)) = l.map (D.int .u8) := flat_one (fun x hx => by obtain ⟨c, _, rfl⟩ := List.mem_map.1 hx; rfl)
        have := run_convert_bytes_arg (P := P) w t e ht he b o l.length cap l rfl (fun i hi => by
          have h2 := (hk i (by simpa using hi)).2
          have h3 := hrep i (.int .u8 (l.getD i 0)) (by rw [hflat]; simp [List.getD, hi])
          rw [h2]
          generalize f i = fv at h3
          cases h3
          rfl) u hu
        simp [execOp, hr, this]
        rfl, .d (.str _)⟩
theorem op_lssS (hx : As (ρ x) (.str s)) (hy : As (ρ y) (.str s')) : OpV P (.binOp .lss t x y u) ty ρ H (.d (.bool (ltS s s'))) H :=
  OpV.of_val fun _ _ _ _ h => ⟨.bool (ltS s s'), fun _ _ _ _ => by simp [execOp, hx.str (h x (by simp [Op.operands])), hy.str (h y (by simp [Op.operands])), eqGuard, binOp, Op.stringOp], .d (.bool _)⟩
theorem op_geqS (hx : As (ρ x) (.str s)) (hy : As (ρ y) (.str s')) : OpV P (.binOp .geq t x y u) ty ρ H (.d (.bool (!ltS s s'))) H :=
  OpV.of_val fun _ _ _ _ h => ⟨.bool (!ltS s s'), fun _ _ _ _ => by simp [execOp, hx.str (h x (by simp [Op.operands])), hy.str (h y (by simp [Op.operands])), eqGuard, binOp, Op.stringOp], .d (.bool _)⟩
theorem op_leqS (hx : As (ρ x) (.str s)) (hy : As (ρ y) (.str s')) : OpV P (.binOp .leq t x y u) ty ρ H (.d (.bool (ltS s s' || decide (s = s')))) H :=
  OpV.of_val fun _ _ _ _ h => ⟨.bool (ltS s s' || decide (s = s')), fun _ _ _ _ => by simp [execOp, hx.str (h x (by simp [Op.operands])), hy.str (h y (by simp [Op.operands])), eqGuard, binOp, Op.stringOp, beqL_dec], .d (.bool _)⟩
theorem op_gtrS (hx : As (ρ x) (.str s)) (hy : As (ρ y) (.str s')) : OpV P (.binOp .gtr t x y u) ty ρ H (.d (.bool (!(ltS s s' || decide (s = s'))))) H :=
  OpV.of_val fun _ _ _ _ h => ⟨.bool (!(ltS s s' || decide (s = s'))), fun _ _ _ _ => by simp [execOp, hx.str (h x (by simp [Op.operands])), hy.str (h y (by simp [Op.operands])), eqGuard, binOp, Op.stringOp, beqL_dec], .d (.bool _)⟩
theorem op_sliceSM {r : List UInt8} {lo hi : Int} {a b : Option Operand} (hx : As (ρ x) (.str s)) (ht : P.underlying t = some .string) (ha : loM ρ a lo) (hb : hiM ρ s.length b hi) (hv : slc s lo hi = some r) :
    OpV P (.slice t x a b none) ty ρ H (.d (.str r)) H := by
  unfold slc at hv
  split at hv
  · rename_i hc
    injection hv with hv; subst hv
    refine OpV.of_val fun g w r _ h => ⟨.string ⟨((s.take hi.toNat).drop lo.toNat).toArray⟩, fun _ _ _ _ => ?_, .d (.str _)⟩
    have hxs := hx.str (h x (by cases a <;> cases b <;> simp [Op.operands]))
    have hex : (⟨s.toArray⟩ : ByteArray).extract lo.toNat hi.toNat = ⟨((s.take hi.toNat).drop lo.toNat).toArray⟩ := by
      apply ByteArray.ext
      simp [List.extract_eq_take_drop, List.take_drop, Nat.add_sub_cancel' (show lo.toNat ≤ hi.toNat by omega)]
    have hlo : ∀ (z : Value) (y : Nat), z = .int .i64 lo → lo.toNat ≤ y → (Instr.sliceBound z y .sliceB).run P w = .ok lo.toNat w := fun z y hz hy => by
      subst hz
      simp only [Instr.sliceBound, asIntOf, Sem.run_bind, Sem.run_pure, Result.andThen_ok]
      rw [if_pos (by omega)]; rfl
    have hhi : ∀ (z : Value) (y : Nat), z = .int .i64 hi → hi.toNat ≤ y → (Instr.sliceBound z y .sliceAlen).run P w = .ok hi.toNat w := fun z y hz hy => by
      subst hz
      simp only [Instr.sliceBound, asIntOf, Sem.run_bind, Sem.run_pure, Result.andThen_ok]
      rw [if_pos (by omega)]; rfl
    have hle : hi.toNat ≤ s.length := by omega
    cases a with
    | none =>
      have h0 : lo = 0 := ha
      subst h0
      cases b with
      | none =>
        have h0 : hi = (s.length : Int) := hb
        subst h0
        simp [execOp, Instr.sliceAt, Instr.slice, Instr.sliceBounds, run_underlying ht, hxs, ba_size]
      | some y =>
        have h2 := As.int hb (h y (by simp [Op.operands]))
        simp [execOp, Instr.sliceAt, Instr.slice, Instr.sliceBounds, run_underlying ht, hxs, ba_size, hhi _ _ h2 hle]
        simpa using hex
    | some z =>
      have h1 := As.int ha (h z (by cases b <;> simp [Op.operands]))
      cases b with
      | none =>
        have h0 : hi = (s.length : Int) := hb
        subst h0
        simp [execOp, Instr.sliceAt, Instr.slice, Instr.sliceBounds, run_underlying ht, hxs, ba_size, hlo _ _ h1 (show lo.toNat ≤ s.length by omega)]
        simpa using hex
      | some y =>
        have h2 := As.int hb (h y (by simp [Op.operands]))
        simp [execOp, Instr.sliceAt, Instr.slice, Instr.sliceBounds, run_underlying ht, hxs, ba_size, hhi _ _ h2 hle, hlo _ _ h1 (show lo.toNat ≤ hi.toNat by omega)]
        simpa using hex
  · cases hv
end
end Go.Proofs.Ytgcmhhcopeiomaa.Ab
