/- Texts: pieces of them, bytes as a text, their order. Conditions: none. -/
import Derived.Test.YtgcmhhcopeiomaaGreatDoorAb16
import Derived.Laws.BytesArg
namespace Go.Proofs.YtgcmhhcopeiomaaGreatDoor.Ab
open Go

def textL (l : List Int) : List UInt8 := l.map fun n => UInt8.ofNat n.toNat
abbrev ltS (a b : List UInt8) : Bool := Go.Op.bytesLess a b
section
variable {P : Program} {ρ : Operand → V} {H : List HE} {ty : TypeId} {x y : Operand} {t u : TypeId} {s s' : List UInt8}
theorem op_textM {l : List Int} {e : TypeId} (hx : As (ρ x) (.sl (l.map (D.int .u8)))) (ht : P.underlying t = some (.slice e)) (hu : P.underlying u = some .string) (he : P.underlying e = some (.int .u8)) :
    OpV P (.convert t u x) ty ρ H (.d (.str (textL l))) H :=
  OpV.of_val fun g w r _ h => ⟨.string ⟨(textL l).toArray⟩, fun _ _ _ _ => by
    have h1 := hx.rep (h x (by simp [Op.operands]))
    generalize hr : r x = v at h1
    cases h1 with
    | sl _ a cap s' f hs' hcap hrow hrep =>
      simp only [List.length_map] at hcap hr
      by_cases hl : l = []
      · subst hl
        cases a with
        | none => simp [execOp, hr, run_convert_bytes_nil w t e ht he _ _ u hu, textL]; rfl
        | some ad =>
          have := run_convert_bytes_string (P := P) w t u e (some ad) 0 cap ht he hu
          simp at hr
          simp [execOp, hr, this, Conv.bytesToString, textL]
          rfl
      · have hs1 : s' = 1 := by
          obtain ⟨c, hc⟩ := List.exists_mem_of_ne_nil l hl
          exact (hs' (.int .u8 c) (List.mem_map.2 ⟨c, hc, rfl⟩)).symm
        subst hs1
        obtain ⟨b, o, rfl, hk⟩ := hrow (by simpa using hl)
        have hflat : D.flat (l.map (D.int .u8)) = l.map (D.int .u8) := flat_one (fun x hx => by obtain ⟨c, _, rfl⟩ := List.mem_map.1 hx; rfl)
        have := run_convert_bytes_arg (P := P) w t e ht he b o l.length cap l rfl (fun i hi => by
          have h2 := (hk i (by simpa using hi)).2
          have h3 := hrep i (.int .u8 (l.getD i 0)) (by rw [hflat]; simp [List.getD, hi])
          rw [h2]
          generalize f i = fv at h3
          cases h3
          rfl) u hu
        simp [execOp, hr, this]
        rfl, .d (.str _)⟩
theorem op_leqS (hx : As (ρ x) (.str s)) (hy : As (ρ y) (.str s')) : OpV P (.binOp .leq t x y u) ty ρ H (.d (.bool (ltS s s' || decide (s = s')))) H :=
  OpV.of_val fun _ _ _ _ h => ⟨.bool (ltS s s' || decide (s = s')), fun _ _ _ _ => by simp [execOp, hx.str (h x (by simp [Op.operands])), hy.str (h y (by simp [Op.operands])), eqGuard, binOp, Op.stringOp, beqL_dec], .d (.bool _)⟩
end
end Go.Proofs.YtgcmhhcopeiomaaGreatDoor.Ab
