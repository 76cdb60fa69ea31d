/- Laws on numbers: the same results as of the reference. Conditions: none. -/
import Derived.Test.YtagdgndoabomiaaDoorQa
namespace Go.Proofs.YtagdgndoabomiaaDoor.Ab
open Go

theorem decDigits_10 : Lib.itoa 0 = [48] ∧ Lib.itoa 10 = [49, 48] := by
  have h0 : Lib.decDigits 0 = [48] := by rw [Lib.decDigits]; rfl
  have h1 : Lib.decDigits 1 = [49] := by rw [Lib.decDigits]; rfl
  have h2 : Lib.decDigits 10 = [49, 48] := by rw [Lib.decDigits]; simp [h1]
  exact ⟨by simp [Lib.itoa, h0], by simp [Lib.itoa, h2]⟩
theorem div1 : m_nat_divide FU [51712, 15258] [10000] = some ([34464, 1], []) := by decide +kernel
theorem div2 : m_nat_divide FU [34464, 1] [10000] = some ([10], []) := by decide +kernel
theorem div3 : m_nat_divide FU [10] [10000] = some ([], [10]) := by decide +kernel
theorem pad1 : iter FU (fun s => m_nat_Show_L2 FU ([34464, 1], []) s) [48] = some [48, 48, 48, 48] := by decide +kernel
theorem pad2 : iter FU (fun s => m_nat_Show_L2 FU ([10], []) s) [48] = some [48, 48, 48, 48] := by decide +kernel
theorem pad3 : iter FU (fun s => m_nat_Show_L2 FU ([], [10]) s) [49, 48] = some [49, 48] := by decide +kernel
theorem show1 : m_nat_Show FU [51712, 15258] = some ([49, 48, 48, 48, 48, 48, 48, 48, 48, 48], 0) := by
  have z := decDigits_10
  have i0 : itoaM 0 = some [48] := by simp [itoaM, z.1]
  have i10 : itoaM 10 = some [49, 48] := by simp [itoaM, z.2]
  have d0 : m_nat_digit FU [] 0 = some 0 := rfl
  have d10 : m_nat_digit FU [10] 0 = some 10 := rfl
  have l1 : m_nat_Show_L1 FU [] [51712, 15258] = some (.inl ([48, 48, 48, 48], [34464, 1])) := by
    unfold m_nat_Show_L1
    rw [if_pos (by decide), div1, Option.bind_some, d0, Option.bind_some, i0, Option.bind_some, pad1]; rfl
  have l2 : m_nat_Show_L1 FU [48, 48, 48, 48] [34464, 1] = some (.inl ([48, 48, 48, 48, 48, 48, 48, 48], [10])) := by
    unfold m_nat_Show_L1
    rw [if_pos (by decide), div2, Option.bind_some, d0, Option.bind_some, i0, Option.bind_some, pad2]; rfl
  have l3 : m_nat_Show_L1 FU [48, 48, 48, 48, 48, 48, 48, 48] [10] = some (.inl ([49, 48, 48, 48, 48, 48, 48, 48, 48, 48], [])) := by
    unfold m_nat_Show_L1
    rw [if_pos (by decide), div3, Option.bind_some, d10, Option.bind_some, i10, Option.bind_some, pad3]; rfl
  have l4 : m_nat_Show_L1 FU [49, 48, 48, 48, 48, 48, 48, 48, 48, 48] [] = some (.inr [49, 48, 48, 48, 48, 48, 48, 48, 48, 48]) := rfl
  have hv : m_nat_Valid FU [51712, 15258] = some true := by decide +kernel
  unfold m_nat_Show
  rw [hv, Option.bind_some]
  simp only [Bool.not_true, Bool.false_eq_true, if_false]
  rw [if_neg (by decide)]
  have hi : iter FU (fun s : List UInt8 × List Int => m_nat_Show_L1 FU s.1 s.2) ([], [51712, 15258]) = some [49, 48, 48, 48, 48, 48, 48, 48, 48, 48] := by
    refine iter_to (st := fun j => match j with | 0 => ([], [51712, 15258]) | 1 => ([48, 48, 48, 48], [34464, 1]) | 2 => ([48, 48, 48, 48, 48, 48, 48, 48], [10]) | _ => ([49, 48, 48, 48, 48, 48, 48, 48, 48, 48], [])) 3 FU _ (fun j hj => ?_) l4 (by decide) rfl
    match j, hj with
    | 0, _ => exact l1
    | 1, _ => exact l2
    | 2, _ => exact l3
  rw [hi]; rfl
theorem aw1 : m_nat_Of FU 65536 = some ([0, 1], 0) := by decide +kernel
theorem aw2 : m_nat_Power FU [1000] 3 = some ([51712, 15258], 0) := by decide +kernel
theorem aw4 : m_nat_Divide FU [34464, 1] [7] = some ([14285], [5], 0) := by decide +kernel
theorem aw5 : m_nat_Valid FU [] = some true := by decide +kernel
theorem awake03 : m_law03_awake FU = some true := by
  unfold m_law03_awake
  rw [aw1, Option.bind_some, aw2, Option.bind_some]
  dsimp only
  rw [show1, Option.bind_some, aw4, Option.bind_some]
  simp [same_self, aw5]
theorem few_any {a b : List Int} : ∃ v, m_law03_few FU a b = some v := by
  unfold m_law03_few m_ref03_Few
  simp only [Option.bind_some]
  split <;> exact ⟨_, rfl⟩
end Go.Proofs.YtagdgndoabomiaaDoor.Ab
