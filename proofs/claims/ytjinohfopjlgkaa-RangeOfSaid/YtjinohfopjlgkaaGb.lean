/- The functions do what they are in plain Lean. Conditions: none. -/
import Derived.Test.YtjinohfopjlgkaaTy
import Derived.Test.YtjinohfopjlgkaaMi
import Derived.Test.YtjinohfopjlgkaaFc
set_option maxRecDepth 100000
namespace Go.Proofs.Ytjinohfopjlgkaa.Ab
open Go
attribute [local irreducible] AL AD AW nlO nlV nlD

set_option maxHeartbeats 20000000 in
theorem m_law42_RangeOf_ok {n : Nat} {a1 : (List SItem)} {r : Bool} (hm : m_law42_RangeOf n a1 = some r) : Fn Try.prog 4 [(.sl (a1.map SItem.e))] (.bool r) := by
  unfold m_law42_RangeOf at hm
  refine Fn.of_AW (fnn := Try.f4) Try.func4 rfl (Nat.le_of_ble_eq_true rfl) (fun g0 w0 hw0 => ?_)
  refine AW.reset 0 [(0, .d (.sl (a1.map SItem.e)))] [] (WOK.g0 hw0 (by simp)) ⟨[], rfl, rfl, rfl, ⟨(.d rfl), trivial⟩, trivial, .nil⟩ ?_
  refine AW.seqR ?_
  refine AL.s rfl (op_assignD (.e rfl)) ?_
  refine AL.nil ?_
  refine AW.seq ?_
  refine AW.seqR ?_
  obtain ⟨v2, hv2, hm⟩ := bindE hm
  refine AL.s rfl (op_fn Try.call9 (.e rfl) .nil (m_law42_awake_ok hv2)) ?_
  refine AL.s rfl (op_not (.r rfl)) ?_
  refine AL.nil ?_
  refine AW.cond (b := _) rfl (fun hc1 => ?_) (fun hc1 => ?_)
  · replace hm := iteT hc1 hm
    refine AW.seqR ?_
    refine AL.s rfl (op_assignD (.e rfl)) ?_
    refine AL.nil ?_
    refine AW.ret ?_
    refine tq_ret ?_
    obtain rfl := Option.some.inj hm
    exact EndQ.d (.tmp (.e rfl) .nil) rfl rfl
  · replace hm := iteF hc1 hm
    refine AW.skip ?_
    refine nq ?_
    refine AW.seq ?_
    refine AW.seqR ?_
    refine AL.s rfl (op_moveD (.e rfl)) ?_
    refine AL.s rfl (op_lenM (f := SItem.e) (.r rfl) sl24) ?_
    refine AL.s rfl (op_gtr (.r rfl) (.r rfl)) ?_
    refine AL.nil ?_
    refine AW.cond (b := _) rfl (fun hc2 => ?_) (fun hc2 => ?_)
    · replace hm := iteT hc2 hm
      refine AW.seqR ?_
      refine AL.s rfl (op_assignD (.e rfl)) ?_
      refine AL.nil ?_
      refine AW.ret ?_
      refine tq_ret ?_
      obtain rfl := Option.some.inj hm
      exact EndQ.d (.tmp (.e rfl) .nil) rfl rfl
    · replace hm := iteF hc2 hm
      refine AW.skip ?_
      refine nq ?_
      refine AW.seqR ?_
      refine AL.s rfl (op_moveD (.e rfl)) ?_
      obtain ⟨v3, hv3, hm⟩ := bindE hm
      refine AL.s rfl (op_fn Try.call14 (.e rfl) (.cons (.r rfl) .nil) (m_law42_ours_ok hv3)) ?_
      obtain ⟨v4, hv4, hm⟩ := bindE hm
      refine AL.s rfl (op_fn Try.call13 (.e rfl) (.cons (.r rfl) .nil) (m_rangeindex_Of_ok hv4)) ?_
      refine AL.s rfl (op_moveD (.e rfl)) ?_
      refine AL.s rfl (op_extractD (.e rfl) rfl) ?_
      refine AL.s rfl (op_extractD (.e rfl) rfl) ?_
      refine AL.s rfl (op_alloc (n := 0) zr28 rfl) ?_
      refine AL.s rfl (op_store (.e rfl) (.e rfl) rfl rfl rfl ⟨_, rfl, rfl⟩ rfl (Nat.le_of_ble_eq_true rfl)) ?_
      refine AL.s rfl (op_assignD (.e rfl)) ?_
      refine AL.nil ?_
      refine AW.seqR ?_
      refine AL.s rfl (op_moveD (.e rfl)) ?_
      obtain ⟨v5, hv5, hm⟩ := bindE hm
      refine AL.s rfl (op_fn Try.call15 (.e rfl) (.cons (.r rfl) .nil) (m_ref42_Of_ok hv5)) ?_
      refine AL.s rfl (op_moveD (.e rfl)) ?_
      refine AL.s rfl (op_extractD (.e rfl) rfl) ?_
      refine AL.s rfl (op_extractD (.e rfl) rfl) ?_
      refine AL.s rfl (op_assignD (.e rfl)) ?_
      refine AL.s rfl (op_assignD (.e rfl)) ?_
      refine AL.nil ?_
      refine AW.seqR ?_
      refine AL.s rfl (op_moveD (.e rfl)) ?_
      refine AL.s rfl (op_moveD (.e rfl)) ?_
      refine AL.s rfl (op_eql (.r rfl) (.r rfl)) ?_
      refine AL.s rfl (op_moveD (.e rfl)) ?_
      refine AL.sT rfl rfl rfl rfl (fun g => op_load_ptrA (.e rfl) rfl rfl rfl ag28) ?_
      obtain ⟨v6, hv6, hm⟩ := bindE hm
      refine AL.sT rfl rfl rfl rfl (fun g => op_fn Try.call17 (.e rfl) (.cons (.we g rfl rfl) .nil) (m_law42_items_ok (iteT g hv6))) ?_
      refine AL.sT rfl rfl rfl rfl (fun g => op_moveD (.e rfl)) ?_
      obtain ⟨v7, hv7, hm⟩ := bindE hm
      refine AL.sT rfl rfl rfl rfl (fun g => op_fn Try.call16 (.e rfl) (.cons (.we g rfl rfl) (.cons (.we g rfl rfl) .nil)) (m_ref42_Same_ok (iteT g hv7))) ?_
      refine AL.s rfl (op_and (.r rfl) (fun h => (.we h rfl rfl)) rfl) ?_
      refine AL.s rfl (op_moveD (.e rfl)) ?_
      refine AL.sT rfl rfl rfl rfl (fun g => op_moveD (.e rfl)) ?_
      refine AL.sT rfl rfl rfl rfl (fun g => op_neq (.we g rfl rfl) (.r rfl)) ?_
      refine AL.sT rfl rfl rfl rfl (fun g => op_moveD (.we g rfl)) ?_
      refine AL.sFF rfl rfl rfl rfl (fun gp g => op_load_ptrA (.e rfl) rfl rfl rfl ag28) ?_
      obtain ⟨v8, hv8, hm⟩ := bindE hm
      refine AL.sFF rfl rfl rfl rfl (fun gp g => op_fn Try.call10 (.e rfl) (.cons (.we (an gp (nt g)) rfl rfl) .nil) (m_rangeindex_Valid_ok (iteT (an gp (nt g)) hv8))) ?_
      refine AL.sT rfl rfl rfl rfl (fun g => op_or (.we g rfl rfl) rfl (fun h => (.we (an g (nt h)) rfl rfl))) ?_
      refine AL.s rfl (op_and (.r rfl) (fun h => (.we h rfl rfl)) rfl) ?_
      refine AL.s rfl (op_assignD (.e rfl)) ?_
      refine AL.nil ?_
      refine AW.ret ?_
      obtain rfl := Option.some.inj hm
      exact EndQ.d (.tmp (.e rfl) .nil) rfl rfl

end Go.Proofs.Ytjinohfopjlgkaa.Ab
