/- The functions do what they are in plain Lean. Conditions: none. -/
import Derived.Test.YtkfffaoopcnaoaaTy
import Derived.Test.YtkfffaoopcnaoaaMi
import Derived.Test.YtkfffaoopcnaoaaFa
set_option maxRecDepth 100000
namespace Go.Proofs.Ytkfffaoopcnaoaa.Ab
open Go
attribute [local irreducible] AL AD AW nlO nlV nlD

set_option maxHeartbeats 20000000 in
theorem m_constraint_Group_1_ok {n : Nat} {a1 : Int} {c2 : (List (Int × Int))} {c3 : Int} {r : Bool} (hm : m_constraint_Group_1 n a1 c2 c3 = some r) : ACall Try.prog 46 [.d (.int .i64 a1), .ptr 0 0, .ptr 2 0] [.row [.mp 1], .ob (mpO (c2.map (fun q => ((.int .i64 q.1), (.int .i64 q.2))))), .row [.d (.int .i64 c3)]] fun r' H' => r' = resOf [.d (.bool r)] ∧ H' = [.row [.mp 1], .ob (mpO (c2.map (fun q => ((.int .i64 q.1), (.int .i64 q.2))))), .row [.d (.int .i64 c3)]] := by
  unfold m_constraint_Group_1 at hm
  refine ACall.of_AWG (fnn := Try.f46) Try.func46 rfl (Nat.le_of_ble_eq_true rfl) (fun g0 w0 hw0 => ?_)
  refine AW.seqR ?_
  refine AL.s rfl (op_assignD (.e rfl)) ?_
  refine AL.nil ?_
  refine AW.seqD [([0], []), ([], []), ([1], []), ([0], []), ([2], []), ([1], []), ([], []), ([], [])] mo (by decide +kernel) ?_
  refine AD.s (ws := []) rfl rfl (fun H' _ hH => op_load_ptr1 (.e rfl) ((hH _ (by simp)).trans rfl) rfl sc64) ?_
  refine AD.s (ws := []) rfl rfl (fun H' _ hH => op_moveD (.e rfl)) ?_
  obtain ⟨v4, hv4, hm⟩ := bindE hm
  refine AD.s (ws := []) rfl rfl (fun H' _ hH => op_callQ [1] Try.call39 (.e rfl) (.cons (.e rfl) (.cons (.e rfl) .nil)) (m_constraint_classes_of_ok hv4) rfl (.cons ((hH _ (by simp)).trans rfl) .nil) rfl rfl rfl rfl rfl) ?_
  refine AD.s (ws := []) rfl rfl (fun H' _ hH => op_load_ptr1 (.e rfl) ((hH _ (by simp)).trans rfl) rfl sc64) ?_
  refine AD.s (ws := []) rfl rfl (fun H' _ hH => op_load_ptr1 (.e rfl) ((hH _ (by simp)).trans rfl) rfl sc3) ?_
  obtain ⟨v5, hv5, hm⟩ := bindE hm
  refine AD.s (ws := []) rfl rfl (fun H' _ hH => op_callQ [1] Try.call39 (.e rfl) (.cons (.e rfl) (.cons (.e rfl) .nil)) (m_constraint_classes_of_ok hv5) rfl (.cons ((hH _ (by simp)).trans rfl) .nil) rfl rfl rfl rfl rfl) ?_
  refine AD.s (ws := []) rfl rfl (fun H' _ hH => op_neq (.r rfl) (.r rfl)) ?_
  refine AD.s (ws := []) rfl rfl (fun H' _ hH => op_assignD (.e rfl)) ?_
  refine AD.nil ?_
  refine AW.ret ?_
  obtain rfl := Option.some.inj hm
  exact ⟨_, [0, 1, 2], (.tmp (.e rfl) .nil), rfl, rfl, (.cons (.d rfl) .nil), (.row rfl (.cons (.mp rfl) .nil) (.ob rfl obR_mp (.row rfl (.cons (.d rfl) .nil) .nil)))⟩

set_option maxHeartbeats 20000000 in
theorem m_slices_IndexFunc_int_int_ok {n : Nat} {c1 : (List Int)} {c2 : (List (Int × Int))} {c3 : Int} {r : Int} (hm : m_slices_IndexFunc_int_int n c1 c2 c3 = some r) : ACall Try.prog 62 [.hs 0 0 c1.length 1, .fn (.func 46) [.ptr 1 0, .ptr 3 0]] [.lst (c1.map D.i) 3 1, .row [.mp 2], .ob (mpO (c2.map (fun q => ((.int .i64 q.1), (.int .i64 q.2))))), .row [.d (.int .i64 c3)]] fun r' H' => r' = resOf [.d (.int .i64 r)] ∧ H' = [.lst (c1.map D.i) 3 1, .row [.mp 2], .ob (mpO (c2.map (fun q => ((.int .i64 q.1), (.int .i64 q.2))))), .row [.d (.int .i64 c3)]] := by
  unfold m_slices_IndexFunc_int_int at hm
  refine ACall.of_AWG (fnn := Try.f62) Try.func62 rfl (Nat.le_of_ble_eq_true rfl) (fun g0 w0 hw0 => ?_)
  refine AW.reset 4 [(0, .hs 0 0 c1.length 1), (1, .fn (.func 46) [.ptr 1 0, .ptr 3 0])] [.lst (c1.map D.i) 3 1, .row [.mp 2], .ob (mpO (c2.map (fun q => ((.int .i64 q.1), (.int .i64 q.2))))), .row [.d (.int .i64 c3)]] (WOK.g0 hw0 (by simp)) ⟨[0, 1, 2, 3], rfl, rfl, rfl, ⟨(.hs rfl rfl), (.fn2 (.ptr rfl) (.ptr rfl)), trivial⟩, trivial, (.lst rfl (.row rfl (.cons (.mp rfl) .nil) (.ob rfl obR_mp (.row rfl (.cons (.d rfl) .nil) .nil))))⟩ ?_
  refine AW.seqR ?_
  refine AL.s rfl (op_assignD (.e rfl)) ?_
  refine AL.nil ?_
  refine AW.seq ?_
  refine AW.seqR ?_
  refine AL.s rfl (op_moveH (.e rfl)) ?_
  refine AL.s rfl (op_len_hs (.e rfl) rfl sl42) ?_
  refine AL.s rfl (op_moveD (.e rfl)) ?_
  refine AL.nil ?_
  refine AW.block ?_
  obtain ⟨t_1, hI1, hk1⟩ := bindE hm
  refine AW.loopS (σ := Int) (τ := (Int ⊕ Unit)) 4 (fun x => [(0, .hs 0 0 c1.length 1), (1, .fn (.func 46) [.ptr 1 0, .ptr 3 0]), (7, .d (.int .i64 (c1.length : Int))), (8, .d (.int .i64 x))]) (fun x => [.lst (c1.map D.i) 3 1, .row [.mp 2], .ob (mpO (c2.map (fun q => ((.int .i64 q.1), (.int .i64 q.2))))), .row [.d (.int .i64 c3)]]) hI1 (WOK.g0 hw0 (by simp)) ⟨[0, 1, 2, 3], rfl, rfl, rfl, ⟨(.hs rfl rfl), (.fn2 (.ptr rfl) (.ptr rfl)), (.d rfl), (.d rfl), trivial⟩, trivial, (.lst rfl (.row rfl (.cons (.mp rfl) .nil) (.ob rfl obR_mp (.row rfl (.cons (.d rfl) .nil) .nil))))⟩ ?_
  rintro n1 s4 hI1
  obtain ⟨y_1, hm, hI1⟩ := iterS hI1
  replace hm : m_slices_IndexFunc_int_int_L1 n _ _ _ s4 = some y_1 := hm
  unfold m_slices_IndexFunc_int_int_L1 at hm
  try dsimp only at hm
  refine AW.seqR ?_
  refine AL.s rfl (op_lss (.r rfl) (.r rfl)) ?_
  refine AL.nil ?_
  refine AW.seq ?_
  refine AW.cond (b := _) rfl (fun hc1 => ?_) (fun hc1 => ?_)
  · replace hm := iteT hc1 hm
    refine AW.skip ?_
    refine nq ?_
    refine AW.seq ?_
    refine AW.block ?_
    refine AW.seqR ?_
    refine AL.s rfl (op_moveD (.e rfl)) ?_
    refine AL.s rfl (op_assignD (.e rfl)) ?_
    refine AL.nil ?_
    refine AW.seqR ?_
    refine AL.s rfl (op_moveF (.e rfl)) ?_
    refine AL.s rfl (op_moveH (.e rfl)) ?_
    refine AL.s rfl (op_moveD (.e rfl)) ?_
    obtain ⟨v5, hv5, hm⟩ := bindE hm
    refine AL.s rfl (op_indexAddr_hs (f := D.i) (l := c1) (.e rfl) rfl rfl (.r rfl) hv5 sl42) ?_
    obtain ⟨v6, hv6, hm⟩ := bindE hm
    refine AL.s rfl (op_load_lp (f := D.i) (fun _ => rfl) (.e rfl) rfl hv6 sc3) ?_
    obtain ⟨v7, hv7, hm⟩ := bindE hm
    refine AL.s rfl (op_callF (v := .d (.bool v7)) (H' := [.lst (c1.map D.i) 3 1, .row [.mp 2], .ob (mpO (c2.map (fun q => ((.int .i64 q.1), (.int .i64 q.2))))), .row [.d (.int .i64 c3)]]) [1, 2, 3] Try.call46 (.e rfl) (.cons (.e rfl) .nil) (m_constraint_Group_1_ok hv7) rfl (.cons rfl (.cons rfl (.cons rfl .nil))) rfl rfl rfl rfl rfl rfl rfl rfl) ?_
    refine AL.nil ?_
    refine AW.cond (b := _) rfl (fun hc2 => ?_) (fun hc2 => ?_)
    · replace hm := iteT hc2 hm
      refine AW.seqR ?_
      refine AL.s rfl (op_moveD (.e rfl)) ?_
      refine AL.s rfl (op_assignD (.e rfl)) ?_
      refine AL.nil ?_
      refine AW.ret ?_
      refine bq_ret ?_
      refine tq_ret ?_
      refine tq_ret ?_
      obtain rfl := Option.some.inj hm
      obtain rfl := Option.some.inj hI1
      replace hm := hk1
      try dsimp only at hm
      refine bq_ret ?_
      refine tq_ret ?_
      obtain rfl := Option.some.inj hm
      exact ⟨_, [0, 1, 2, 3], (.tmp (.e rfl) .nil), rfl, rfl, (.cons (.d rfl) .nil), (.lst rfl (.row rfl (.cons (.mp rfl) .nil) (.ob rfl obR_mp (.row rfl (.cons (.d rfl) .nil) .nil))))⟩
    · replace hm := iteF hc2 hm
      refine AW.skip ?_
      refine bq_n ?_
      refine nq ?_
      refine AW.region ?_
      refine AL.s rfl (op_addw (.r rfl) (.r rfl)) ?_
      refine AL.s rfl (op_moveD (.e rfl)) ?_
      refine AL.nil ?_
      obtain rfl := Option.some.inj hm
      exact nq ⟨_, hI1, ⟨[0, 1, 2, 3], rfl, rfl, rfl, ⟨(.hs rfl rfl), (.fn2 (.ptr rfl) (.ptr rfl)), (.d rfl), (.d rfl), trivial⟩, trivial, (.lst rfl (.row rfl (.cons (.mp rfl) .nil) (.ob rfl obR_mp (.row rfl (.cons (.d rfl) .nil) .nil))))⟩⟩
  · replace hm := iteF hc1 hm
    refine AW.exit ?_
    refine tq_exit ?_
    refine tq_exit ?_
    obtain rfl := Option.some.inj hm
    obtain rfl := Option.some.inj hI1
    replace hm := hk1
    try dsimp only at hm
    refine bq_hit ?_
    refine nq ?_
    refine AW.seqR ?_
    refine AL.s rfl (op_assignD (.e rfl)) ?_
    refine AL.nil ?_
    refine AW.ret ?_
    obtain rfl := Option.some.inj hm
    exact ⟨_, [0, 1, 2, 3], (.tmp (.e rfl) .nil), rfl, rfl, (.cons (.d rfl) .nil), (.lst rfl (.row rfl (.cons (.mp rfl) .nil) (.ob rfl obR_mp (.row rfl (.cons (.d rfl) .nil) .nil))))⟩

set_option maxHeartbeats 20000000 in
theorem m_slices_DeleteFunc_int_int_ok {n : Nat} {c1 : (List Int)} {c2 : (List (Int × Int))} {c3 : Int} {r : (List Int)} (hm : m_slices_DeleteFunc_int_int n c1 c2 c3 = some r) : ACall Try.prog 45 [.hs 0 0 c1.length 1, .fn (.func 46) [.ptr 1 0, .ptr 3 0]] [.lst (c1.map D.i) 3 1, .row [.mp 2], .ob (mpO (c2.map (fun q => ((.int .i64 q.1), (.int .i64 q.2))))), .row [.d (.int .i64 c3)]] fun r' H' => r' = resOf [.hs 4 0 r.length 1] ∧ H' = [.dead, .row [.mp 2], .ob (mpO (c2.map (fun q => ((.int .i64 q.1), (.int .i64 q.2))))), .row [.d (.int .i64 c3)], .lst (r.map D.i) 3 1] := by
  unfold m_slices_DeleteFunc_int_int at hm
  refine ACall.of_AWG (fnn := Try.f45) Try.func45 rfl (Nat.le_of_ble_eq_true rfl) (fun g0 w0 hw0 => ?_)
  refine AW.reset 4 [(0, .hs 0 0 c1.length 1), (1, .fn (.func 46) [.ptr 1 0, .ptr 3 0])] [.lst (c1.map D.i) 3 1, .row [.mp 2], .ob (mpO (c2.map (fun q => ((.int .i64 q.1), (.int .i64 q.2))))), .row [.d (.int .i64 c3)]] (WOK.g0 hw0 (by simp)) ⟨[0, 1, 2, 3], rfl, rfl, rfl, ⟨(.hs rfl rfl), (.fn2 (.ptr rfl) (.ptr rfl)), trivial⟩, trivial, (.lst rfl (.row rfl (.cons (.mp rfl) .nil) (.ob rfl obR_mp (.row rfl (.cons (.d rfl) .nil) .nil))))⟩ ?_
  refine AW.seqR ?_
  refine AL.s rfl (op_assignN (.e rfl)) ?_
  refine AL.nil ?_
  refine AW.seqR ?_
  refine AL.s rfl (op_moveH (.e rfl)) ?_
  refine AL.s rfl (op_moveF (.e rfl)) ?_
  obtain ⟨v4, hv4, hm⟩ := bindE hm
  refine AL.s rfl (op_callF (v := .d (.int .i64 v4)) (H' := [.lst (c1.map D.i) 3 1, .row [.mp 2], .ob (mpO (c2.map (fun q => ((.int .i64 q.1), (.int .i64 q.2))))), .row [.d (.int .i64 c3)]]) [0, 1, 2, 3] Try.call62 (.e rfl) (.cons (.e rfl) (.cons (.e rfl) .nil)) (m_slices_IndexFunc_int_int_ok hv4) rfl (.cons rfl (.cons rfl (.cons rfl (.cons rfl .nil)))) rfl rfl rfl rfl rfl rfl rfl rfl) ?_
  refine AL.s rfl (op_assignD (.e rfl)) ?_
  refine AL.nil ?_
  refine AW.seq ?_
  refine AW.seqR ?_
  refine AL.s rfl (op_moveD (.e rfl)) ?_
  refine AL.s rfl (op_eql (.r rfl) (.r rfl)) ?_
  refine AL.nil ?_
  refine AW.cond (b := _) rfl (fun hc1 => ?_) (fun hc1 => ?_)
  · replace hm := iteT hc1 hm
    refine AW.seqR ?_
    refine AL.s rfl (op_moveH (.e rfl)) ?_
    refine AL.s rfl (op_assignH (.e rfl)) ?_
    refine AL.nil ?_
    refine AW.moveL (n := 4) (f := D.i) (l := c1) 0 [4] rfl rfl ⟨rfl, trivial⟩ ?_
    refine AW.ret ?_
    refine tq_ret ?_
    obtain rfl := Option.some.inj hm
    exact ⟨_, [0, 1, 2, 3, 4], (.tmp (.e rfl) .nil), rfl, rfl, (.cons (.hs rfl rfl) .nil), (.dead (.row rfl (.cons (.mp rfl) .nil) (.ob rfl obR_mp (.row rfl (.cons (.d rfl) .nil) (.lst rfl .nil)))))⟩
  · replace hm := iteF hc1 hm
    refine AW.skip ?_
    refine nq ?_
    refine AW.seq ?_
    refine AW.seqR ?_
    refine AL.s rfl (op_moveD (.e rfl)) ?_
    refine AL.s rfl (op_addw (.r rfl) (.r rfl)) ?_
    refine AL.s rfl (op_assignD (.e rfl)) ?_
    refine AL.nil ?_
    refine AW.block ?_
    obtain ⟨t_1, hI1, hk1⟩ := bindE hm
    refine AW.loopS (σ := (Int × Int × (List Int))) (τ := (Int × (List Int))) 4 (fun x => [(0, .hs 0 0 x.2.2.length 1), (1, .fn (.func 46) [.ptr 1 0, .ptr 3 0]), (5, .d (.int .i64 x.1)), (6, .d (.int .i64 x.2.1))]) (fun x => [.lst (x.2.2.map D.i) 3 1, .row [.mp 2], .ob (mpO (c2.map (fun q => ((.int .i64 q.1), (.int .i64 q.2))))), .row [.d (.int .i64 c3)]]) hI1 (WOK.g0 hw0 (by simp)) ⟨[0, 1, 2, 3], rfl, rfl, rfl, ⟨(.hs rfl rfl), (.fn2 (.ptr rfl) (.ptr rfl)), (.d rfl), (.d rfl), trivial⟩, trivial, (.lst rfl (.row rfl (.cons (.mp rfl) .nil) (.ob rfl obR_mp (.row rfl (.cons (.d rfl) .nil) .nil))))⟩ ?_
    rintro n1 ⟨s5, s6, s7⟩ hI1
    obtain ⟨y_1, hm, hI1⟩ := iterS hI1
    replace hm : m_slices_DeleteFunc_int_int_L1 n _ _ s5 s6 s7 = some y_1 := hm
    unfold m_slices_DeleteFunc_int_int_L1 at hm
    try dsimp only at hm
    refine AW.seq ?_
    refine AW.seqR ?_
    refine AL.s rfl (op_moveD (.e rfl)) ?_
    refine AL.s rfl (op_moveH (.e rfl)) ?_
    refine AL.s rfl (op_len_hs (.e rfl) rfl sl42) ?_
    refine AL.s rfl (op_lss (.r rfl) (.r rfl)) ?_
    refine AL.nil ?_
    refine AW.cond (b := _) rfl (fun hc2 => ?_) (fun hc2 => ?_)
    · replace hm := iteT hc2 hm
      refine AW.skip ?_
      refine nq ?_
      obtain ⟨t_j1, hm, hkj1⟩ := bindE hm
      refine AW.cutS (α := (Int × (List Int))) 4 (fun x => x = t_j1) (fun x => [(0, .hs 0 0 x.2.length 1), (1, .fn (.func 46) [.ptr 1 0, .ptr 3 0]), (5, .d (.int .i64 x.1)), (6, .d (.int .i64 s6))]) (fun x => [.lst (x.2.map D.i) 3 1, .row [.mp 2], .ob (mpO (c2.map (fun q => ((.int .i64 q.1), (.int .i64 q.2))))), .row [.d (.int .i64 c3)]]) (WOK.g0 hw0 (by simp)) ?_ ?_
      · skip
        refine AW.block ?_
        refine AW.seqR ?_
        refine AL.s rfl (op_moveH (.e rfl)) ?_
        refine AL.s rfl (op_moveD (.e rfl)) ?_
        obtain ⟨v8, hv8, hm⟩ := bindE hm
        refine AL.s rfl (op_indexAddr_hs (f := D.i) (l := s7) (.e rfl) rfl rfl (.r rfl) hv8 sl42) ?_
        obtain ⟨v9, hv9, hm⟩ := bindE hm
        refine AL.s rfl (op_load_lp (f := D.i) (fun _ => rfl) (.e rfl) rfl hv9 sc3) ?_
        refine AL.s rfl (op_assignD (.e rfl)) ?_
        refine AL.nil ?_
        refine AW.seqR ?_
        refine AL.s rfl (op_moveF (.e rfl)) ?_
        refine AL.s rfl (op_moveD (.e rfl)) ?_
        obtain ⟨v10, hv10, hm⟩ := bindE hm
        refine AL.s rfl (op_callF (v := .d (.bool v10)) (H' := [.lst (s7.map D.i) 3 1, .row [.mp 2], .ob (mpO (c2.map (fun q => ((.int .i64 q.1), (.int .i64 q.2))))), .row [.d (.int .i64 c3)]]) [1, 2, 3] Try.call46 (.e rfl) (.cons (.e rfl) .nil) (m_constraint_Group_1_ok hv10) rfl (.cons rfl (.cons rfl (.cons rfl .nil))) rfl rfl rfl rfl rfl rfl rfl rfl) ?_
        refine AL.s rfl (op_not (.r rfl)) ?_
        refine AL.nil ?_
        refine AW.cond (b := _) rfl (fun hc3 => ?_) (fun hc3 => ?_)
        · replace hm := iteT hc3 hm
          refine AW.seqR ?_
          refine AL.s rfl (op_moveH (.e rfl)) ?_
          refine AL.s rfl (op_moveD (.e rfl)) ?_
          refine AL.s rfl (op_moveD (.e rfl)) ?_
          obtain ⟨v11, hv11, hm⟩ := bindE hm
          refine AL.s rfl (op_indexAddr_hs (f := D.i) (l := s7) (.e rfl) rfl rfl (.r rfl) hv11 sl42) ?_
          obtain ⟨v12, hv12, hm⟩ := bindE hm
          refine AL.s rfl (op_store_lp (f := D.i) (fun _ => rfl) (.e rfl) (.r rfl) rfl hv12 ⟨_, rfl, rfl⟩ En.i) ?_
          refine AL.nil ?_
          refine AW.region ?_
          refine AL.s rfl (op_moveD (.e rfl)) ?_
          refine AL.s rfl (op_addw (.r rfl) (.r rfl)) ?_
          refine AL.s rfl (op_assignD (.e rfl)) ?_
          refine AL.nil ?_
          refine bq_n ?_
          obtain rfl := Option.some.inj hm
          exact nq ⟨_, rfl, ⟨[0, 1, 2, 3], rfl, rfl, rfl, ⟨(.hs rfl (setI_len hv12).symm), (.fn2 (.ptr rfl) (.ptr rfl)), (.d rfl), (.d rfl), trivial⟩, trivial, (.lst rfl (.row rfl (.cons (.mp rfl) .nil) (.ob rfl obR_mp (.row rfl (.cons (.d rfl) .nil) .nil))))⟩⟩
        · replace hm := iteF hc3 hm
          refine AW.skip ?_
          refine bq_n ?_
          obtain rfl := Option.some.inj hm
          exact nq ⟨_, rfl, ⟨[0, 1, 2, 3], rfl, rfl, rfl, ⟨(.hs rfl rfl), (.fn2 (.ptr rfl) (.ptr rfl)), (.d rfl), (.d rfl), trivial⟩, trivial, (.lst rfl (.row rfl (.cons (.mp rfl) .nil) (.ob rfl obR_mp (.row rfl (.cons (.d rfl) .nil) .nil))))⟩⟩
      · rintro ⟨s13, s14⟩ rfl
        replace hm := hkj1
        try dsimp only at hm
        refine AW.region ?_
        refine AL.s rfl (op_moveD (.e rfl)) ?_
        refine AL.s rfl (op_addw (.r rfl) (.r rfl)) ?_
        refine AL.s rfl (op_assignD (.e rfl)) ?_
        refine AL.nil ?_
        obtain rfl := Option.some.inj hm
        exact nq ⟨_, hI1, ⟨[0, 1, 2, 3], rfl, rfl, rfl, ⟨(.hs rfl rfl), (.fn2 (.ptr rfl) (.ptr rfl)), (.d rfl), (.d rfl), trivial⟩, trivial, (.lst rfl (.row rfl (.cons (.mp rfl) .nil) (.ob rfl obR_mp (.row rfl (.cons (.d rfl) .nil) .nil))))⟩⟩
    · replace hm := iteF hc2 hm
      refine AW.exit ?_
      refine tq_exit ?_
      refine tq_exit ?_
      obtain rfl := Option.some.inj hm
      obtain rfl := Option.some.inj hI1
      replace hm := hk1
      try dsimp only at hm
      refine bq_hit ?_
      refine nq ?_
      refine AW.seqR ?_
      refine AL.s rfl (op_moveH (.e rfl)) ?_
      refine AL.s rfl (op_moveD (.e rfl)) ?_
      obtain ⟨v15, hv15, hm⟩ := bindE hm
      refine AL.s rfl (op_sliceH (f := D.i) (l := s7) (.e rfl) rfl rfl sl42 (.r rfl) rfl hv15) ?_
      refine AL.s rfl (op_clear (f := D.i) (l := s7) (z := ((0 : Int) : Int)) En.i (.e rfl) rfl (slc_le hv15) sl42 zr3 rfl) ?_
      refine AL.nil ?_
      refine AW.seqR ?_
      refine AL.s rfl (op_moveH (.e rfl)) ?_
      refine AL.s rfl (op_moveD (.e rfl)) ?_
      obtain ⟨v16, hv16, hm⟩ := bindE hm
      refine AL.s rfl (op_truncH (f := D.i) (l := (clrL s7 s5.toNat v15.length ((0 : Int) : Int))) (.e rfl) rfl (clrL_len (slc_le hv15)) sl42 (.r rfl) hv16) ?_
      refine AL.s rfl (op_assignH (.e rfl)) ?_
      refine AL.nil ?_
      refine AW.moveL (n := 4) (f := D.i) (l := v16) 0 [4] rfl rfl ⟨rfl, trivial⟩ ?_
      refine AW.ret ?_
      obtain rfl := Option.some.inj hm
      exact ⟨_, [0, 1, 2, 3, 4], (.tmp (.e rfl) .nil), rfl, rfl, (.cons (.hs rfl rfl) .nil), (.dead (.row rfl (.cons (.mp rfl) .nil) (.ob rfl obR_mp (.row rfl (.cons (.d rfl) .nil) (.lst rfl .nil)))))⟩

set_option maxHeartbeats 20000000 in
theorem m_constraint_Group_ok {n : Nat} {a1 : (List SConstraint)} {a2 : Int} {r : ((List Int) × Int)} (hm : m_constraint_Group n a1 a2 = some r) : Fn Try.prog 28 [(.sl (a1.map SConstraint.e)), (.int .i64 a2)] (.tup [(.sl (r.1.map D.i)), (.int .i64 r.2)]) := by
  unfold m_constraint_Group at hm
  refine Fn.of_AW (fnn := Try.f28) Try.func28 rfl (Nat.le_of_ble_eq_true rfl) (fun g0 w0 hw0 => ?_)
  refine AW.seqR ?_
  refine AL.s rfl (op_box (n := 0) (.e rfl) rfl rfl rfl) ?_
  refine AL.s rfl (op_assignN (.e rfl)) ?_
  refine AL.s rfl (op_assignD (.e rfl)) ?_
  refine AL.nil ?_
  refine AW.seq ?_
  refine AW.reset 0 [(0, .d (.sl (a1.map SConstraint.e))), (3, .ptr 0 0)] [.row [.d (.int .i64 a2)]] (WOK.g0 hw0 (by simp)) ⟨[0], rfl, rfl, rfl, ⟨(.d rfl), (.ptr rfl), trivial⟩, trivial, (.row rfl (.cons (.d rfl) .nil) .nil)⟩ ?_
  refine AW.seqR ?_
  refine AL.s rfl (op_moveD (.e rfl)) ?_
  obtain ⟨v3, hv3, hm⟩ := bindE hm
  refine AL.s rfl (op_fn Try.call30 (.e rfl) (.cons (.r rfl) .nil) (m_constraint_Valid_ok hv3)) ?_
  refine AL.s rfl (op_not (.r rfl)) ?_
  refine AL.nil ?_
  refine AW.cond (b := _) rfl (fun hc1 => ?_) (fun hc1 => ?_)
  · replace hm := iteT hc1 hm
    refine AW.seqR ?_
    refine AL.s rfl (op_assignN (.e rfl)) ?_
    refine AL.s rfl (op_assignD (.e rfl)) ?_
    refine AL.nil ?_
    refine AW.ret ?_
    refine tq_ret ?_
    obtain rfl := Option.some.inj hm
    exact EndQ.d (.tmp (.e rfl) (.tmp (.e rfl) .nil)) rfl rfl
  · replace hm := iteF hc1 hm
    refine AW.skip ?_
    refine nq ?_
    refine AW.seqR ?_
    refine AL.s rfl (op_moveD (.e rfl)) ?_
    obtain ⟨v4, hv4, hm⟩ := bindE hm
    refine AL.s rfl (op_callF (v := .mp 1) (H' := [.row [.d (.int .i64 a2)], .ob (mpO (v4.map (fun q => ((.int .i64 q.1), (.int .i64 q.2)))))]) [] Try.call37 (.e rfl) (.cons (.e rfl) .nil) (m_constraint_classesOf_ok hv4) rfl .nil rfl rfl rfl rfl rfl rfl rfl rfl) ?_
    refine AL.s rfl (op_alloc (n := 2) zr64 rfl) ?_
    refine AL.s rfl (op_store (.e rfl) (.e rfl) rfl rfl rfl ⟨_, rfl, rfl⟩ rfl (Nat.le_of_ble_eq_true rfl)) ?_
    refine AL.nil ?_
    refine AW.seqR ?_
    refine AL.s rfl (op_moveD (.e rfl)) ?_
    obtain ⟨v5, hv5, hm⟩ := bindE hm
    refine AL.s rfl (op_callF (v := .hs 3 0 v5.length 1) (H' := [.row [.d (.int .i64 a2)], .ob (mpO (v4.map (fun q => ((.int .i64 q.1), (.int .i64 q.2))))), .row [.mp 1], .lst (v5.map D.i) 3 1]) [] Try.call38 (.e rfl) (.cons (.e rfl) .nil) (m_constraint_records_ok hv5) rfl .nil rfl rfl rfl rfl rfl rfl rfl rfl) ?_
    refine AL.s rfl (op_makeFunc (.cons (.e rfl) (.cons (.e rfl) .nil))) ?_
    obtain ⟨v6, hv6, hm⟩ := bindE hm
    refine AL.s rfl (op_callF (v := .hs 4 0 v6.length 1) (H' := [.row [.d (.int .i64 a2)], .ob (mpO (v4.map (fun q => ((.int .i64 q.1), (.int .i64 q.2))))), .row [.mp 1], .dead, .lst (v6.map D.i) 3 1]) [3, 2, 1, 0] Try.call45 (.e rfl) (.cons (.e rfl) (.cons (.e rfl) .nil)) (m_slices_DeleteFunc_int_int_ok hv6) rfl (.cons rfl (.cons rfl (.cons rfl (.cons rfl .nil)))) rfl rfl rfl rfl rfl rfl rfl rfl) ?_
    refine AL.s rfl (op_assignH (.e rfl)) ?_
    refine AL.nil ?_
    refine AW.freeze (f := D.i) (l := v6) 4 [7, 16] rfl rfl En.i ⟨rfl, rfl, trivial⟩ ?_
    obtain ⟨t_j1, hm, hkj1⟩ := bindE hm
    refine AW.cutS (α := (List Int)) 0 (fun x => x = t_j1) (fun x => [(7, .d (.sl (x.map D.i)))]) (fun x => [.row [.d (.int .i64 a2)], .ob (mpO (v4.map (fun q => ((.int .i64 q.1), (.int .i64 q.2))))), .row [.mp 1], .dead, .dead]) (WOK.g0 hw0 (by simp)) ?_ ?_
    · skip
      refine AW.seqR ?_
      refine AL.s rfl (op_moveD (.e rfl)) ?_
      refine AL.s rfl (op_lenM (f := D.i) (.r rfl) sl42) ?_
      refine AL.s rfl (op_eql (.r rfl) (.r rfl)) ?_
      refine AL.nil ?_
      refine AW.cond (b := _) rfl (fun hc2 => ?_) (fun hc2 => ?_)
      · replace hm := iteT hc2 hm
        refine AW.region ?_
        refine AL.s rfl (op_load_ptr1 (.e rfl) rfl rfl sc3) ?_
        refine AL.s rfl (op_buildSlice (ds := ([a2] : List Int).map D.i) sl42 (.cons (.r rfl) rfl (En.i.one _) .nil) rfl (by decide)) ?_
        refine AL.s rfl (op_assignE (.e rfl)) ?_
        refine AL.nil ?_
        obtain rfl := Option.some.inj hm
        exact nq ⟨_, rfl, ⟨[0, 1, 2, 3, 4], rfl, rfl, rfl, ⟨(.d rfl), trivial⟩, trivial, (.row rfl (.cons (.d rfl) .nil) (.ob rfl obR_mp (.row rfl (.cons (.mp rfl) .nil) (.dead (.dead .nil)))))⟩⟩
      · replace hm := iteF hc2 hm
        refine AW.skip ?_
        obtain rfl := Option.some.inj hm
        exact nq ⟨_, rfl, ⟨[0, 1, 2, 3, 4], rfl, rfl, rfl, ⟨(.d rfl), trivial⟩, trivial, (.row rfl (.cons (.d rfl) .nil) (.ob rfl obR_mp (.row rfl (.cons (.mp rfl) .nil) (.dead (.dead .nil)))))⟩⟩
    · rintro s7 rfl
      replace hm := hkj1
      try dsimp only at hm
      refine AW.seqR ?_
      refine AL.s rfl (op_moveD (.e rfl)) ?_
      refine AL.s rfl (op_assignD (.e rfl)) ?_
      refine AL.s rfl (op_assignD (.e rfl)) ?_
      refine AL.nil ?_
      refine AW.ret ?_
      obtain rfl := Option.some.inj hm
      exact EndQ.d (.tmp (.e rfl) (.tmp (.e rfl) .nil)) rfl rfl

set_option maxHeartbeats 20000000 in
theorem m_constraint_apart_1_ok {n : Nat} {a1 : SConstraint} {c2 : (List (Int × Int))} {c3 : Int} {c4 : Int} {r : Bool} (hm : m_constraint_apart_1 n a1 c2 c3 c4 = some r) : ACall Try.prog 64 [.d (SConstraint.e a1), .ptr 0 0, .ptr 2 0, .ptr 3 0] [.row [.mp 1], .ob (mpO (c2.map (fun q => ((.int .i64 q.1), (.int .i64 q.2))))), .row [.d (.int .i64 c3)], .row [.d (.int .i64 c4)]] fun r' H' => r' = resOf [.d (.bool r)] ∧ H' = [.row [.mp 1], .ob (mpO (c2.map (fun q => ((.int .i64 q.1), (.int .i64 q.2))))), .row [.d (.int .i64 c3)], .row [.d (.int .i64 c4)]] := by
  unfold m_constraint_apart_1 at hm
  refine ACall.of_AWG (fnn := Try.f64) Try.func64 rfl (Nat.le_of_ble_eq_true rfl) (fun g0 w0 hw0 => ?_)
  refine AW.reset 4 [(0, .d (SConstraint.e a1)), (1, .ptr 0 0), (2, .ptr 2 0), (3, .ptr 3 0)] [.row [.mp 1], .ob (mpO (c2.map (fun q => ((.int .i64 q.1), (.int .i64 q.2))))), .row [.d (.int .i64 c3)], .row [.d (.int .i64 c4)]] (WOK.g0 hw0 (by simp)) ⟨[0, 1, 2, 3], rfl, rfl, rfl, ⟨(.d rfl), (.ptr rfl), (.ptr rfl), (.ptr rfl), trivial⟩, trivial, (.row rfl (.cons (.mp rfl) .nil) (.ob rfl obR_mp (.row rfl (.cons (.d rfl) .nil) (.row rfl (.cons (.d rfl) .nil) .nil))))⟩ ?_
  refine AW.seqR ?_
  refine AL.s rfl (op_box (n := 4) (.e rfl) rfl rfl rfl) ?_
  refine AL.s rfl (op_assignD (.e rfl)) ?_
  refine AL.nil ?_
  refine AW.seqD [([0], []), ([], []), ([4], []), ([1], []), ([0], []), ([], []), ([4], []), ([1], []), ([], []), ([], [])] mo (by decide +kernel) ?_
  refine AD.s (ws := []) rfl rfl (fun H' _ hH => op_load_ptr1 (.e rfl) ((hH _ (by simp)).trans rfl) rfl sc64) ?_
  refine AD.s (ws := []) rfl rfl (fun H' _ hH => op_field_ptr (.e rfl) fd50_1) ?_
  refine AD.s (ws := []) rfl rfl (fun H' _ hH => op_load_ptr1 (.e rfl) ((hH _ (by simp)).trans rfl) rfl sc3) ?_
  obtain ⟨v5, hv5, hm⟩ := bindE hm
  refine AD.s (ws := []) rfl rfl (fun H' _ hH => op_callQ [1] Try.call39 (.e rfl) (.cons (.e rfl) (.cons (.e rfl) .nil)) (m_constraint_classes_of_ok hv5) rfl (.cons ((hH _ (by simp)).trans rfl) .nil) rfl rfl rfl rfl rfl) ?_
  refine AD.s (ws := []) rfl rfl (fun H' _ hH => op_load_ptr1 (.e rfl) ((hH _ (by simp)).trans rfl) rfl sc64) ?_
  refine AD.s (ws := []) rfl rfl (fun H' _ hH => op_field_ptr (.e rfl) fd50_2) ?_
  refine AD.s (ws := []) rfl rfl (fun H' _ hH => op_load_ptr1 (.e rfl) ((hH _ (by simp)).trans rfl) rfl sc3) ?_
  obtain ⟨v6, hv6, hm⟩ := bindE hm
  refine AD.s (ws := []) rfl rfl (fun H' _ hH => op_callQ [1] Try.call39 (.e rfl) (.cons (.e rfl) (.cons (.e rfl) .nil)) (m_constraint_classes_of_ok hv6) rfl (.cons ((hH _ (by simp)).trans rfl) .nil) rfl rfl rfl rfl rfl) ?_
  refine AD.s (ws := []) rfl rfl (fun H' _ hH => op_assignD (.e rfl)) ?_
  refine AD.s (ws := []) rfl rfl (fun H' _ hH => op_assignD (.e rfl)) ?_
  refine AD.nil ?_
  refine AW.seqR ?_
  refine AL.s rfl (op_field_ptr (.e rfl) fd50_0) ?_
  refine AL.s rfl (op_load_ptr1 (.e rfl) rfl rfl sc3) ?_
  refine AL.s rfl (op_eql (.r rfl) (.r rfl)) ?_
  refine AL.s rfl (op_moveD (.e rfl)) ?_
  refine AL.sT rfl rfl rfl rfl (fun g => op_moveD (.e rfl)) ?_
  refine AL.sT rfl rfl rfl rfl (fun g => op_load_ptr1 (.e rfl) rfl rfl sc3) ?_
  refine AL.sT rfl rfl rfl rfl (fun g => op_eql (.we g rfl rfl) (.we g rfl rfl)) ?_
  refine AL.sT rfl rfl rfl rfl (fun g => op_moveD (.we g rfl)) ?_
  refine AL.sTT rfl rfl rfl rfl (fun gp g => op_moveD (.e rfl)) ?_
  refine AL.sTT rfl rfl rfl rfl (fun gp g => op_load_ptr1 (.e rfl) rfl rfl sc3) ?_
  refine AL.sTT rfl rfl rfl rfl (fun gp g => op_eql (.we (an gp g) rfl rfl) (.we (an gp g) rfl rfl)) ?_
  refine AL.sT rfl rfl rfl rfl (fun g => op_and (.we g rfl rfl) (fun h => (.we (an g h) rfl rfl)) rfl) ?_
  refine AL.sT rfl rfl rfl rfl (fun g => op_moveD (.we g rfl)) ?_
  refine AL.sFF rfl rfl rfl rfl (fun gp g => op_moveD (.e rfl)) ?_
  refine AL.sFF rfl rfl rfl rfl (fun gp g => op_load_ptr1 (.e rfl) rfl rfl sc3) ?_
  refine AL.sFF rfl rfl rfl rfl (fun gp g => op_eql (.we (an gp (nt g)) rfl rfl) (.we (an gp (nt g)) rfl rfl)) ?_
  refine AL.sFF rfl rfl rfl rfl (fun gp g => op_moveD (.we (an gp (nt g)) rfl)) ?_
  refine AL.sTT rfl rfl rfl rfl (fun gp g => op_moveD (.e rfl)) ?_
  refine AL.sTT rfl rfl rfl rfl (fun gp g => op_load_ptr1 (.e rfl) rfl rfl sc3) ?_
  refine AL.sTT rfl rfl rfl rfl (fun gp g => op_eql (.we (an gp g) rfl rfl) (.we (an gp g) rfl rfl)) ?_
  refine AL.sFF rfl rfl rfl rfl (fun gp g => op_and (.we (an gp (nt g)) rfl rfl) (fun h => (.we (an (an gp (nt g)) h) rfl rfl)) rfl) ?_
  refine AL.sT rfl rfl rfl rfl (fun g => op_or (.we g rfl rfl) rfl (fun h => (.we (an g (nt h)) rfl rfl))) ?_
  refine AL.s rfl (op_and (.r rfl) (fun h => (.we h rfl rfl)) rfl) ?_
  refine AL.s rfl (op_assignD (.e rfl)) ?_
  refine AL.nil ?_
  refine AW.ret ?_
  obtain rfl := Option.some.inj hm
  exact ⟨_, [0, 1, 2, 3], (.tmp (.e rfl) .nil), rfl, rfl, (.cons (.d rfl) .nil), (.row rfl (.cons (.mp rfl) .nil) (.ob rfl obR_mp (.row rfl (.cons (.d rfl) .nil) (.row rfl (.cons (.d rfl) .nil) .nil))))⟩

set_option maxHeartbeats 20000000 in
theorem m_constraint_apart_ok {n : Nat} {a1 : (List SConstraint)} {c2 : (List (Int × Int))} {a3 : Int} {a4 : Int} {r : Bool} (hm : m_constraint_apart n a1 c2 a3 a4 = some r) : ACall Try.prog 41 [.d (.sl (a1.map SConstraint.e)), .mp 0, .d (.int .i64 a3), .d (.int .i64 a4)] [.ob (mpO (c2.map (fun q => ((.int .i64 q.1), (.int .i64 q.2)))))] fun r' H' => r' = resOf [.d (.bool r)] ∧ H' = [.ob (mpO (c2.map (fun q => ((.int .i64 q.1), (.int .i64 q.2)))))] := by
  unfold m_constraint_apart at hm
  refine ACall.of_AWG (fnn := Try.f41) Try.func41 rfl (Nat.le_of_ble_eq_true rfl) (fun g0 w0 hw0 => ?_)
  refine AW.seqR ?_
  refine AL.s rfl (op_box (n := 1) (.e rfl) rfl rfl rfl) ?_
  refine AL.s rfl (op_box (n := 2) (.e rfl) rfl rfl rfl) ?_
  refine AL.s rfl (op_box (n := 3) (.e rfl) rfl rfl rfl) ?_
  refine AL.s rfl (op_assignD (.e rfl)) ?_
  refine AL.nil ?_
  refine AW.seqD [([1], []), ([2], []), ([0], []), ([1], []), ([3], []), ([0], []), ([2], [2]), ([3], [3])] mo (by decide +kernel) ?_
  refine AD.s (ws := []) rfl rfl (fun H' _ hH => op_load_ptr1 (.e rfl) ((hH _ (by simp)).trans rfl) rfl sc64) ?_
  refine AD.s (ws := []) rfl rfl (fun H' _ hH => op_load_ptr1 (.e rfl) ((hH _ (by simp)).trans rfl) rfl sc3) ?_
  obtain ⟨v5, hv5, hm⟩ := bindE hm
  refine AD.s (ws := []) rfl rfl (fun H' _ hH => op_callQ [0] Try.call39 (.e rfl) (.cons (.e rfl) (.cons (.e rfl) .nil)) (m_constraint_classes_of_ok hv5) rfl (.cons ((hH _ (by simp)).trans rfl) .nil) rfl rfl rfl rfl rfl) ?_
  refine AD.s (ws := []) rfl rfl (fun H' _ hH => op_load_ptr1 (.e rfl) ((hH _ (by simp)).trans rfl) rfl sc64) ?_
  refine AD.s (ws := []) rfl rfl (fun H' _ hH => op_load_ptr1 (.e rfl) ((hH _ (by simp)).trans rfl) rfl sc3) ?_
  obtain ⟨v6, hv6, hm⟩ := bindE hm
  refine AD.s (ws := []) rfl rfl (fun H' _ hH => op_callQ [0] Try.call39 (.e rfl) (.cons (.e rfl) (.cons (.e rfl) .nil)) (m_constraint_classes_of_ok hv6) rfl (.cons ((hH _ (by simp)).trans rfl) .nil) rfl rfl rfl rfl rfl) ?_
  refine AD.s (ws := [(2, _)]) rfl rfl (fun H' _ hH => op_storeD (.e rfl) (.e rfl) ((hH _ (by simp)).trans rfl) rfl rfl ⟨_, rfl, rfl⟩ (Nat.le_of_ble_eq_true rfl)) ?_
  refine AD.s (ws := [(3, _)]) rfl rfl (fun H' _ hH => op_storeD (.e rfl) (.e rfl) ((hH _ (by simp)).trans rfl) rfl rfl ⟨_, rfl, rfl⟩ (Nat.le_of_ble_eq_true rfl)) ?_
  refine AD.nil ?_
  refine AW.reset 1 [(0, .d (.sl (a1.map SConstraint.e))), (5, .ptr 1 0), (6, .ptr 2 0), (7, .ptr 3 0)] [.ob (mpO (c2.map (fun q => ((.int .i64 q.1), (.int .i64 q.2))))), .row [.mp 0], .row [.d (.int .i64 v5)], .row [.d (.int .i64 v6)]] (WOK.g0 hw0 (by simp)) ⟨[0, 1, 2, 3], rfl, rfl, rfl, ⟨(.d rfl), (.ptr rfl), (.ptr rfl), (.ptr rfl), trivial⟩, trivial, (.ob rfl obR_mp (.row rfl (.cons (.mp rfl) .nil) (.row rfl (.cons (.d rfl) .nil) (.row rfl (.cons (.d rfl) .nil) .nil))))⟩ ?_
  refine AW.seqR ?_
  refine AL.s rfl (op_moveD (.e rfl)) ?_
  refine AL.s rfl (op_makeFunc (.cons (.e rfl) (.cons (.e rfl) (.cons (.e rfl) .nil)))) ?_
  obtain ⟨v7, hv7, hm⟩ := bindE hm
  refine AL.s rfl (op_call Try.call49 (.e rfl) (.cons (.e rfl) (.cons (.e rfl) .nil)) (m_slices_ContainsFunc_api_Constraint_api_Constraint_ok Try.call64 (fun _ _ hb => ACall.quiet [1, 0, 2, 3] (m_constraint_apart_1_ok hb) rfl (.cons rfl (.cons rfl (.cons rfl (.cons rfl .nil)))) rfl rfl rfl rfl rfl) hv7)) ?_
  refine AL.s rfl (op_assignD (.e rfl)) ?_
  refine AL.nil ?_
  refine AW.ret ?_
  obtain rfl := Option.some.inj hm
  exact ⟨_, [0], (.tmp (.e rfl) .nil), rfl, rfl, (.cons (.d rfl) .nil), (.ob rfl obR_mp .nil)⟩

set_option maxHeartbeats 20000000 in
theorem m_constraint_Apart_ok {n : Nat} {a1 : (List SConstraint)} {a2 : Int} {a3 : Int} {r : (Bool × Int)} (hm : m_constraint_Apart n a1 a2 a3 = some r) : Fn Try.prog 17 [(.sl (a1.map SConstraint.e)), (.int .i64 a2), (.int .i64 a3)] (.tup [(.bool r.1), (.int .i64 r.2)]) := by
  unfold m_constraint_Apart at hm
  refine Fn.of_AW (fnn := Try.f17) Try.func17 rfl (Nat.le_of_ble_eq_true rfl) (fun g0 w0 hw0 => ?_)
  refine AW.seqR ?_
  refine AL.s rfl (op_assignD (.e rfl)) ?_
  refine AL.s rfl (op_assignD (.e rfl)) ?_
  refine AL.nil ?_
  refine AW.seq ?_
  refine AW.seqR ?_
  refine AL.s rfl (op_moveD (.e rfl)) ?_
  obtain ⟨v4, hv4, hm⟩ := bindE hm
  refine AL.s rfl (op_fn Try.call30 (.e rfl) (.cons (.r rfl) .nil) (m_constraint_Valid_ok hv4)) ?_
  refine AL.s rfl (op_not (.r rfl)) ?_
  refine AL.nil ?_
  refine AW.cond (b := _) rfl (fun hc1 => ?_) (fun hc1 => ?_)
  · replace hm := iteT hc1 hm
    refine AW.seqR ?_
    refine AL.s rfl (op_assignD (.e rfl)) ?_
    refine AL.s rfl (op_assignD (.e rfl)) ?_
    refine AL.nil ?_
    refine AW.ret ?_
    refine tq_ret ?_
    obtain rfl := Option.some.inj hm
    exact EndQ.d (.tmp (.e rfl) (.tmp (.e rfl) .nil)) rfl rfl
  · replace hm := iteF hc1 hm
    refine AW.skip ?_
    refine nq ?_
    refine AW.seqR ?_
    refine AL.s rfl (op_moveD (.e rfl)) ?_
    refine AL.s rfl (op_moveD (.e rfl)) ?_
    obtain ⟨v5, hv5, hm⟩ := bindE hm
    refine AL.s rfl (op_callF (v := .mp 0) (H' := [.ob (mpO (v5.map (fun q => ((.int .i64 q.1), (.int .i64 q.2)))))]) [] Try.call37 (.e rfl) (.cons (.e rfl) .nil) (m_constraint_classesOf_ok hv5) rfl .nil rfl rfl rfl rfl rfl rfl rfl rfl) ?_
    refine AL.s rfl (op_moveD (.e rfl)) ?_
    refine AL.s rfl (op_moveD (.e rfl)) ?_
    obtain ⟨v6, hv6, hm⟩ := bindE hm
    refine AL.s rfl (op_callF (v := .d (.bool v6)) (H' := [.ob (mpO (v5.map (fun q => ((.int .i64 q.1), (.int .i64 q.2)))))]) [0] Try.call41 (.e rfl) (.cons (.e rfl) (.cons (.e rfl) (.cons (.e rfl) (.cons (.e rfl) .nil)))) (m_constraint_apart_ok hv6) rfl (.cons rfl .nil) rfl rfl rfl rfl rfl rfl rfl rfl) ?_
    refine AL.s rfl (op_assignD (.e rfl)) ?_
    refine AL.s rfl (op_assignD (.e rfl)) ?_
    refine AL.nil ?_
    refine AW.ret ?_
    obtain rfl := Option.some.inj hm
    exact EndQ.d (.tmp (.e rfl) (.tmp (.e rfl) .nil)) rfl rfl

set_option maxHeartbeats 20000000 in
theorem m_constraint_neighbours_ok {n : Nat} {a1 : (List SConstraint)} {r : (List (Int × (List Int)))} (hm : m_constraint_neighbours n a1 = some r) : ACall Try.prog 61 [.d (.sl (a1.map SConstraint.e))] [] fun r' H' => r' = resOf [.mp 0] ∧ H' = [.ob (mpO (r.map (fun q => ((.int .i64 q.1), (.sl (q.2.map D.i))))))] := by
  unfold m_constraint_neighbours at hm
  refine ACall.of_AWG (fnn := Try.f61) Try.func61 rfl (Nat.le_of_ble_eq_true rfl) (fun g0 w0 hw0 => ?_)
  refine AW.reset 0 [(0, .d (.sl (a1.map SConstraint.e)))] [] (WOK.g0 hw0 (by simp)) ⟨[], rfl, rfl, rfl, ⟨(.d rfl), trivial⟩, trivial, .nil⟩ ?_
  refine AW.seqR ?_
  refine AL.s rfl (op_assign_any) ?_
  refine AL.nil ?_
  refine AW.seqR ?_
  refine AL.s rfl (op_makeMap (n := 0) rfl) ?_
  refine AL.gh (Gh.toRm (fk := D.i) (f := D.i) (e := 3) (id := 0) rfl) ?_
  refine AL.s rfl (op_assignM (.e rfl)) ?_
  refine AL.nil ?_
  refine AW.seq ?_
  refine AW.seqR ?_
  refine AL.s rfl (op_moveD (.e rfl)) ?_
  refine AL.s rfl (op_lenM (f := SConstraint.e) (.r rfl) sl22) ?_
  refine AL.s rfl (op_moveD (.e rfl)) ?_
  refine AL.nil ?_
  refine AW.block ?_
  obtain ⟨t_1, hI1, hk1⟩ := bindE hm
  refine AW.loopS (σ := (Int × (List (Int × (List Int))))) (τ := (List (Int × (List Int)))) 0 (fun x => [(3, .mp 0), (9, .d (.sl (a1.map SConstraint.e))), (10, .d (.int .i64 (a1.length : Int))), (11, .d (.int .i64 x.1))]) (fun x => [.ob (rmO D.i D.i 3 x.2 [])]) hI1 (WOK.g0 hw0 (by simp)) ⟨[0], rfl, rfl, rfl, ⟨(.mp rfl), (.d rfl), (.d rfl), (.d rfl), trivial⟩, trivial, (.ob rfl obR_rm .nil)⟩ ?_
  rintro n1 ⟨s2, s3⟩ hI1
  obtain ⟨y_1, hm, hI1⟩ := iterS hI1
  replace hm : m_constraint_neighbours_L1 n _ s2 s3 = some y_1 := hm
  unfold m_constraint_neighbours_L1 at hm
  try dsimp only at hm
  refine AW.seqR ?_
  refine AL.s rfl (op_lss (.r rfl) (.r rfl)) ?_
  refine AL.nil ?_
  refine AW.seq ?_
  refine AW.cond (b := _) rfl (fun hc1 => ?_) (fun hc1 => ?_)
  · replace hm := iteT hc1 hm
    refine AW.skip ?_
    refine nq ?_
    obtain ⟨t_j1, hm, hkj1⟩ := bindE hm
    refine AW.cutS (α := (List (Int × (List Int)))) 0 (fun x => x = t_j1) (fun x => [(3, .mp 0), (9, .d (.sl (a1.map SConstraint.e))), (10, .d (.int .i64 (a1.length : Int))), (11, .d (.int .i64 s2))]) (fun x => [.ob (rmO D.i D.i 3 x [])]) (WOK.g0 hw0 (by simp)) ?_ ?_
    · skip
      refine AW.block ?_
      refine AW.seqR ?_
      obtain ⟨v4, hv4, hm⟩ := bindE hm
      refine AL.s rfl (op_indexAddrM (f := SConstraint.e) (.r rfl) (.r rfl) hv4 enSConstraint sl22) ?_
      refine AL.s rfl (op_loadA (.e rfl) rfl ag50) ?_
      refine AL.s rfl (op_alloc (n := 1) zr50 rfl) ?_
      refine AL.s rfl (op_store (.e rfl) (.e rfl) rfl rfl rfl ⟨_, rfl, rfl⟩ rfl (Nat.le_of_ble_eq_true rfl)) ?_
      refine AL.nil ?_
      refine AW.seqR ?_
      refine AL.s rfl (op_field_ptr (.e rfl) fd50_0) ?_
      refine AL.s rfl (op_load_ptr1 (.e rfl) rfl rfl sc3) ?_
      refine AL.s rfl (op_eql (.r rfl) (.r rfl)) ?_
      refine AL.nil ?_
      refine AW.cond (b := _) rfl (fun hc2 => ?_) (fun hc2 => ?_)
      · replace hm := iteT hc2 hm
        refine AW.reset 0 [(3, .mp 0), (5, .ptr 1 0), (9, .d (.sl (a1.map SConstraint.e))), (10, .d (.int .i64 (a1.length : Int))), (11, .d (.int .i64 s2))] [.ob (rmO D.i D.i 3 s3 []), .row [.d (.int .i64 v4.fKind), .d (.int .i64 v4.fA), .d (.int .i64 v4.fB)]] (WOK.g0 hw0 (by simp)) ⟨[0, 1], rfl, rfl, rfl, ⟨(.mp rfl), (.ptr rfl), (.d rfl), (.d rfl), (.d rfl), trivial⟩, trivial, (.ob rfl obR_rm (.row rfl (.cons (.d rfl) (.cons (.d rfl) (.cons (.d rfl) .nil))) .nil))⟩ ?_
        refine AW.gh (Gh.lendM (fk := D.i) (f := D.i) (m := s3) (n := 2) (id := 0) (k := v4.fA) (fun _ => rfl) rfl rfl (by simp [lget]) rfl) ?_
        obtain ⟨v5, hv5, hm⟩ := bindE hm
        refine AW.gh (Gh.lendM (fk := D.i) (f := D.i) (m := s3) (n := 3) (id := 0) (k := v4.fB) (fun _ => rfl) rfl rfl (by simp [lget, neK_ne hv5, Ne.symm (neK_ne hv5)]) rfl) ?_
        refine AW.free ?_
        refine AW.free ?_
        refine AW.drawnG [([], []), ([], []), ([1], []), ([], []), ([], []), ([1], []), ([], []), ([], []), ([1], []), ([0], []), ([], []), ([1], []), ([], []), ([2], [2, 4]), ([], []), ([], []), ([1], []), ([0], []), ([], []), ([1], []), ([], []), ([3], [3, 5]), ([0], [0]), ([], []), ([0, 4], [0]), ([0, 5], [0])] mo (by decide +kernel) ?_
        refine AD.s (ws := []) rfl rfl (fun H' _ hH => op_moveM (.e rfl)) ?_
        refine AD.s (ws := []) rfl rfl (fun H' _ hH => op_field_ptr (.e rfl) fd50_1) ?_
        refine AD.s (ws := []) rfl rfl (fun H' _ hH => op_load_ptr1 (.e rfl) ((hH _ (by simp)).trans rfl) rfl sc3) ?_
        refine AD.s (ws := []) rfl rfl (fun H' _ hH => op_moveM (.e rfl)) ?_
        refine AD.s (ws := []) rfl rfl (fun H' _ hH => op_field_ptr (.e rfl) fd50_2) ?_
        refine AD.s (ws := []) rfl rfl (fun H' _ hH => op_load_ptr1 (.e rfl) ((hH _ (by simp)).trans rfl) rfl sc3) ?_
        refine AD.s (ws := []) rfl rfl (fun H' _ hH => op_moveM (.e rfl)) ?_
        refine AD.s (ws := []) rfl rfl (fun H' _ hH => op_field_ptr (.e rfl) fd50_1) ?_
        refine AD.s (ws := []) rfl rfl (fun H' _ hH => op_load_ptr1 (.e rfl) ((hH _ (by simp)).trans rfl) rfl sc3) ?_
        refine AD.s (ws := []) rfl rfl (fun H' _ hH => op_lookup_rm (fk := D.i) (f := D.i) (m := s3) (n := 2) (len := ((mget s3 v4.fA).getD []).length) (k := v4.fA) (keyInt Try.underlying3) Try.underlying85 (.e rfl) (.r rfl) ((hH _ (by simp)).trans rfl) (by simp [lget, neK_ne hv5, Ne.symm (neK_ne hv5)]) mlen0 ⟨_, rfl, rfl⟩) ?_
        refine AD.s (ws := []) rfl rfl (fun H' _ hH => op_field_ptr (.e rfl) fd50_2) ?_
        refine AD.s (ws := []) rfl rfl (fun H' _ hH => op_load_ptr1 (.e rfl) ((hH _ (by simp)).trans rfl) rfl sc3) ?_
        refine AD.s (ws := []) rfl rfl (fun H' _ hH => op_buildSlice (ds := ([v4.fB] : List Int).map D.i) sl42 (.cons (.r rfl) rfl (En.i.one _) .nil) rfl (by decide)) ?_
        obtain ⟨v6, hv6, hm⟩ := bindE hm
        refine AD.s (ws := [(2, _), (4, _)]) rfl rfl (fun H' _ hH => op_appendHRM (res := 4) (f := D.i) (l := ((mget s3 v4.fA).getD [])) (l' := ([v4.fB] : List Int)) sl42 (.e rfl) (.r rfl) ((hH _ (by simp)).trans rfl) rfl ((hH _ (by simp)).trans rfl) En.i hv6) ?_
        refine AD.s (ws := []) rfl rfl (fun H' _ hH => op_moveM (.e rfl)) ?_
        refine AD.s (ws := []) rfl rfl (fun H' _ hH => op_field_ptr (.e rfl) fd50_2) ?_
        refine AD.s (ws := []) rfl rfl (fun H' _ hH => op_load_ptr1 (.e rfl) ((hH _ (by simp)).trans rfl) rfl sc3) ?_
        refine AD.s (ws := []) rfl rfl (fun H' _ hH => op_lookup_rm (fk := D.i) (f := D.i) (m := s3) (n := 3) (len := ((mget s3 v4.fB).getD []).length) (k := v4.fB) (keyInt Try.underlying3) Try.underlying85 (.e rfl) (.r rfl) ((hH _ (by simp)).trans rfl) (by simp [lget, neK_ne hv5, Ne.symm (neK_ne hv5)]) mlen0 ⟨_, rfl, rfl⟩) ?_
        refine AD.s (ws := []) rfl rfl (fun H' _ hH => op_field_ptr (.e rfl) fd50_1) ?_
        refine AD.s (ws := []) rfl rfl (fun H' _ hH => op_load_ptr1 (.e rfl) ((hH _ (by simp)).trans rfl) rfl sc3) ?_
        refine AD.s (ws := []) rfl rfl (fun H' _ hH => op_buildSlice (ds := ([v4.fA] : List Int).map D.i) sl42 (.cons (.r rfl) rfl (En.i.one _) .nil) rfl (by decide)) ?_
        obtain ⟨v7, hv7, hm⟩ := bindE hm
        refine AD.s (ws := [(3, _), (5, _)]) rfl rfl (fun H' _ hH => op_appendHRM (res := 5) (f := D.i) (l := ((mget s3 v4.fB).getD [])) (l' := ([v4.fA] : List Int)) sl42 (.e rfl) (.r rfl) ((hH _ (by simp)).trans rfl) rfl ((hH _ (by simp)).trans rfl) En.i hv7) ?_
        refine AD.s (ws := [(0, _)]) rfl rfl (fun H' _ hH => op_mapEntry_rm (fk := D.i) (f := D.i) (m := s3) (n := 2) (len := ((mget s3 v4.fA).getD []).length) (k := v4.fA) (keyInt Try.underlying3) Try.underlying85 (.e rfl) (.r rfl) ((hH _ (by simp)).trans rfl) (by simp [lget, neK_ne hv5, Ne.symm (neK_ne hv5)]) mlen0 ⟨_, rfl, rfl⟩) ?_
        refine AD.s (ws := []) rfl rfl (fun H' _ hH => op_extractV (.e rfl) rfl) ?_
        refine AD.s (ws := [(0, _)]) rfl rfl (fun H' _ hH => op_entryStore_rm (fk := D.i) (f := D.i) (m := (mtouch s3 v4.fA)) (L' := [(v4.fA, 4, v6.length), (v4.fB, 3, ((mget s3 v4.fB).getD []).length)]) (n := 2) (len := ((mget s3 v4.fA).getD []).length) (n' := 4) (len' := v6.length) (k := v4.fA) (l := v6) (.e rfl) (.r rfl) (.e rfl) mfind_touch ((hH _ (by simp)).trans rfl) ((hH _ (by simp)).trans rfl) rfl (by simp [lget, neK_ne hv5, Ne.symm (neK_ne hv5)]) (by simp [lset, neK_ne hv5, Ne.symm (neK_ne hv5)])) ?_
        refine AD.s (ws := [(0, _)]) rfl rfl (fun H' _ hH => op_mapUpdate_rm (fk := D.i) (f := D.i) (m := (mtouch s3 v4.fA)) (L' := [(v4.fA, 4, v6.length), (v4.fB, 5, v7.length)]) (n := 3) (len := ((mget s3 v4.fB).getD []).length) (n' := 5) (len' := v7.length) (k := v4.fB) (l := v7) (keyInt Try.underlying3) Try.underlying85 (.e rfl) (.r rfl) (.e rfl) ((hH _ (by simp)).trans rfl) ((hH _ (by simp)).trans rfl) rfl (by simp [lget, neK_ne hv5, Ne.symm (neK_ne hv5)]) (by simp [lset, neK_ne hv5, Ne.symm (neK_ne hv5)])) ?_
        refine AD.nil ?_
        refine GS.gh (Gh.backM (fk := D.i) (f := D.i) (m := (mtouch (mtouch s3 v4.fA) v4.fB)) (L' := [(v4.fB, 5, v7.length)]) (n := 4) (len := v6.length) (id := 0) (k := v4.fA) (l := v6) (fun _ => rfl) rfl (by simp [lget, neK_ne hv5, Ne.symm (neK_ne hv5)]) (by simp [List.filter, neK_ne hv5, Ne.symm (neK_ne hv5)]) (mtouch_keep mtouch_self) rfl rfl) ?_
        refine GS.gh (Gh.backM (fk := D.i) (f := D.i) (m := (mput (mtouch (mtouch s3 v4.fA) v4.fB) v4.fA v6)) (L' := []) (n := 5) (len := v7.length) (id := 0) (k := v4.fB) (l := v7) (fun _ => rfl) rfl (by simp [lget, neK_ne hv5, Ne.symm (neK_ne hv5)]) (by simp [List.filter, neK_ne hv5, Ne.symm (neK_ne hv5)]) (mput_keep mtouch_self) rfl rfl) ?_
        refine GS.nil ?_
        refine bq_n ?_
        obtain rfl := Option.some.inj hm
        exact nq ⟨_, rfl, ⟨[0], rfl, rfl, rfl, ⟨(.mp rfl), (.d rfl), (.d rfl), (.d rfl), trivial⟩, trivial, (.ob rfl obR_rm .nil)⟩⟩
      · replace hm := iteF hc2 hm
        refine AW.skip ?_
        refine bq_n ?_
        obtain rfl := Option.some.inj hm
        exact nq ⟨_, rfl, ⟨[0], rfl, rfl, rfl, ⟨(.mp rfl), (.d rfl), (.d rfl), (.d rfl), trivial⟩, trivial, (.ob rfl obR_rm .nil)⟩⟩
    · rintro s8 rfl
      replace hm := hkj1
      try dsimp only at hm
      refine AW.region ?_
      refine AL.s rfl (op_addw (.r rfl) (.r rfl)) ?_
      refine AL.s rfl (op_moveD (.e rfl)) ?_
      refine AL.nil ?_
      obtain rfl := Option.some.inj hm
      exact nq ⟨_, hI1, ⟨[0], rfl, rfl, rfl, ⟨(.mp rfl), (.d rfl), (.d rfl), (.d rfl), trivial⟩, trivial, (.ob rfl obR_rm .nil)⟩⟩
  · replace hm := iteF hc1 hm
    refine AW.exit ?_
    refine tq_exit ?_
    refine tq_exit ?_
    obtain rfl := Option.some.inj hm
    obtain rfl := Option.some.inj hI1
    replace hm := hk1
    try dsimp only at hm
    refine bq_hit ?_
    refine nq ?_
    refine AW.seq ?_
    refine AW.seqR ?_
    refine AL.s rfl (op_moveM (.e rfl)) ?_
    refine AL.s rfl (op_rangeMapR (n := 1) (fk := D.i) (f := D.i) (m := s3) Try.underlying85 (.e rfl) rfl rfl) ?_
    refine AL.nil ?_
    refine AW.block ?_
    obtain ⟨t_2, hI2, hk2⟩ := bindE hm
    refine AW.loopRows (fk := D.i) (f := D.i) (e := 3) (mid := 0) (rid := 1) 0 [3, 44] [] (fun y z => [.ob (rmO D.i D.i 3 y []), .ob z]) (l := s3) hI2 (WOK.g0 hw0 (by simp)) rfl ⟨[0, 1], rfl, rfl, rfl, trivial, ⟨rfl, rfl, trivial⟩, (.ob rfl obR_rm (.ob rfl (obR_it rfl) .nil))⟩ rfl (fun _ _ => rfl) (fun _ _ => rfl) (fun _ _ _ => rfl) rfl rfl ?_ ?_
    · rintro s_2 S_2 i_2 q_2 r_2 hls_2 hq_2 hmg_2 hm
      replace hm : m_constraint_neighbours_L2 n ((mget s_2 q_2.1).getD []) = some r_2 := by rw [show ((mget s_2 q_2.1).getD []) = q_2.2 by rw [hmg_2]; rfl]; exact hm
      unfold m_constraint_neighbours_L2 at hm
      try dsimp only at hm
      refine AW.gh (Gh.lendM (fk := D.i) (f := D.i) (m := s_2) (n := 2) (id := 0) (k := q_2.1) (fun _ => rfl) rfl rfl rfl rfl) ?_
      refine AW.block ?_
      refine AW.seqR ?_
      refine AL.s rfl (op_entryR (fk := D.i) (f := D.i) (m := s_2) (n := 2) (len := ((mget s_2 q_2.1).getD []).length) (q := q_2) (.e rfl) (by rw [hls_2]; rfl) rfl hq_2 (by simp [lget])) ?_
      refine AL.s rfl (op_extractV (.e rfl) rfl) ?_
      refine AL.s rfl (op_assignH (.e rfl)) ?_
      refine AL.nil ?_
      refine AW.region ?_
      refine AL.s rfl (op_moveH (.e rfl)) ?_
      obtain ⟨v9, hv9, hm⟩ := bindE hm
      refine AL.s rfl (op_callF (v := .tup []) (H' := [.ob (rmO D.i D.i 3 s_2 [(q_2.1, 2, ((mget s_2 q_2.1).getD []).length)]), .ob (itO 0 s3.length (S_2 ++ [i_2])), .lst (v9.map D.i) 3 1]) [2] Try.call59 (.e rfl) (.cons (.e rfl) .nil) (m_slices_Sort_int_int_ok hv9) rfl (.cons rfl .nil) rfl rfl rfl rfl rfl rfl rfl rfl) ?_
      refine AL.gh (Gh.backM (fk := D.i) (f := D.i) (m := s_2) (L' := []) (n := 2) (len := ((mget s_2 q_2.1).getD []).length) (id := 0) (k := q_2.1) (l := v9) (fun _ => rfl) rfl (by simp [lget]) (by simp [List.filter]) (mfind_mget hmg_2) rfl (m_slices_Sort_int_int_len hv9)) ?_
      refine AL.nil ?_
      refine bq_n ?_
      obtain rfl := Option.some.inj hm
      exact nq ⟨[0, 1], rfl, rfl, rfl, trivial, ⟨rfl, rfl, trivial⟩, (.ob rfl obR_rm (.ob rfl (obR_it rfl) .nil))⟩
    · rintro S_2
      replace hm := hk2
      try dsimp only at hm
      refine bq_hit ?_
      refine nq ?_
      refine AW.seqR ?_
      refine AL.s rfl (op_moveM (.e rfl)) ?_
      refine AL.s rfl (op_assignM (.e rfl)) ?_
      refine AL.nil ?_
      refine AW.gh (Gh.freezeM (fk := D.i) (f := D.i) (m := t_2) (e := 3) (id := 0) (fun _ => rfl) rfl) ?_
      refine AW.ret ?_
      obtain rfl := Option.some.inj hm
      exact ⟨_, [0], (.tmp (.e rfl) .nil), rfl, rfl, (.cons (.mp rfl) .nil), (.ob rfl obR_mp .nil)⟩

set_option maxHeartbeats 20000000 in
theorem m_slices_IndexFunc_int_int_f2_ok {n : Nat} {H : List HE} {a1 : (List Int)} {p2 : Int → Option Bool} {r : Int} {ff_p2 : FuncId} {caps_p2 : List V} (hff_p2 : ∀ (a : Array Value) (w : World), (callFunc ff_p2 a).run Try.prog w = .ok (.enter ff_p2 a) w) (hF_p2 : ∀ (y1 : Int) (b : Bool), p2 y1 = some b → ACall Try.prog ff_p2 (.d (.int .i64 y1) :: caps_p2) H fun r' H' => r' = .d (.bool b) ∧ H' = H) (hm : m_slices_IndexFunc_int_int_f2 n a1 p2 = some r) : ACall Try.prog 62 [.d (.sl (a1.map D.i)), .fn (.func ff_p2) caps_p2] H fun r' H' => r' = .d (.int .i64 r) ∧ H' = H := by
  unfold m_slices_IndexFunc_int_int_f2 at hm
  refine ACall.of_AW (fnn := Try.f62) Try.func62 rfl (Nat.le_of_ble_eq_true rfl) (fun g0 w0 hw0 => ?_)
  refine AW.seqR ?_
  refine AL.s rfl (op_assignD (.e rfl)) ?_
  refine AL.nil ?_
  refine AW.seq ?_
  refine AW.seqR ?_
  refine AL.s rfl (op_moveD (.e rfl)) ?_
  refine AL.s rfl (op_lenM (f := D.i) (.r rfl) sl42) ?_
  refine AL.s rfl (op_moveD (.e rfl)) ?_
  refine AL.nil ?_
  refine AW.block ?_
  obtain ⟨t_1, hI1, hk1⟩ := bindE hm
  refine AW.loopN (σ := Int) (τ := (Int ⊕ Unit)) [0, 1, 7] (fun x => [(8, .d (.int .i64 x))]) hI1 ⟨by first | exact .of rfl | exact .d rfl, trivial⟩ ?_
  rintro n1 s3 hI1
  obtain ⟨y_1, hm, hI1⟩ := iterS hI1
  replace hm : m_slices_IndexFunc_int_int_f2_L1 n _ _ s3 = some y_1 := hm
  unfold m_slices_IndexFunc_int_int_f2_L1 at hm
  try dsimp only at hm
  refine AW.seqR ?_
  refine AL.s rfl (op_lss (.r rfl) (.r rfl)) ?_
  refine AL.nil ?_
  refine AW.seq ?_
  refine AW.cond (b := _) rfl (fun hc1 => ?_) (fun hc1 => ?_)
  · replace hm := iteT hc1 hm
    refine AW.skip ?_
    refine nq ?_
    refine AW.seq ?_
    refine AW.block ?_
    refine AW.seqR ?_
    refine AL.s rfl (op_moveD (.e rfl)) ?_
    refine AL.s rfl (op_assignD (.e rfl)) ?_
    refine AL.nil ?_
    refine AW.seqR ?_
    refine AL.s rfl (op_moveF (.e rfl)) ?_
    refine AL.s rfl (op_moveD (.e rfl)) ?_
    refine AL.s rfl (op_moveD (.e rfl)) ?_
    obtain ⟨v4, hv4, hm⟩ := bindE hm
    refine AL.s rfl (op_indexAddrM (f := D.i) (.r rfl) (.r rfl) hv4 En.i sl42) ?_
    refine AL.s rfl (op_load_vp1 (.e rfl) rfl sc3) ?_
    obtain ⟨v5, hv5, hm⟩ := bindE hm
    refine AL.s rfl (op_call hff_p2 (.e rfl) (.cons (.e rfl) .nil) (hF_p2 _ _ hv5)) ?_
    refine AL.nil ?_
    refine AW.cond (b := _) rfl (fun hc2 => ?_) (fun hc2 => ?_)
    · replace hm := iteT hc2 hm
      refine AW.seqR ?_
      refine AL.s rfl (op_moveD (.e rfl)) ?_
      refine AL.s rfl (op_assignD (.e rfl)) ?_
      refine AL.nil ?_
      refine AW.ret ?_
      refine bq_ret ?_
      refine tq_ret ?_
      refine tq_ret ?_
      obtain rfl := Option.some.inj hm
      obtain rfl := Option.some.inj hI1
      replace hm := hk1
      try dsimp only at hm
      refine bq_ret ?_
      refine tq_ret ?_
      obtain rfl := Option.some.inj hm
      exact ⟨_, _, (.tmp (.e rfl) .nil), .d rfl, rfl, rfl⟩
    · replace hm := iteF hc2 hm
      refine AW.skip ?_
      refine bq_n ?_
      refine nq ?_
      refine AW.region ?_
      refine AL.s rfl (op_addw (.r rfl) (.r rfl)) ?_
      refine AL.s rfl (op_moveD (.e rfl)) ?_
      refine AL.nil ?_
      obtain rfl := Option.some.inj hm
      exact nq ⟨_, hI1, ⟨by first | exact .of rfl | exact .d rfl, trivial⟩, ⟨rfl, rfl, rfl, trivial⟩, rfl⟩
  · replace hm := iteF hc1 hm
    refine AW.exit ?_
    refine tq_exit ?_
    refine tq_exit ?_
    obtain rfl := Option.some.inj hm
    obtain rfl := Option.some.inj hI1
    replace hm := hk1
    try dsimp only at hm
    refine bq_hit ?_
    refine nq ?_
    refine AW.seqR ?_
    refine AL.s rfl (op_assignD (.e rfl)) ?_
    refine AL.nil ?_
    refine AW.ret ?_
    obtain rfl := Option.some.inj hm
    exact ⟨_, _, (.tmp (.e rfl) .nil), .d rfl, rfl, rfl⟩

set_option maxHeartbeats 20000000 in
theorem m_constraint_path_1_ok {n : Nat} {a1 : Int} {c2 : (List (Int × Int))} {c3 : Int} {r : Bool} (hm : m_constraint_path_1 n a1 c2 c3 = some r) : ACall Try.prog 63 [.d (.int .i64 a1), .ptr 0 0, .ptr 2 0] [.row [.mp 1], .ob (mpO (c2.map (fun q => ((.int .i64 q.1), (.int .i64 q.2))))), .row [.d (.int .i64 c3)]] fun r' H' => r' = resOf [.d (.bool r)] ∧ H' = [.row [.mp 1], .ob (mpO (c2.map (fun q => ((.int .i64 q.1), (.int .i64 q.2))))), .row [.d (.int .i64 c3)]] := by
  unfold m_constraint_path_1 at hm
  refine ACall.of_AWG (fnn := Try.f63) Try.func63 rfl (Nat.le_of_ble_eq_true rfl) (fun g0 w0 hw0 => ?_)
  refine AW.seqR ?_
  refine AL.s rfl (op_assignD (.e rfl)) ?_
  refine AL.nil ?_
  refine AW.seqR ?_
  refine AL.s rfl (op_load_ptr1 (.e rfl) rfl rfl sc63) ?_
  refine AL.s rfl (op_moveD (.e rfl)) ?_
  refine AL.s rfl (op_lookup (m := c2) (k := a1) (z := ((0 : Int) : Int)) (fv := D.i) (keyInt Try.underlying3) Try.underlying63 (.e rfl) (.r rfl) rfl ⟨_, rfl, rfl⟩ (fun _ _ => .int _ _)) ?_
  refine AL.s rfl (op_load_ptr1 (.e rfl) rfl rfl sc63) ?_
  refine AL.s rfl (op_load_ptr1 (.e rfl) rfl rfl sc3) ?_
  refine AL.s rfl (op_lookup (m := c2) (k := c3) (z := ((0 : Int) : Int)) (fv := D.i) (keyInt Try.underlying3) Try.underlying63 (.e rfl) (.r rfl) rfl ⟨_, rfl, rfl⟩ (fun _ _ => .int _ _)) ?_
  refine AL.s rfl (op_subw (.r rfl) (.r rfl)) ?_
  refine AL.s rfl (op_eql (.r rfl) (.r rfl)) ?_
  refine AL.s rfl (op_assignD (.e rfl)) ?_
  refine AL.nil ?_
  refine AW.ret ?_
  obtain rfl := Option.some.inj hm
  exact ⟨_, [0, 1, 2], (.tmp (.e rfl) .nil), rfl, rfl, (.cons (.d rfl) .nil), (.row rfl (.cons (.mp rfl) .nil) (.ob rfl obR_mp (.row rfl (.cons (.d rfl) .nil) .nil)))⟩

set_option maxHeartbeats 20000000 in
theorem m_constraint_path_ok {n : Nat} {a1 : (List SConstraint)} {a2 : Int} {a3 : Int} {r : (List Int)} (hm : m_constraint_path n a1 a2 a3 = some r) : Fn Try.prog 40 [(.sl (a1.map SConstraint.e)), (.int .i64 a2), (.int .i64 a3)] (.sl (r.map D.i)) := by
  unfold m_constraint_path at hm
  refine Fn.of_AW (fnn := Try.f40) Try.func40 rfl (Nat.le_of_ble_eq_true rfl) (fun g0 w0 hw0 => ?_)
  refine AW.reset 0 [(0, .d (.sl (a1.map SConstraint.e))), (1, .d (.int .i64 a2)), (2, .d (.int .i64 a3))] [] (WOK.g0 hw0 (by simp)) ⟨[], rfl, rfl, rfl, ⟨(.d rfl), (.d rfl), (.d rfl), trivial⟩, trivial, .nil⟩ ?_
  refine AW.seqR ?_
  refine AL.s rfl (op_box (n := 0) (.e rfl) rfl rfl rfl) ?_
  refine AL.s rfl (op_assignN (.e rfl)) ?_
  refine AL.nil ?_
  refine AW.seqR ?_
  refine AL.s rfl (op_moveD (.e rfl)) ?_
  obtain ⟨v4, hv4, hm⟩ := bindE hm
  refine AL.s rfl (op_callF (v := .mp 1) (H' := [.row [.d (.int .i64 a2)], .ob (mpO (v4.map (fun q => ((.int .i64 q.1), (.sl (q.2.map D.i))))))]) [] Try.call61 (.e rfl) (.cons (.e rfl) .nil) (m_constraint_neighbours_ok hv4) rfl .nil rfl rfl rfl rfl rfl rfl rfl rfl) ?_
  refine AL.s rfl (op_assignM (.e rfl)) ?_
  refine AL.nil ?_
  refine AW.seqR ?_
  refine AL.s rfl (op_makeMap (n := 2) rfl) ?_
  refine AL.s rfl (op_moveD (.e rfl)) ?_
  obtain ⟨v5, hv5, hm⟩ := bindE hm
  refine AL.s rfl (op_insert_of (op_mapUpdateM (m := ([] : (List (Int × Int)))) (k := a3) (v := (0 : Int)) (fv := D.i) (keyInt Try.underlying3) Try.underlying63 (.e rfl) (.r rfl) (.r rfl) rfl hv5)) ?_
  refine AL.s rfl (op_moveM (.e rfl)) ?_
  refine AL.s rfl (op_alloc (n := 3) zr63 rfl) ?_
  refine AL.s rfl (op_store (.e rfl) (.e rfl) rfl rfl rfl ⟨_, rfl, rfl⟩ rfl (Nat.le_of_ble_eq_true rfl)) ?_
  refine AL.nil ?_
  refine AW.seqR ?_
  refine AL.s rfl (op_moveD (.e rfl)) ?_
  refine AL.s rfl (op_buildH (k := 4) (f := D.i) (l := ([a3] : List Int)) sl42 (.cons (.r rfl) rfl (En.i.one _) .nil) rfl (by decide) (by decide) rfl) ?_
  refine AL.gh (Gh.toQu (f := D.i) (q := ([a3] : List Int)) (id := 4) (fun _ => rfl) (by simp) rfl) ?_
  refine AL.s rfl (op_assignH (.e rfl)) ?_
  refine AL.nil ?_
  refine AW.seq ?_
  refine AW.block ?_
  obtain ⟨t_1, hI1, hk1⟩ := bindE hm
  refine AW.loopS (σ := ((List (Int × Int)) × (List Int))) (τ := ((List (Int × Int)) × (List Int))) 0 (fun x => [(2, .d (.int .i64 a3)), (4, .ptr 0 0), (7, .mp 1), (8, .ptr 3 0), (9, .hs 4 0 x.2.length 1)]) (fun x => [.row [.d (.int .i64 a2)], .ob (mpO (v4.map (fun q => ((.int .i64 q.1), (.sl (q.2.map D.i)))))), .ob (mpO (x.1.map (fun q => ((.int .i64 q.1), (.int .i64 q.2))))), .row [.mp 2], .ob (quO 3 (x.2.map D.i))]) hI1 (WOK.g0 hw0 (by simp)) ⟨[0, 1, 2, 3, 4], rfl, rfl, rfl, ⟨(.d rfl), (.ptr rfl), (.mp rfl), (.ptr rfl), (.hs rfl rfl), trivial⟩, trivial, (.row rfl (.cons (.d rfl) .nil) (.ob rfl obR_mp (.ob rfl obR_mp (.row rfl (.cons (.mp rfl) .nil) (.ob rfl obR_qu .nil)))))⟩ ?_
  rintro n1 ⟨s6, s7⟩ hI1
  obtain ⟨y_1, hm, hI1⟩ := iterS hI1
  replace hm : m_constraint_path_L1 n _ s6 s7 = some y_1 := hm
  unfold m_constraint_path_L1 at hm
  try dsimp only at hm
  refine AW.seq ?_
  refine AW.seqR ?_
  refine AL.s rfl (op_moveH (.e rfl)) ?_
  refine AL.s rfl (op_len_qu (.e rfl) rfl sl42) ?_
  refine AL.s rfl (op_gtr (.r rfl) (.r rfl)) ?_
  refine AL.nil ?_
  refine AW.cond (b := _) rfl (fun hc1 => ?_) (fun hc1 => ?_)
  · replace hm := iteT hc1 hm
    refine AW.skip ?_
    refine nq ?_
    refine AW.block ?_
    refine AW.seqR ?_
    refine AL.s rfl (op_moveH (.e rfl)) ?_
    refine Gh.openQu 4 rfl (fun kq_9 => ?_)
    obtain ⟨v8, hv8, hm⟩ := bindE hm
    refine AL.s rfl (op_index_qu (f := D.i) (q := s7) (.e rfl) rfl (.r rfl) hv8 sl42) ?_
    obtain ⟨v9, hv9, hm⟩ := bindE hm
    refine AL.s rfl (op_load_qu (f := D.i) (q := s7) (a := (0 : Int)) (fun _ => rfl) (.e rfl) rfl hv9 sc3) ?_
    refine AL.s rfl (op_assignD (.e rfl)) ?_
    refine AL.gh (Gh.closeQu (id := 4) rfl) ?_
    refine AL.nil ?_
    refine AW.seqR ?_
    refine AL.s rfl (op_moveH (.e rfl)) ?_
    obtain ⟨v10, hv10, hm⟩ := bindE hm
    refine AL.s rfl (op_slice_qu (n := 5) (f := D.i) (q := s7) (.e rfl) rfl (.r rfl) rfl hv10 sl42) ?_
    refine AL.s rfl (op_assignH (.e rfl)) ?_
    refine AL.nil ?_
    refine AW.seqR ?_
    refine AL.s rfl (op_moveM (.e rfl)) ?_
    refine AL.s rfl (op_moveD (.e rfl)) ?_
    refine AL.s rfl (op_lookup (m := v4) (k := v9) (z := ([] : (List Int))) (fv := (esl D.i)) (keyInt Try.underlying3) Try.underlying85 (.e rfl) (.r rfl) rfl ⟨_, rfl, rfl⟩ (fun _ _ => repNil)) ?_
    refine AL.s rfl (op_lenM (f := D.i) (.r rfl) sl42) ?_
    refine AL.s rfl (op_moveD (.e rfl)) ?_
    refine AL.nil ?_
    refine AW.block ?_
    obtain ⟨t_2, hI2, hk2⟩ := bindE hm
    refine AW.loopS (σ := (Int × (List (Int × Int)) × (List Int))) (τ := ((List (Int × Int)) × (List Int))) 0 (fun x => [(2, .d (.int .i64 a3)), (4, .ptr 0 0), (7, .mp 1), (8, .ptr 3 0), (9, .hs 5 0 x.2.2.length 1), (10, .d (.int .i64 v9)), (34, .d (.sl (((mget v4 v9).getD ([] : (List Int))).map D.i))), (35, .d (.int .i64 (((mget v4 v9).getD ([] : (List Int))).length : Int))), (36, .d (.int .i64 x.1))]) (fun x => [.row [.d (.int .i64 a2)], .ob (mpO (v4.map (fun q => ((.int .i64 q.1), (.sl (q.2.map D.i)))))), .ob (mpO (x.2.1.map (fun q => ((.int .i64 q.1), (.int .i64 q.2))))), .row [.mp 2], .dead, .ob (quO 3 (x.2.2.map D.i))]) hI2 (WOK.g0 hw0 (by simp)) ⟨[0, 1, 2, 3, 4, 5], rfl, rfl, rfl, ⟨(.d rfl), (.ptr rfl), (.mp rfl), (.ptr rfl), (.hs rfl rfl), (.d rfl), (.d rfl), (.d rfl), (.d rfl), trivial⟩, trivial, (.row rfl (.cons (.d rfl) .nil) (.ob rfl obR_mp (.ob rfl obR_mp (.row rfl (.cons (.mp rfl) .nil) (.dead (.ob rfl obR_qu .nil))))))⟩ ?_
    rintro n2 ⟨s11, s12, s13⟩ hI2
    obtain ⟨y_2, hm, hI2⟩ := iterS hI2
    replace hm : m_constraint_path_L2 n _ _ s11 s12 s13 = some y_2 := hm
    unfold m_constraint_path_L2 at hm
    try dsimp only at hm
    refine AW.seqR ?_
    refine AL.s rfl (op_lss (.r rfl) (.r rfl)) ?_
    refine AL.nil ?_
    refine AW.seq ?_
    refine AW.cond (b := _) rfl (fun hc2 => ?_) (fun hc2 => ?_)
    · replace hm := iteT hc2 hm
      refine AW.skip ?_
      refine nq ?_
      obtain ⟨t_j1, hm, hkj1⟩ := bindE hm
      refine AW.cutS (α := ((List (Int × Int)) × (List Int))) 0 (fun x => x = t_j1) (fun x => [(2, .d (.int .i64 a3)), (4, .ptr 0 0), (7, .mp 1), (8, .ptr 3 0), (9, .hs 5 0 x.2.length 1), (10, .d (.int .i64 v9)), (34, .d (.sl (((mget v4 v9).getD ([] : (List Int))).map D.i))), (35, .d (.int .i64 (((mget v4 v9).getD ([] : (List Int))).length : Int))), (36, .d (.int .i64 s11))]) (fun x => [.row [.d (.int .i64 a2)], .ob (mpO (v4.map (fun q => ((.int .i64 q.1), (.sl (q.2.map D.i)))))), .ob (mpO (x.1.map (fun q => ((.int .i64 q.1), (.int .i64 q.2))))), .row [.mp 2], .dead, .ob (quO 3 (x.2.map D.i))]) (WOK.g0 hw0 (by simp)) ?_ ?_
      · skip
        refine AW.block ?_
        refine AW.seqR ?_
        obtain ⟨v14, hv14, hm⟩ := bindE hm
        refine AL.s rfl (op_indexAddrM (f := D.i) (.r rfl) (.r rfl) hv14 En.i sl42) ?_
        refine AL.s rfl (op_load_vp1 (.e rfl) rfl sc3) ?_
        refine AL.s rfl (op_assignD (.e rfl)) ?_
        refine AL.nil ?_
        refine AW.seqR ?_
        refine AL.s rfl (op_load_ptr1 (.e rfl) rfl rfl sc63) ?_
        refine AL.s rfl (op_moveD (.e rfl)) ?_
        refine AL.s rfl (op_lookupOk (m := s12) (k := v14) (z := ((0 : Int) : Int)) (fv := D.i) (keyInt Try.underlying3) Try.underlying63 (.e rfl) (.r rfl) rfl ⟨_, rfl, rfl⟩ (fun _ _ => .int _ _)) ?_
        refine AL.s rfl (op_moveU (.e rfl)) ?_
        refine AL.s rfl (op_extractV (.e rfl) rfl) ?_
        refine AL.s rfl (op_extractV (.e rfl) rfl) ?_
        refine AL.s rfl (op_assignD (.e rfl)) ?_
        refine AL.s rfl (op_assignD (.e rfl)) ?_
        refine AL.nil ?_
        refine AW.seqR ?_
        refine AL.s rfl (op_moveD (.e rfl)) ?_
        refine AL.s rfl (op_not (.r rfl)) ?_
        refine AL.nil ?_
        refine AW.cond (b := _) rfl (fun hc3 => ?_) (fun hc3 => ?_)
        · replace hm := iteT hc3 hm
          refine AW.seqR ?_
          refine AL.s rfl (op_load_ptr1 (.e rfl) rfl rfl sc63) ?_
          refine AL.s rfl (op_moveD (.e rfl)) ?_
          refine AL.s rfl (op_load_ptr1 (.e rfl) rfl rfl sc63) ?_
          refine AL.s rfl (op_moveD (.e rfl)) ?_
          refine AL.s rfl (op_lookup (m := s12) (k := v9) (z := ((0 : Int) : Int)) (fv := D.i) (keyInt Try.underlying3) Try.underlying63 (.e rfl) (.r rfl) rfl ⟨_, rfl, rfl⟩ (fun _ _ => .int _ _)) ?_
          refine AL.s rfl (op_addw (.r rfl) (.r rfl)) ?_
          obtain ⟨v15, hv15, hm⟩ := bindE hm
          refine AL.s rfl (op_mapUpdateM (m := s12) (k := v14) (v := (IntKind.i64.wrap (((mget s12 v9).getD ((0 : Int) : Int)) + (1 : Int)))) (fv := D.i) (keyInt Try.underlying3) Try.underlying63 (.e rfl) (.r rfl) (.r rfl) rfl hv15) ?_
          refine AL.nil ?_
          refine AW.reset 0 [(2, .d (.int .i64 a3)), (4, .ptr 0 0), (7, .mp 1), (8, .ptr 3 0), (9, .hs 5 0 s13.length 1), (10, .d (.int .i64 v9)), (12, .d (.int .i64 v14)), (34, .d (.sl (((mget v4 v9).getD ([] : (List Int))).map D.i))), (35, .d (.int .i64 (((mget v4 v9).getD ([] : (List Int))).length : Int))), (36, .d (.int .i64 s11))] [.row [.d (.int .i64 a2)], .ob (mpO (v4.map (fun q => ((.int .i64 q.1), (.sl (q.2.map D.i)))))), .ob (mpO (v15.map (fun q => ((.int .i64 q.1), (.int .i64 q.2))))), .row [.mp 2], .dead, .ob (quO 3 (s13.map D.i))] (WOK.g0 hw0 (by simp)) ⟨[0, 1, 2, 3, 4, 5], rfl, rfl, rfl, ⟨(.d rfl), (.ptr rfl), (.mp rfl), (.ptr rfl), (.hs rfl rfl), (.d rfl), (.d rfl), (.d rfl), (.d rfl), (.d rfl), trivial⟩, trivial, (.row rfl (.cons (.d rfl) .nil) (.ob rfl obR_mp (.ob rfl obR_mp (.row rfl (.cons (.mp rfl) .nil) (.dead (.ob rfl obR_qu .nil))))))⟩ ?_
          refine AW.region ?_
          refine AL.s rfl (op_moveH (.e rfl)) ?_
          refine AL.s rfl (op_moveD (.e rfl)) ?_
          refine AL.s rfl (op_buildSlice (ds := ([v14] : List Int).map D.i) sl42 (.cons (.r rfl) rfl (En.i.one _) .nil) rfl (by decide)) ?_
          obtain ⟨v16, hv16, hm⟩ := bindE hm
          refine AL.s rfl (op_append_qu (n := 6) (f := D.i) (q := s13) (l' := ([v14] : List Int)) sl42 En.i (fun _ => rfl) (.e rfl) (.r rfl) (by simp) rfl rfl hv16) ?_
          refine AL.s rfl (op_assignH (.e rfl)) ?_
          refine AL.nil ?_
          refine bq_n ?_
          obtain rfl := Option.some.inj hm
          exact nq ⟨_, rfl, ⟨[0, 1, 2, 3, 4, 6], rfl, rfl, rfl, ⟨(.d rfl), (.ptr rfl), (.mp rfl), (.ptr rfl), (.hs rfl rfl), (.d rfl), (.d rfl), (.d rfl), (.d rfl), trivial⟩, trivial, (.row rfl (.cons (.d rfl) .nil) (.ob rfl obR_mp (.ob rfl obR_mp (.row rfl (.cons (.mp rfl) .nil) (.dead (.ob rfl obR_qu .nil))))))⟩⟩
        · replace hm := iteF hc3 hm
          refine AW.skip ?_
          refine bq_n ?_
          obtain rfl := Option.some.inj hm
          exact nq ⟨_, rfl, ⟨[0, 1, 2, 3, 4, 5], rfl, rfl, rfl, ⟨(.d rfl), (.ptr rfl), (.mp rfl), (.ptr rfl), (.hs rfl rfl), (.d rfl), (.d rfl), (.d rfl), (.d rfl), trivial⟩, trivial, (.row rfl (.cons (.d rfl) .nil) (.ob rfl obR_mp (.ob rfl obR_mp (.row rfl (.cons (.mp rfl) .nil) (.dead (.ob rfl obR_qu .nil))))))⟩⟩
      · rintro ⟨s17, s18⟩ rfl
        replace hm := hkj1
        try dsimp only at hm
        refine AW.region ?_
        refine AL.s rfl (op_addw (.r rfl) (.r rfl)) ?_
        refine AL.s rfl (op_moveD (.e rfl)) ?_
        refine AL.nil ?_
        obtain rfl := Option.some.inj hm
        exact nq ⟨_, hI2, ⟨[0, 1, 2, 3, 4, 5], rfl, rfl, rfl, ⟨(.d rfl), (.ptr rfl), (.mp rfl), (.ptr rfl), (.hs rfl rfl), (.d rfl), (.d rfl), (.d rfl), (.d rfl), trivial⟩, trivial, (.row rfl (.cons (.d rfl) .nil) (.ob rfl obR_mp (.ob rfl obR_mp (.row rfl (.cons (.mp rfl) .nil) (.dead (.ob rfl obR_qu .nil))))))⟩⟩
    · replace hm := iteF hc2 hm
      refine AW.exit ?_
      refine tq_exit ?_
      refine tq_exit ?_
      obtain rfl := Option.some.inj hm
      obtain rfl := Option.some.inj hI2
      replace hm := hk2
      try dsimp only at hm
      refine bq_hit ?_
      refine bq_n ?_
      obtain rfl := Option.some.inj hm
      exact nq ⟨_, hI1, ⟨[0, 1, 2, 3, 5], rfl, rfl, rfl, ⟨(.d rfl), (.ptr rfl), (.mp rfl), (.ptr rfl), (.hs rfl rfl), trivial⟩, trivial, (.row rfl (.cons (.d rfl) .nil) (.ob rfl obR_mp (.ob rfl obR_mp (.row rfl (.cons (.mp rfl) .nil) (.ob rfl obR_qu .nil)))))⟩⟩
  · replace hm := iteF hc1 hm
    refine AW.exit ?_
    refine tq_exit ?_
    refine tq_exit ?_
    obtain rfl := Option.some.inj hm
    obtain rfl := Option.some.inj hI1
    replace hm := hk1
    try dsimp only at hm
    refine bq_hit ?_
    refine nq ?_
    refine AW.seqR ?_
    refine AL.s rfl (op_load_ptr1 (.e rfl) rfl rfl sc3) ?_
    refine AL.s rfl (op_buildSlice (ds := ([a2] : List Int).map D.i) sl42 (.cons (.r rfl) rfl (En.i.one _) .nil) rfl (by decide)) ?_
    refine AL.s rfl (op_assignE (.e rfl)) ?_
    refine AL.nil ?_
    refine AW.seq ?_
    refine AW.block ?_
    refine AW.tokenize (n := 5) 15 3 1 rfl rfl (by simp) ?_
    obtain ⟨t_3, hI3, hk3⟩ := bindE hm
    refine AW.loopS (σ := ((List Int) × Int)) (τ := ((List Int) × Int)) 0 (fun x => [(2, .d (.int .i64 a3)), (4, .ptr 0 0), (7, .mp 1), (8, .ptr 3 0), (15, .tk 5 (x.1.map D.i))]) (fun x => [.row [.d (.int .i64 x.2)], .ob (mpO (v4.map (fun q => ((.int .i64 q.1), (.sl (q.2.map D.i)))))), .ob (mpO (s6.map (fun q => ((.int .i64 q.1), (.int .i64 q.2))))), .row [.mp 2], .ob (quO 3 (s7.map D.i)), .tok x.1.length 3 1]) hI3 (WOK.g0 hw0 (by simp)) ⟨[0, 1, 2, 3, 4, 5], rfl, rfl, rfl, ⟨(.d rfl), (.ptr rfl), (.mp rfl), (.ptr rfl), (.tk rfl), trivial⟩, trivial, (.row rfl (.cons (.d rfl) .nil) (.ob rfl obR_mp (.ob rfl obR_mp (.row rfl (.cons (.mp rfl) .nil) (.ob rfl obR_qu (.tok rfl .nil))))))⟩ ?_
    rintro n3 ⟨s19, s20⟩ hI3
    obtain ⟨y_3, hm, hI3⟩ := iterS hI3
    replace hm : m_constraint_path_L3 n _ _ _ s19 s20 = some y_3 := hm
    unfold m_constraint_path_L3 at hm
    try dsimp only at hm
    refine AW.seq ?_
    refine AW.seqR ?_
    refine AL.s rfl (op_load_ptr1 (.e rfl) rfl rfl sc3) ?_
    refine AL.s rfl (op_moveD (.e rfl)) ?_
    refine AL.s rfl (op_neq (.r rfl) (.r rfl)) ?_
    refine AL.nil ?_
    refine AW.cond (b := _) rfl (fun hc4 => ?_) (fun hc4 => ?_)
    · replace hm := iteT hc4 hm
      refine AW.skip ?_
      refine nq ?_
      refine AW.block ?_
      refine AW.seqR ?_
      refine AL.s rfl (op_moveM (.e rfl)) ?_
      refine AL.s rfl (op_load_ptr1 (.e rfl) rfl rfl sc3) ?_
      refine AL.s rfl (op_lookup (m := v4) (k := s20) (z := ([] : (List Int))) (fv := (esl D.i)) (keyInt Try.underlying3) Try.underlying85 (.e rfl) (.r rfl) rfl ⟨_, rfl, rfl⟩ (fun _ _ => repNil)) ?_
      refine AL.s rfl (op_makeFunc (.cons (.e rfl) (.cons (.e rfl) .nil))) ?_
      obtain ⟨v21, hv21, hm⟩ := bindE hm
      refine AL.s rfl (op_call Try.call62 (.e rfl) (.cons (.e rfl) (.cons (.e rfl) .nil)) (m_slices_IndexFunc_int_int_f2_ok Try.call63 (fun _ _ hb => ACall.quiet [3, 2, 0] (m_constraint_path_1_ok hb) rfl (.cons rfl (.cons rfl (.cons rfl .nil))) rfl rfl rfl rfl rfl) hv21)) ?_
      refine AL.s rfl (op_assignD (.e rfl)) ?_
      refine AL.nil ?_
      refine AW.seqR ?_
      refine AL.s rfl (op_moveM (.e rfl)) ?_
      refine AL.s rfl (op_load_ptr1 (.e rfl) rfl rfl sc3) ?_
      refine AL.s rfl (op_lookup (m := v4) (k := s20) (z := ([] : (List Int))) (fv := (esl D.i)) (keyInt Try.underlying3) Try.underlying85 (.e rfl) (.r rfl) rfl ⟨_, rfl, rfl⟩ (fun _ _ => repNil)) ?_
      refine AL.s rfl (op_moveD (.e rfl)) ?_
      obtain ⟨v22, hv22, hm⟩ := bindE hm
      refine AL.s rfl (op_indexAddrM (f := D.i) (.r rfl) (.r rfl) hv22 En.i sl42) ?_
      refine AL.s rfl (op_load_vp1 (.e rfl) rfl sc3) ?_
      refine AL.s rfl (op_storeD (.e rfl) (.e rfl) rfl rfl rfl ⟨_, rfl, rfl⟩ (Nat.le_of_ble_eq_true rfl)) ?_
      refine AL.nil ?_
      refine AW.region ?_
      refine AL.s rfl (op_moveT (.e rfl)) ?_
      refine AL.s rfl (op_load_ptr1 (.e rfl) rfl rfl sc3) ?_
      refine AL.s rfl (op_buildSlice (ds := ([v22] : List Int).map D.i) sl42 (.cons (.r rfl) rfl (En.i.one _) .nil) rfl (by decide)) ?_
      obtain ⟨v23, hv23, hm⟩ := bindE hm
      refine AL.s rfl (op_appendM (f := D.i) (l' := ([v22] : List Int)) sl42 (.e rfl) (.r rfl) rfl rfl En.i hv23) ?_
      refine AL.s rfl (op_assignT (.e rfl)) ?_
      refine AL.nil ?_
      refine bq_n ?_
      obtain rfl := Option.some.inj hm
      exact nq ⟨_, hI3, ⟨[0, 1, 2, 3, 4, 5], rfl, rfl, rfl, ⟨(.d rfl), (.ptr rfl), (.mp rfl), (.ptr rfl), (.tk rfl), trivial⟩, trivial, (.row rfl (.cons (.d rfl) .nil) (.ob rfl obR_mp (.ob rfl obR_mp (.row rfl (.cons (.mp rfl) .nil) (.ob rfl obR_qu (.tok rfl .nil))))))⟩⟩
    · replace hm := iteF hc4 hm
      refine AW.exit ?_
      refine tq_exit ?_
      refine tq_exit ?_
      obtain rfl := Option.some.inj hm
      obtain rfl := Option.some.inj hI3
      replace hm := hk3
      try dsimp only at hm
      refine bq_hit ?_
      refine nq ?_
      refine AW.seqR ?_
      refine AL.s rfl (op_moveT (.e rfl)) ?_
      refine AL.s rfl (op_assignT (.e rfl)) ?_
      refine AL.nil ?_
      refine AW.ret ?_
      obtain rfl := Option.some.inj hm
      exact EndQ.d (.tmp (.e rfl) .nil) rfl rfl

set_option maxHeartbeats 20000000 in
theorem m_constraint_Conflicts_ok {n : Nat} {a1 : (List SConstraint)} {r : ((List SConflict) × Int)} (hm : m_constraint_Conflicts n a1 = some r) : Fn Try.prog 16 [(.sl (a1.map SConstraint.e))] (.tup [(.sl (r.1.map SConflict.e)), (.int .i64 r.2)]) := by
  unfold m_constraint_Conflicts at hm
  refine Fn.of_AW (fnn := Try.f16) Try.func16 rfl (Nat.le_of_ble_eq_true rfl) (fun g0 w0 hw0 => ?_)
  refine AW.reset 0 [(0, .d (.sl (a1.map SConstraint.e)))] [] (WOK.g0 hw0 (by simp)) ⟨[], rfl, rfl, rfl, ⟨(.d rfl), trivial⟩, trivial, .nil⟩ ?_
  refine AW.seqR ?_
  refine AL.s rfl (op_assignN (.e rfl)) ?_
  refine AL.s rfl (op_assignD (.e rfl)) ?_
  refine AL.nil ?_
  refine AW.seq ?_
  refine AW.seqR ?_
  refine AL.s rfl (op_moveD (.e rfl)) ?_
  obtain ⟨v2, hv2, hm⟩ := bindE hm
  refine AL.s rfl (op_fn Try.call30 (.e rfl) (.cons (.r rfl) .nil) (m_constraint_Valid_ok hv2)) ?_
  refine AL.s rfl (op_not (.r rfl)) ?_
  refine AL.nil ?_
  refine AW.cond (b := _) rfl (fun hc1 => ?_) (fun hc1 => ?_)
  · replace hm := iteT hc1 hm
    refine AW.seqR ?_
    refine AL.s rfl (op_assignN (.e rfl)) ?_
    refine AL.s rfl (op_assignD (.e rfl)) ?_
    refine AL.nil ?_
    refine AW.ret ?_
    refine tq_ret ?_
    obtain rfl := Option.some.inj hm
    exact EndQ.d (.tmp (.e rfl) (.tmp (.e rfl) .nil)) rfl rfl
  · replace hm := iteF hc1 hm
    refine AW.skip ?_
    refine nq ?_
    refine AW.seqR ?_
    refine AL.s rfl (op_moveD (.e rfl)) ?_
    obtain ⟨v3, hv3, hm⟩ := bindE hm
    refine AL.s rfl (op_callF (v := .mp 0) (H' := [.ob (mpO (v3.map (fun q => ((.int .i64 q.1), (.int .i64 q.2)))))]) [] Try.call37 (.e rfl) (.cons (.e rfl) .nil) (m_constraint_classesOf_ok hv3) rfl .nil rfl rfl rfl rfl rfl rfl rfl rfl) ?_
    refine AL.s rfl (op_assignM (.e rfl)) ?_
    refine AL.nil ?_
    refine AW.seqR ?_
    refine AL.s rfl (op_assignN (.e rfl)) ?_
    refine AL.nil ?_
    refine AW.seq ?_
    refine AW.seqR ?_
    refine AL.s rfl (op_moveD (.e rfl)) ?_
    obtain ⟨v4, hv4, hm⟩ := bindE hm
    refine AL.s rfl (op_callF (v := .hs 1 0 v4.length 3) (H' := [.ob (mpO (v3.map (fun q => ((.int .i64 q.1), (.int .i64 q.2))))), .lst (v4.map SConstraint.e) 50 3]) [] Try.call36 (.e rfl) (.cons (.e rfl) .nil) (m_constraint_normal_ok hv4) rfl .nil rfl rfl rfl rfl rfl rfl rfl rfl) ?_
    refine AL.s rfl (op_len_hs (.e rfl) rfl sl22) ?_
    refine AL.s rfl (op_moveD (.e rfl)) ?_
    refine AL.nil ?_
    refine AW.block ?_
    refine AW.tokenize (n := 2) 5 55 3 rfl rfl (by simp) ?_
    obtain ⟨t_1, hI1, hk1⟩ := bindE hm
    refine AW.loopS (σ := ((List SConflict) × Int)) (τ := (List SConflict)) 0 (fun x => [(0, .d (.sl (a1.map SConstraint.e))), (4, .mp 0), (5, .tk 2 (x.1.map SConflict.e)), (14, .hs 1 0 v4.length 3), (15, .d (.int .i64 (v4.length : Int))), (16, .d (.int .i64 x.2))]) (fun x => [.ob (mpO (v3.map (fun q => ((.int .i64 q.1), (.int .i64 q.2))))), .lst (v4.map SConstraint.e) 50 3, .tok x.1.length 55 3]) hI1 (WOK.g0 hw0 (by simp)) ⟨[0, 1, 2], rfl, rfl, rfl, ⟨(.d rfl), (.mp rfl), (.tk rfl), (.hs rfl rfl), (.d rfl), (.d rfl), trivial⟩, trivial, (.ob rfl obR_mp (.lst rfl (.tok rfl .nil)))⟩ ?_
    rintro n1 ⟨s5, s6⟩ hI1
    obtain ⟨y_1, hm, hI1⟩ := iterS hI1
    replace hm : m_constraint_Conflicts_L1 n _ _ _ s5 s6 = some y_1 := hm
    unfold m_constraint_Conflicts_L1 at hm
    try dsimp only at hm
    refine AW.seqR ?_
    refine AL.s rfl (op_lss (.r rfl) (.r rfl)) ?_
    refine AL.nil ?_
    refine AW.seq ?_
    refine AW.cond (b := _) rfl (fun hc2 => ?_) (fun hc2 => ?_)
    · replace hm := iteT hc2 hm
      refine AW.skip ?_
      refine nq ?_
      obtain ⟨t_j1, hm, hkj1⟩ := bindE hm
      refine AW.cutS (α := (List SConflict)) 0 (fun x => x = t_j1) (fun x => [(0, .d (.sl (a1.map SConstraint.e))), (4, .mp 0), (5, .tk 2 (x.map SConflict.e)), (14, .hs 1 0 v4.length 3), (15, .d (.int .i64 (v4.length : Int))), (16, .d (.int .i64 s6))]) (fun x => [.ob (mpO (v3.map (fun q => ((.int .i64 q.1), (.int .i64 q.2))))), .lst (v4.map SConstraint.e) 50 3, .tok x.length 55 3]) (WOK.g0 hw0 (by simp)) ?_ ?_
      · skip
        refine AW.block ?_
        refine AW.seqR ?_
        obtain ⟨v7, hv7, hm⟩ := bindE hm
        refine AL.s rfl (op_indexAddr_ls (f := SConstraint.e) (l := v4) (.e rfl) rfl rfl (.r rfl) hv7 sl22) ?_
        obtain ⟨v8, hv8, hm⟩ := bindE hm
        refine AL.s rfl (op_load_lsA (f := SConstraint.e) (l := v4) (a := s6) enSConstraint rfl (.e rfl) rfl hv8 ag50) ?_
        refine AL.s rfl (op_alloc (n := 3) zr50 rfl) ?_
        refine AL.s rfl (op_store (.e rfl) (.e rfl) rfl rfl rfl ⟨_, rfl, rfl⟩ rfl (Nat.le_of_ble_eq_true rfl)) ?_
        refine AL.nil ?_
        refine AW.seqD [([], []), ([3], []), ([], []), ([], []), ([], []), ([], []), ([3], []), ([0], []), ([], []), ([], []), ([3], []), ([0], []), ([], []), ([], [])] mo (by decide +kernel) ?_
        refine AD.s (ws := []) rfl rfl (fun H' _ hH => op_field_ptr (.e rfl) fd50_0) ?_
        refine AD.s (ws := []) rfl rfl (fun H' _ hH => op_load_ptr1 (.e rfl) ((hH _ (by simp)).trans rfl) rfl sc3) ?_
        refine AD.s (ws := []) rfl rfl (fun H' _ hH => op_eql (.r rfl) (.r rfl)) ?_
        refine AD.s (ws := []) rfl rfl (fun H' _ hH => op_moveD (.e rfl)) ?_
        refine AD.sT rfl rfl rfl rfl (fun g H' _ hH => op_moveM (.e rfl)) ?_
        refine AD.sT rfl rfl rfl rfl (fun g H' _ hH => op_field_ptr (.e rfl) fd50_1) ?_
        refine AD.sT rfl rfl rfl rfl (fun g H' _ hH => op_load_ptr1 (.we g rfl) ((hH _ (by simp)).trans rfl) rfl sc3) ?_
        obtain ⟨v9, hv9, hm⟩ := bindE hm
        refine AD.sT rfl rfl rfl rfl (fun g H' _ hH => op_callQ [0] Try.call39 (.e rfl) (.cons (.we g rfl) (.cons (.we g rfl) .nil)) (m_constraint_classes_of_ok (iteT g hv9)) rfl (.cons ((hH _ (by simp)).trans rfl) .nil) rfl rfl rfl rfl rfl) ?_
        refine AD.sT rfl rfl rfl rfl (fun g H' _ hH => op_moveM (.e rfl)) ?_
        refine AD.sT rfl rfl rfl rfl (fun g H' _ hH => op_field_ptr (.e rfl) fd50_2) ?_
        refine AD.sT rfl rfl rfl rfl (fun g H' _ hH => op_load_ptr1 (.we g rfl) ((hH _ (by simp)).trans rfl) rfl sc3) ?_
        obtain ⟨v10, hv10, hm⟩ := bindE hm
        refine AD.sT rfl rfl rfl rfl (fun g H' _ hH => op_callQ [0] Try.call39 (.e rfl) (.cons (.we g rfl) (.cons (.we g rfl) .nil)) (m_constraint_classes_of_ok (iteT g hv10)) rfl (.cons ((hH _ (by simp)).trans rfl) .nil) rfl rfl rfl rfl rfl) ?_
        refine AD.sT rfl rfl rfl rfl (fun g H' _ hH => op_eql (.we g rfl rfl) (.we g rfl rfl)) ?_
        refine AD.s (ws := []) rfl rfl (fun H' _ hH => op_and (.r rfl) (fun h => (.we h rfl rfl)) rfl) ?_
        refine AD.nil ?_
        refine AW.cond (b := _) rfl (fun hc3 => ?_) (fun hc3 => ?_)
        · replace hm := iteT hc3 hm
          refine AW.reset 0 [(0, .d (.sl (a1.map SConstraint.e))), (4, .mp 0), (5, .tk 2 (s5.map SConflict.e)), (7, .ptr 3 0), (14, .hs 1 0 v4.length 3), (15, .d (.int .i64 (v4.length : Int))), (16, .d (.int .i64 s6))] [.ob (mpO (v3.map (fun q => ((.int .i64 q.1), (.int .i64 q.2))))), .lst (v4.map SConstraint.e) 50 3, .tok s5.length 55 3, .row [.d (.int .i64 v8.fKind), .d (.int .i64 v8.fA), .d (.int .i64 v8.fB)]] (WOK.g0 hw0 (by simp)) ⟨[0, 1, 2, 3], rfl, rfl, rfl, ⟨(.d rfl), (.mp rfl), (.tk rfl), (.ptr rfl), (.hs rfl rfl), (.d rfl), (.d rfl), trivial⟩, trivial, (.ob rfl obR_mp (.lst rfl (.tok rfl (.row rfl (.cons (.d rfl) (.cons (.d rfl) (.cons (.d rfl) .nil))) .nil))))⟩ ?_
          refine AW.free ?_
          refine AW.drawn [([], []), ([], []), ([3], []), ([], []), ([3], []), ([], []), ([], []), ([], []), ([3], []), ([], []), ([3], []), ([], []), ([], []), ([], []), ([2], [2]), ([], [])] mo (by decide +kernel) ?_
          refine AD.s (ws := []) rfl rfl (fun H' _ hH => op_moveT (.e rfl)) ?_
          refine AD.s (ws := []) rfl rfl (fun H' _ hH => op_field_ptr (.e rfl) fd50_1) ?_
          refine AD.s (ws := []) rfl rfl (fun H' _ hH => op_load_ptr1 (.e rfl) ((hH _ (by simp)).trans rfl) rfl sc3) ?_
          refine AD.s (ws := []) rfl rfl (fun H' _ hH => op_field_ptr (.e rfl) fd50_2) ?_
          refine AD.s (ws := []) rfl rfl (fun H' _ hH => op_load_ptr1 (.e rfl) ((hH _ (by simp)).trans rfl) rfl sc3) ?_
          refine AD.s (ws := []) rfl rfl (fun H' _ hH => op_build bd53 (.cons (.e rfl) rfl rfl rfl rfl (Nat.le_of_ble_eq_true rfl) (.cons (.e rfl) rfl rfl rfl rfl (Nat.le_of_ble_eq_true rfl) .nil))) ?_
          refine AD.s (ws := []) rfl rfl (fun H' _ hH => op_moveD (.e rfl)) ?_
          refine AD.s (ws := []) rfl rfl (fun H' _ hH => op_field_ptr (.e rfl) fd50_1) ?_
          refine AD.s (ws := []) rfl rfl (fun H' _ hH => op_load_ptr1 (.e rfl) ((hH _ (by simp)).trans rfl) rfl sc3) ?_
          refine AD.s (ws := []) rfl rfl (fun H' _ hH => op_field_ptr (.e rfl) fd50_2) ?_
          refine AD.s (ws := []) rfl rfl (fun H' _ hH => op_load_ptr1 (.e rfl) ((hH _ (by simp)).trans rfl) rfl sc3) ?_
          obtain ⟨v11, hv11, hm⟩ := bindE hm
          refine AD.s (ws := []) rfl rfl (fun H' _ hH => op_fn Try.call40 (.e rfl) (.cons (.r rfl) (.cons (.r rfl) (.cons (.r rfl) .nil))) (m_constraint_path_ok hv11)) ?_
          refine AD.s (ws := []) rfl rfl (fun H' _ hH => op_build bd55 (.cons (.e rfl) rfl rfl rfl rfl (Nat.le_of_ble_eq_true rfl) (.cons (.e rfl) rfl rfl rfl rfl (Nat.le_of_ble_eq_true rfl) .nil))) ?_
          refine AD.s (ws := []) rfl rfl (fun H' _ hH => op_buildSlice (ds := ([(⟨(⟨v8.fA, v8.fB⟩ : SPair), v11⟩ : SConflict)] : List SConflict).map SConflict.e) sl32 (.cons (.r rfl) rfl (enSConflict.one _) .nil) rfl (by decide)) ?_
          obtain ⟨v12, hv12, hm⟩ := bindE hm
          refine AD.s (ws := [(2, _)]) rfl rfl (fun H' _ hH => op_appendM (f := SConflict.e) (l' := ([(⟨(⟨v8.fA, v8.fB⟩ : SPair), v11⟩ : SConflict)] : List SConflict)) sl32 (.e rfl) (.r rfl) ((hH _ (by simp)).trans rfl) rfl enSConflict hv12) ?_
          refine AD.s (ws := []) rfl rfl (fun H' _ hH => op_assignT (.e rfl)) ?_
          refine AD.nil ?_
          refine bq_n ?_
          obtain rfl := Option.some.inj hm
          exact nq ⟨_, rfl, ⟨[0, 1, 2], rfl, rfl, rfl, ⟨(.d rfl), (.mp rfl), (.tk rfl), (.hs rfl rfl), (.d rfl), (.d rfl), trivial⟩, trivial, (.ob rfl obR_mp (.lst rfl (.tok rfl .nil)))⟩⟩
        · replace hm := iteF hc3 hm
          refine AW.skip ?_
          refine bq_n ?_
          obtain rfl := Option.some.inj hm
          exact nq ⟨_, rfl, ⟨[0, 1, 2], rfl, rfl, rfl, ⟨(.d rfl), (.mp rfl), (.tk rfl), (.hs rfl rfl), (.d rfl), (.d rfl), trivial⟩, trivial, (.ob rfl obR_mp (.lst rfl (.tok rfl .nil)))⟩⟩
      · rintro s13 rfl
        replace hm := hkj1
        try dsimp only at hm
        refine AW.region ?_
        refine AL.s rfl (op_addw (.r rfl) (.r rfl)) ?_
        refine AL.s rfl (op_moveD (.e rfl)) ?_
        refine AL.nil ?_
        obtain rfl := Option.some.inj hm
        exact nq ⟨_, hI1, ⟨[0, 1, 2], rfl, rfl, rfl, ⟨(.d rfl), (.mp rfl), (.tk rfl), (.hs rfl rfl), (.d rfl), (.d rfl), trivial⟩, trivial, (.ob rfl obR_mp (.lst rfl (.tok rfl .nil)))⟩⟩
    · replace hm := iteF hc2 hm
      refine AW.exit ?_
      refine tq_exit ?_
      refine tq_exit ?_
      obtain rfl := Option.some.inj hm
      obtain rfl := Option.some.inj hI1
      replace hm := hk1
      try dsimp only at hm
      refine bq_hit ?_
      refine nq ?_
      refine AW.seqR ?_
      refine AL.s rfl (op_moveT (.e rfl)) ?_
      refine AL.s rfl (op_assignT (.e rfl)) ?_
      refine AL.s rfl (op_assignD (.e rfl)) ?_
      refine AL.nil ?_
      refine AW.ret ?_
      obtain rfl := Option.some.inj hm
      exact EndQ.d (.tmp (.e rfl) (.tmp (.e rfl) .nil)) rfl rfl

set_option maxHeartbeats 20000000 in
theorem m_constraint_Rules_ok {n : Nat} {a1 : (List SConstraint)} {a2 : (List Int)} {r : ((List SConstraint) × Int)} (hm : m_constraint_Rules n a1 a2 = some r) : Fn Try.prog 34 [(.sl (a1.map SConstraint.e)), (.sl (a2.map D.i))] (.tup [(.sl (r.1.map SConstraint.e)), (.int .i64 r.2)]) := by
  unfold m_constraint_Rules at hm
  refine Fn.of_AW (fnn := Try.f34) Try.func34 rfl (Nat.le_of_ble_eq_true rfl) (fun g0 w0 hw0 => ?_)
  refine AW.reset 0 [(0, .d (.sl (a1.map SConstraint.e))), (1, .d (.sl (a2.map D.i)))] [] (WOK.g0 hw0 (by simp)) ⟨[], rfl, rfl, rfl, ⟨(.d rfl), (.d rfl), trivial⟩, trivial, .nil⟩ ?_
  refine AW.seqR ?_
  refine AL.s rfl (op_assignN (.e rfl)) ?_
  refine AL.s rfl (op_assignD (.e rfl)) ?_
  refine AL.nil ?_
  refine AW.seq ?_
  refine AW.seqR ?_
  refine AL.s rfl (op_moveD (.e rfl)) ?_
  obtain ⟨v3, hv3, hm⟩ := bindE hm
  refine AL.s rfl (op_fn Try.call30 (.e rfl) (.cons (.r rfl) .nil) (m_constraint_Valid_ok hv3)) ?_
  refine AL.s rfl (op_not (.r rfl)) ?_
  refine AL.nil ?_
  refine AW.cond (b := _) rfl (fun hc1 => ?_) (fun hc1 => ?_)
  · replace hm := iteT hc1 hm
    refine AW.seqR ?_
    refine AL.s rfl (op_assignN (.e rfl)) ?_
    refine AL.s rfl (op_assignD (.e rfl)) ?_
    refine AL.nil ?_
    refine AW.ret ?_
    refine tq_ret ?_
    obtain rfl := Option.some.inj hm
    exact EndQ.d (.tmp (.e rfl) (.tmp (.e rfl) .nil)) rfl rfl
  · replace hm := iteF hc1 hm
    refine AW.skip ?_
    refine nq ?_
    refine AW.seq ?_
    refine AW.seqR ?_
    refine AL.s rfl (op_assignD (.e rfl)) ?_
    refine AL.nil ?_
    refine AW.block ?_
    obtain ⟨t_1, hI1, hk1⟩ := bindE hm
    refine AW.loopS (σ := Int) (τ := (((List SConstraint) × Int) ⊕ Unit)) 0 (fun x => [(0, .d (.sl (a1.map SConstraint.e))), (1, .d (.sl (a2.map D.i))), (6, .d (.int .i64 x))]) (fun x => []) hI1 (WOK.g0 hw0 (by simp)) ⟨[], rfl, rfl, rfl, ⟨(.d rfl), (.d rfl), (.d rfl), trivial⟩, trivial, .nil⟩ ?_
    rintro n1 s4 hI1
    obtain ⟨y_1, hm, hI1⟩ := iterS hI1
    replace hm : m_constraint_Rules_L1 n _ s4 = some y_1 := hm
    unfold m_constraint_Rules_L1 at hm
    try dsimp only at hm
    refine AW.seq ?_
    refine AW.seqR ?_
    refine AL.s rfl (op_moveD (.e rfl)) ?_
    refine AL.s rfl (op_moveD (.e rfl)) ?_
    refine AL.s rfl (op_lenM (f := D.i) (.r rfl) sl42) ?_
    refine AL.s rfl (op_lss (.r rfl) (.r rfl)) ?_
    refine AL.nil ?_
    refine AW.cond (b := _) rfl (fun hc2 => ?_) (fun hc2 => ?_)
    · replace hm := iteT hc2 hm
      refine AW.skip ?_
      refine nq ?_
      refine AW.seq ?_
      refine AW.block ?_
      refine AW.seqD [([], []), ([], []), ([], []), ([], []), ([], []), ([], []), ([], []), ([], []), ([], []), ([], [])] mo (by decide +kernel) ?_
      refine AD.s (ws := []) rfl rfl (fun H' _ hH => op_moveD (.e rfl)) ?_
      refine AD.s (ws := []) rfl rfl (fun H' _ hH => op_moveD (.e rfl)) ?_
      obtain ⟨v5, hv5, hm⟩ := bindE hm
      refine AD.s (ws := []) rfl rfl (fun H' _ hH => op_indexAddrM (f := D.i) (.r rfl) (.r rfl) hv5 En.i sl42) ?_
      refine AD.s (ws := []) rfl rfl (fun H' _ hH => op_load_vp1 (.e rfl) rfl sc3) ?_
      refine AD.s (ws := []) rfl rfl (fun H' _ hH => op_moveD (.e rfl)) ?_
      refine AD.s (ws := []) rfl rfl (fun H' _ hH => op_moveD (.e rfl)) ?_
      refine AD.s (ws := []) rfl rfl (fun H' _ hH => op_subw (.r rfl) (.r rfl)) ?_
      obtain ⟨v6, hv6, hm⟩ := bindE hm
      refine AD.s (ws := []) rfl rfl (fun H' _ hH => op_indexAddrM (f := D.i) (.r rfl) (.r rfl) hv6 En.i sl42) ?_
      refine AD.s (ws := []) rfl rfl (fun H' _ hH => op_load_vp1 (.e rfl) rfl sc3) ?_
      refine AD.s (ws := []) rfl rfl (fun H' _ hH => op_leq (.r rfl) (.r rfl)) ?_
      refine AD.nil ?_
      refine AW.cond (b := _) rfl (fun hc3 => ?_) (fun hc3 => ?_)
      · replace hm := iteT hc3 hm
        refine AW.seqR ?_
        refine AL.s rfl (op_assignN (.e rfl)) ?_
        refine AL.s rfl (op_assignD (.e rfl)) ?_
        refine AL.nil ?_
        refine AW.ret ?_
        refine bq_ret ?_
        refine tq_ret ?_
        refine tq_ret ?_
        obtain rfl := Option.some.inj hm
        obtain rfl := Option.some.inj hI1
        replace hm := hk1
        try dsimp only at hm
        refine bq_ret ?_
        refine tq_ret ?_
        obtain rfl := Option.some.inj hm
        exact EndQ.d (.tmp (.e rfl) (.tmp (.e rfl) .nil)) rfl rfl
      · replace hm := iteF hc3 hm
        refine AW.skip ?_
        refine bq_n ?_
        refine nq ?_
        refine AW.region ?_
        refine AL.s rfl (op_moveD (.e rfl)) ?_
        refine AL.s rfl (op_addw (.r rfl) (.r rfl)) ?_
        refine AL.s rfl (op_assignD (.e rfl)) ?_
        refine AL.nil ?_
        obtain rfl := Option.some.inj hm
        exact nq ⟨_, hI1, ⟨[], rfl, rfl, rfl, ⟨(.d rfl), (.d rfl), (.d rfl), trivial⟩, trivial, .nil⟩⟩
    · replace hm := iteF hc2 hm
      refine AW.exit ?_
      refine tq_exit ?_
      refine tq_exit ?_
      obtain rfl := Option.some.inj hm
      obtain rfl := Option.some.inj hI1
      replace hm := hk1
      try dsimp only at hm
      refine bq_hit ?_
      refine nq ?_
      refine AW.seq ?_
      refine AW.seqR ?_
      refine AL.s rfl (op_moveD (.e rfl)) ?_
      obtain ⟨v7, hv7, hm⟩ := bindE hm
      refine AL.s rfl (op_fn Try.call16 (.e rfl) (.cons (.r rfl) .nil) (m_constraint_Conflicts_ok hv7)) ?_
      refine AL.s rfl (op_moveD (.e rfl)) ?_
      refine AL.s rfl (op_extractD (.e rfl) rfl) ?_
      refine AL.s rfl (op_extractD (.e rfl) rfl) ?_
      refine AL.s rfl (op_assignD (.e rfl)) ?_
      refine AL.s rfl (op_assignD (.e rfl)) ?_
      refine AL.nil ?_
      refine AW.seqR ?_
      refine AL.s rfl (op_moveD (.e rfl)) ?_
      refine AL.s rfl (op_lenM (f := SConflict.e) (.r rfl) sl32) ?_
      refine AL.s rfl (op_gtr (.r rfl) (.r rfl)) ?_
      refine AL.nil ?_
      refine AW.cond (b := _) rfl (fun hc4 => ?_) (fun hc4 => ?_)
      · replace hm := iteT hc4 hm
        refine AW.seqR ?_
        refine AL.s rfl (op_assignN (.e rfl)) ?_
        refine AL.s rfl (op_assignD (.e rfl)) ?_
        refine AL.nil ?_
        refine AW.ret ?_
        refine tq_ret ?_
        obtain rfl := Option.some.inj hm
        exact EndQ.d (.tmp (.e rfl) (.tmp (.e rfl) .nil)) rfl rfl
      · replace hm := iteF hc4 hm
        refine AW.skip ?_
        refine nq ?_
        refine AW.seqR ?_
        refine AL.s rfl (op_moveD (.e rfl)) ?_
        obtain ⟨v8, hv8, hm⟩ := bindE hm
        refine AL.s rfl (op_callF (v := .mp 0) (H' := [.ob (mpO (v8.map (fun q => ((.int .i64 q.1), (.int .i64 q.2)))))]) [] Try.call37 (.e rfl) (.cons (.e rfl) .nil) (m_constraint_classesOf_ok hv8) rfl .nil rfl rfl rfl rfl rfl rfl rfl rfl) ?_
        refine AL.s rfl (op_assignM (.e rfl)) ?_
        refine AL.nil ?_
        refine AW.seqR ?_
        refine AL.s rfl (op_makeMap (n := 1) rfl) ?_
        refine AL.s rfl (op_assignM (.e rfl)) ?_
        refine AL.nil ?_
        refine AW.seqR ?_
        refine AL.s rfl (op_assignN (.e rfl)) ?_
        refine AL.nil ?_
        refine AW.seqR ?_
        refine AL.s rfl (op_assignN (.e rfl)) ?_
        refine AL.nil ?_
        refine AW.seq ?_
        refine AW.seqR ?_
        refine AL.s rfl (op_moveD (.e rfl)) ?_
        refine AL.s rfl (op_lenM (f := D.i) (.r rfl) sl42) ?_
        refine AL.s rfl (op_moveD (.e rfl)) ?_
        refine AL.nil ?_
        refine AW.block ?_
        refine AW.tokenize (n := 2) 11 50 3 rfl rfl (by simp) ?_
        refine AW.tokenize (n := 3) 12 3 1 rfl rfl (by simp) ?_
        obtain ⟨t_2, hI2, hk2⟩ := bindE hm
        refine AW.loopS (σ := ((List SConstraint) × (List Int) × Int × (List (Int × Int)))) (τ := ((List SConstraint) × (List Int) × (List (Int × Int)))) 0 (fun x => [(0, .d (.sl (a1.map SConstraint.e))), (1, .d (.sl (a2.map D.i))), (9, .mp 0), (10, .mp 1), (11, .tk 2 (x.1.map SConstraint.e)), (12, .tk 3 (x.2.1.map D.i)), (51, .d (.sl (a2.map D.i))), (52, .d (.int .i64 (a2.length : Int))), (53, .d (.int .i64 x.2.2.1))]) (fun x => [.ob (mpO (v8.map (fun q => ((.int .i64 q.1), (.int .i64 q.2))))), .ob (mpO (x.2.2.2.map (fun q => ((.int .i64 q.1), (.int .i64 q.2))))), .tok x.1.length 50 3, .tok x.2.1.length 3 1]) hI2 (WOK.g0 hw0 (by simp)) ⟨[0, 1, 2, 3], rfl, rfl, rfl, ⟨(.d rfl), (.d rfl), (.mp rfl), (.mp rfl), (.tk rfl), (.tk rfl), (.d rfl), (.d rfl), (.d rfl), trivial⟩, trivial, (.ob rfl obR_mp (.ob rfl obR_mp (.tok rfl (.tok rfl .nil))))⟩ ?_
        rintro n2 ⟨s9, s10, s11, s12⟩ hI2
        obtain ⟨y_2, hm, hI2⟩ := iterS hI2
        replace hm : m_constraint_Rules_L2 n _ _ s9 s10 s11 s12 = some y_2 := hm
        unfold m_constraint_Rules_L2 at hm
        try dsimp only at hm
        refine AW.seqR ?_
        refine AL.s rfl (op_lss (.r rfl) (.r rfl)) ?_
        refine AL.nil ?_
        refine AW.seq ?_
        refine AW.cond (b := _) rfl (fun hc5 => ?_) (fun hc5 => ?_)
        · replace hm := iteT hc5 hm
          refine AW.skip ?_
          refine nq ?_
          obtain ⟨t_j1, hm, hkj1⟩ := bindE hm
          refine AW.cutS (α := ((List SConstraint) × (List Int) × (List (Int × Int)))) 0 (fun x => x = t_j1) (fun x => [(0, .d (.sl (a1.map SConstraint.e))), (1, .d (.sl (a2.map D.i))), (9, .mp 0), (10, .mp 1), (11, .tk 2 (x.1.map SConstraint.e)), (12, .tk 3 (x.2.1.map D.i)), (51, .d (.sl (a2.map D.i))), (52, .d (.int .i64 (a2.length : Int))), (53, .d (.int .i64 s11))]) (fun x => [.ob (mpO (v8.map (fun q => ((.int .i64 q.1), (.int .i64 q.2))))), .ob (mpO (x.2.2.map (fun q => ((.int .i64 q.1), (.int .i64 q.2))))), .tok x.1.length 50 3, .tok x.2.1.length 3 1]) (WOK.g0 hw0 (by simp)) ?_ ?_
          · skip
            refine AW.block ?_
            refine AW.seqR ?_
            refine AL.s rfl (op_moveD (.e rfl)) ?_
            obtain ⟨v13, hv13, hm⟩ := bindE hm
            refine AL.s rfl (op_indexAddrM (f := D.i) (.r rfl) (.r rfl) hv13 En.i sl42) ?_
            refine AL.s rfl (op_load_vp1 (.e rfl) rfl sc3) ?_
            refine AL.s rfl (op_assignD (.e rfl)) ?_
            refine AL.s rfl (op_assignD (.e rfl)) ?_
            refine AL.nil ?_
            refine AW.seqR ?_
            refine AL.s rfl (op_moveM (.e rfl)) ?_
            refine AL.s rfl (op_moveM (.e rfl)) ?_
            refine AL.s rfl (op_moveD (.e rfl)) ?_
            obtain ⟨v14, hv14, hm⟩ := bindE hm
            refine AL.s rfl (op_callF (v := .d (.int .i64 v14)) (H' := [.ob (mpO (v8.map (fun q => ((.int .i64 q.1), (.int .i64 q.2))))), .ob (mpO (s12.map (fun q => ((.int .i64 q.1), (.int .i64 q.2))))), .tok s9.length 50 3, .tok s10.length 3 1]) [0] Try.call39 (.e rfl) (.cons (.e rfl) (.cons (.e rfl) .nil)) (m_constraint_classes_of_ok hv14) rfl (.cons rfl .nil) rfl rfl rfl rfl rfl rfl rfl rfl) ?_
            refine AL.s rfl (op_lookupOk (m := s12) (k := v14) (z := ((0 : Int) : Int)) (fv := D.i) (keyInt Try.underlying3) Try.underlying63 (.e rfl) (.r rfl) rfl ⟨_, rfl, rfl⟩ (fun _ _ => .int _ _)) ?_
            refine AL.s rfl (op_moveU (.e rfl)) ?_
            refine AL.s rfl (op_extractV (.e rfl) rfl) ?_
            refine AL.s rfl (op_extractV (.e rfl) rfl) ?_
            refine AL.s rfl (op_assignD (.e rfl)) ?_
            refine AL.s rfl (op_assignD (.e rfl)) ?_
            refine AL.nil ?_
            refine AW.seq ?_
            refine AW.reset 0 [(0, .d (.sl (a1.map SConstraint.e))), (1, .d (.sl (a2.map D.i))), (9, .mp 0), (10, .mp 1), (11, .tk 2 (s9.map SConstraint.e)), (12, .tk 3 (s10.map D.i)), (13, .d (.int .i64 s11)), (14, .d (.int .i64 v13)), (15, .d (.int .i64 ((mget s12 v14).getD ((0 : Int) : Int)))), (16, .d (.bool (mget s12 v14).isSome)), (51, .d (.sl (a2.map D.i))), (52, .d (.int .i64 (a2.length : Int))), (53, .d (.int .i64 s11))] [.ob (mpO (v8.map (fun q => ((.int .i64 q.1), (.int .i64 q.2))))), .ob (mpO (s12.map (fun q => ((.int .i64 q.1), (.int .i64 q.2))))), .tok s9.length 50 3, .tok s10.length 3 1] (WOK.g0 hw0 (by simp)) ⟨[0, 1, 2, 3], rfl, rfl, rfl, ⟨(.d rfl), (.d rfl), (.mp rfl), (.mp rfl), (.tk rfl), (.tk rfl), (.d rfl), (.d rfl), (.d rfl), (.d rfl), (.d rfl), (.d rfl), (.d rfl), trivial⟩, trivial, (.ob rfl obR_mp (.ob rfl obR_mp (.tok rfl (.tok rfl .nil))))⟩ ?_
            refine AW.seqR ?_
            refine AL.s rfl (op_moveD (.e rfl)) ?_
            refine AL.nil ?_
            refine AW.cond (b := _) rfl (fun hc6 => ?_) (fun hc6 => ?_)
            · replace hm := iteT hc6 hm
              refine AW.seqR ?_
              refine AL.s rfl (op_moveT (.e rfl)) ?_
              refine AL.s rfl (op_moveD (.e rfl)) ?_
              refine AL.s rfl (op_moveD (.e rfl)) ?_
              refine AL.s rfl (op_build bd50 (.cons (.e rfl) rfl rfl rfl rfl (Nat.le_of_ble_eq_true rfl) (.cons (.e rfl) rfl rfl rfl rfl (Nat.le_of_ble_eq_true rfl) (.cons (.e rfl) rfl rfl rfl rfl (Nat.le_of_ble_eq_true rfl) .nil)))) ?_
              refine AL.s rfl (op_buildSlice (ds := ([(⟨(1 : Int), ((mget s12 v14).getD ((0 : Int) : Int)), s11⟩ : SConstraint)] : List SConstraint).map SConstraint.e) sl22 (.cons (.r rfl) rfl (enSConstraint.one _) .nil) rfl (by decide)) ?_
              obtain ⟨v15, hv15, hm⟩ := bindE hm
              refine AL.s rfl (op_appendM (f := SConstraint.e) (l' := ([(⟨(1 : Int), ((mget s12 v14).getD ((0 : Int) : Int)), s11⟩ : SConstraint)] : List SConstraint)) sl22 (.e rfl) (.r rfl) rfl rfl enSConstraint hv15) ?_
              refine AL.s rfl (op_assignT (.e rfl)) ?_
              refine AL.nil ?_
              refine AW.exit ?_
              refine tq_exit ?_
              refine bq_hit ?_
              obtain rfl := Option.some.inj hm
              exact nq ⟨_, rfl, ⟨[0, 1, 2, 3], rfl, rfl, rfl, ⟨(.d rfl), (.d rfl), (.mp rfl), (.mp rfl), (.tk rfl), (.tk rfl), (.d rfl), (.d rfl), (.d rfl), trivial⟩, trivial, (.ob rfl obR_mp (.ob rfl obR_mp (.tok rfl (.tok rfl .nil))))⟩⟩
            · replace hm := iteF hc6 hm
              refine AW.skip ?_
              refine nq ?_
              refine AW.seqR ?_
              refine AL.s rfl (op_moveM (.e rfl)) ?_
              refine AL.s rfl (op_moveM (.e rfl)) ?_
              refine AL.s rfl (op_moveD (.e rfl)) ?_
              obtain ⟨v16, hv16, hm⟩ := bindE hm
              refine AL.s rfl (op_callF (v := .d (.int .i64 v16)) (H' := [.ob (mpO (v8.map (fun q => ((.int .i64 q.1), (.int .i64 q.2))))), .ob (mpO (s12.map (fun q => ((.int .i64 q.1), (.int .i64 q.2))))), .tok s9.length 50 3, .tok s10.length 3 1]) [0] Try.call39 (.e rfl) (.cons (.e rfl) (.cons (.e rfl) .nil)) (m_constraint_classes_of_ok hv16) rfl (.cons rfl .nil) rfl rfl rfl rfl rfl rfl rfl rfl) ?_
              refine AL.s rfl (op_moveD (.e rfl)) ?_
              obtain ⟨v17, hv17, hm⟩ := bindE hm
              refine AL.s rfl (op_mapUpdateM (m := s12) (k := v16) (v := s11) (fv := D.i) (keyInt Try.underlying3) Try.underlying63 (.e rfl) (.r rfl) (.r rfl) rfl hv17) ?_
              refine AL.nil ?_
              refine AW.region ?_
              refine AL.s rfl (op_moveT (.e rfl)) ?_
              refine AL.s rfl (op_moveD (.e rfl)) ?_
              refine AL.s rfl (op_buildSlice (ds := ([s11] : List Int).map D.i) sl42 (.cons (.r rfl) rfl (En.i.one _) .nil) rfl (by decide)) ?_
              obtain ⟨v18, hv18, hm⟩ := bindE hm
              refine AL.s rfl (op_appendM (f := D.i) (l' := ([s11] : List Int)) sl42 (.e rfl) (.r rfl) rfl rfl En.i hv18) ?_
              refine AL.s rfl (op_assignT (.e rfl)) ?_
              refine AL.nil ?_
              refine bq_n ?_
              obtain rfl := Option.some.inj hm
              exact nq ⟨_, rfl, ⟨[0, 1, 2, 3], rfl, rfl, rfl, ⟨(.d rfl), (.d rfl), (.mp rfl), (.mp rfl), (.tk rfl), (.tk rfl), (.d rfl), (.d rfl), (.d rfl), trivial⟩, trivial, (.ob rfl obR_mp (.ob rfl obR_mp (.tok rfl (.tok rfl .nil))))⟩⟩
          · rintro ⟨s19, s20, s21⟩ rfl
            replace hm := hkj1
            try dsimp only at hm
            refine AW.region ?_
            refine AL.s rfl (op_addw (.r rfl) (.r rfl)) ?_
            refine AL.s rfl (op_moveD (.e rfl)) ?_
            refine AL.nil ?_
            obtain rfl := Option.some.inj hm
            exact nq ⟨_, hI2, ⟨[0, 1, 2, 3], rfl, rfl, rfl, ⟨(.d rfl), (.d rfl), (.mp rfl), (.mp rfl), (.tk rfl), (.tk rfl), (.d rfl), (.d rfl), (.d rfl), trivial⟩, trivial, (.ob rfl obR_mp (.ob rfl obR_mp (.tok rfl (.tok rfl .nil))))⟩⟩
        · replace hm := iteF hc5 hm
          refine AW.exit ?_
          refine tq_exit ?_
          refine tq_exit ?_
          obtain rfl := Option.some.inj hm
          obtain rfl := Option.some.inj hI2
          replace hm := hk2
          try dsimp only at hm
          refine bq_hit ?_
          refine nq ?_
          refine AW.seq ?_
          refine AW.seqR ?_
          refine AL.s rfl (op_moveT (.e rfl)) ?_
          refine AL.s rfl (op_lenM (f := D.i) (.r rfl) sl42) ?_
          refine AL.s rfl (op_moveD (.e rfl)) ?_
          refine AL.nil ?_
          refine AW.block ?_
          obtain ⟨t_3, hI3, hk3⟩ := bindE hm
          refine AW.loopS (σ := ((List SConstraint) × Int)) (τ := (List SConstraint)) 0 (fun x => [(0, .d (.sl (a1.map SConstraint.e))), (1, .d (.sl (a2.map D.i))), (9, .mp 0), (11, .tk 2 (x.1.map SConstraint.e)), (12, .tk 3 (s10.map D.i)), (83, .tk 3 (s10.map D.i)), (84, .d (.int .i64 (s10.length : Int))), (85, .d (.int .i64 x.2))]) (fun x => [.ob (mpO (v8.map (fun q => ((.int .i64 q.1), (.int .i64 q.2))))), .ob (mpO (s12.map (fun q => ((.int .i64 q.1), (.int .i64 q.2))))), .tok x.1.length 50 3, .tok s10.length 3 1]) hI3 (WOK.g0 hw0 (by simp)) ⟨[0, 1, 2, 3], rfl, rfl, rfl, ⟨(.d rfl), (.d rfl), (.mp rfl), (.tk rfl), (.tk rfl), (.tk rfl), (.d rfl), (.d rfl), trivial⟩, trivial, (.ob rfl obR_mp (.ob rfl obR_mp (.tok rfl (.tok rfl .nil))))⟩ ?_
          rintro n3 ⟨s22, s23⟩ hI3
          obtain ⟨y_3, hm, hI3⟩ := iterS hI3
          replace hm : m_constraint_Rules_L3 n _ _ _ _ s22 s23 = some y_3 := hm
          unfold m_constraint_Rules_L3 at hm
          try dsimp only at hm
          refine AW.seqR ?_
          refine AL.s rfl (op_lss (.r rfl) (.r rfl)) ?_
          refine AL.nil ?_
          refine AW.seq ?_
          refine AW.cond (b := _) rfl (fun hc7 => ?_) (fun hc7 => ?_)
          · replace hm := iteT hc7 hm
            refine AW.skip ?_
            refine nq ?_
            refine AW.seq ?_
            refine AW.block ?_
            refine AW.seqR ?_
            refine AL.s rfl (op_moveD (.e rfl)) ?_
            obtain ⟨v24, hv24, hm⟩ := bindE hm
            refine AL.s rfl (op_indexAddrM (f := D.i) (.r rfl) (.r rfl) hv24 En.i sl42) ?_
            refine AL.s rfl (op_load_vp1 (.e rfl) rfl sc3) ?_
            refine AL.s rfl (op_assignD (.e rfl)) ?_
            refine AL.s rfl (op_assignD (.e rfl)) ?_
            refine AL.nil ?_
            refine AW.seqR ?_
            refine AL.s rfl (op_moveT (.e rfl)) ?_
            refine AL.s rfl (op_moveD (.e rfl)) ?_
            refine AL.s rfl (op_addw (.r rfl) (.r rfl)) ?_
            obtain ⟨v25, hv25, hm⟩ := bindE hm
            refine AL.s rfl (op_sliceM (f := D.i) (.r rfl) sl42 (.r rfl) rfl En.i hv25) ?_
            refine AL.s rfl (op_lenM (f := D.i) (.r rfl) sl42) ?_
            refine AL.s rfl (op_moveD (.e rfl)) ?_
            refine AL.nil ?_
            refine AW.block ?_
            obtain ⟨t_4, hI4, hk4⟩ := bindE hm
            refine AW.loopS (σ := ((List SConstraint) × Int)) (τ := (List SConstraint)) 0 (fun x => [(0, .d (.sl (a1.map SConstraint.e))), (1, .d (.sl (a2.map D.i))), (9, .mp 0), (11, .tk 2 (x.1.map SConstraint.e)), (12, .tk 3 (s10.map D.i)), (18, .d (.int .i64 v24)), (83, .tk 3 (s10.map D.i)), (84, .d (.int .i64 (s10.length : Int))), (85, .d (.int .i64 s23)), (93, .d (.sl (v25.map D.i))), (94, .d (.int .i64 (v25.length : Int))), (95, .d (.int .i64 x.2))]) (fun x => [.ob (mpO (v8.map (fun q => ((.int .i64 q.1), (.int .i64 q.2))))), .ob (mpO (s12.map (fun q => ((.int .i64 q.1), (.int .i64 q.2))))), .tok x.1.length 50 3, .tok s10.length 3 1]) hI4 (WOK.g0 hw0 (by simp)) ⟨[0, 1, 2, 3], rfl, rfl, rfl, ⟨(.d rfl), (.d rfl), (.mp rfl), (.tk rfl), (.tk rfl), (.d rfl), (.tk rfl), (.d rfl), (.d rfl), (.d rfl), (.d rfl), (.d rfl), trivial⟩, trivial, (.ob rfl obR_mp (.ob rfl obR_mp (.tok rfl (.tok rfl .nil))))⟩ ?_
            rintro n4 ⟨s26, s27⟩ hI4
            obtain ⟨y_4, hm, hI4⟩ := iterS hI4
            replace hm : m_constraint_Rules_L4 n _ _ _ _ _ s26 s27 = some y_4 := hm
            unfold m_constraint_Rules_L4 at hm
            try dsimp only at hm
            refine AW.seqR ?_
            refine AL.s rfl (op_lss (.r rfl) (.r rfl)) ?_
            refine AL.nil ?_
            refine AW.seq ?_
            refine AW.cond (b := _) rfl (fun hc8 => ?_) (fun hc8 => ?_)
            · replace hm := iteT hc8 hm
              refine AW.skip ?_
              refine nq ?_
              obtain ⟨t_j2, hm, hkj2⟩ := bindE hm
              refine AW.cutS (α := (List SConstraint)) 0 (fun x => x = t_j2) (fun x => [(0, .d (.sl (a1.map SConstraint.e))), (1, .d (.sl (a2.map D.i))), (9, .mp 0), (11, .tk 2 (x.map SConstraint.e)), (12, .tk 3 (s10.map D.i)), (18, .d (.int .i64 v24)), (83, .tk 3 (s10.map D.i)), (84, .d (.int .i64 (s10.length : Int))), (85, .d (.int .i64 s23)), (93, .d (.sl (v25.map D.i))), (94, .d (.int .i64 (v25.length : Int))), (95, .d (.int .i64 s27))]) (fun x => [.ob (mpO (v8.map (fun q => ((.int .i64 q.1), (.int .i64 q.2))))), .ob (mpO (s12.map (fun q => ((.int .i64 q.1), (.int .i64 q.2))))), .tok x.length 50 3, .tok s10.length 3 1]) (WOK.g0 hw0 (by simp)) ?_ ?_
              · skip
                refine AW.block ?_
                refine AW.seqR ?_
                obtain ⟨v28, hv28, hm⟩ := bindE hm
                refine AL.s rfl (op_indexAddrM (f := D.i) (.r rfl) (.r rfl) hv28 En.i sl42) ?_
                refine AL.s rfl (op_load_vp1 (.e rfl) rfl sc3) ?_
                refine AL.s rfl (op_assignD (.e rfl)) ?_
                refine AL.nil ?_
                refine AW.seqD [([], []), ([], []), ([], []), ([], []), ([], []), ([], []), ([], []), ([], []), ([], []), ([], []), ([0], [])] mo (by decide +kernel) ?_
                refine AD.s (ws := []) rfl rfl (fun H' _ hH => op_moveD (.e rfl)) ?_
                refine AD.s (ws := []) rfl rfl (fun H' _ hH => op_moveM (.e rfl)) ?_
                refine AD.s (ws := []) rfl rfl (fun H' _ hH => op_moveD (.e rfl)) ?_
                refine AD.s (ws := []) rfl rfl (fun H' _ hH => op_moveD (.e rfl)) ?_
                obtain ⟨v29, hv29, hm⟩ := bindE hm
                refine AD.s (ws := []) rfl rfl (fun H' _ hH => op_indexAddrM (f := D.i) (.r rfl) (.r rfl) hv29 En.i sl42) ?_
                refine AD.s (ws := []) rfl rfl (fun H' _ hH => op_load_vp1 (.e rfl) rfl sc3) ?_
                refine AD.s (ws := []) rfl rfl (fun H' _ hH => op_moveD (.e rfl)) ?_
                refine AD.s (ws := []) rfl rfl (fun H' _ hH => op_moveD (.e rfl)) ?_
                obtain ⟨v30, hv30, hm⟩ := bindE hm
                refine AD.s (ws := []) rfl rfl (fun H' _ hH => op_indexAddrM (f := D.i) (.r rfl) (.r rfl) hv30 En.i sl42) ?_
                refine AD.s (ws := []) rfl rfl (fun H' _ hH => op_load_vp1 (.e rfl) rfl sc3) ?_
                obtain ⟨v31, hv31, hm⟩ := bindE hm
                refine AD.s (ws := []) rfl rfl (fun H' _ hH => op_callQ [0] Try.call41 (.e rfl) (.cons (.e rfl) (.cons (.e rfl) (.cons (.e rfl) (.cons (.e rfl) .nil)))) (m_constraint_apart_ok hv31) rfl (.cons ((hH _ (by simp)).trans rfl) .nil) rfl rfl rfl rfl rfl) ?_
                refine AD.nil ?_
                refine AW.cond (b := _) rfl (fun hc9 => ?_) (fun hc9 => ?_)
                · replace hm := iteT hc9 hm
                  refine AW.region ?_
                  refine AL.s rfl (op_moveT (.e rfl)) ?_
                  refine AL.s rfl (op_moveD (.e rfl)) ?_
                  refine AL.s rfl (op_moveD (.e rfl)) ?_
                  refine AL.s rfl (op_build bd50 (.cons (.e rfl) rfl rfl rfl rfl (Nat.le_of_ble_eq_true rfl) (.cons (.e rfl) rfl rfl rfl rfl (Nat.le_of_ble_eq_true rfl) (.cons (.e rfl) rfl rfl rfl rfl (Nat.le_of_ble_eq_true rfl) .nil)))) ?_
                  refine AL.s rfl (op_buildSlice (ds := ([(⟨(2 : Int), v24, v28⟩ : SConstraint)] : List SConstraint).map SConstraint.e) sl22 (.cons (.r rfl) rfl (enSConstraint.one _) .nil) rfl (by decide)) ?_
                  obtain ⟨v32, hv32, hm⟩ := bindE hm
                  refine AL.s rfl (op_appendM (f := SConstraint.e) (l' := ([(⟨(2 : Int), v24, v28⟩ : SConstraint)] : List SConstraint)) sl22 (.e rfl) (.r rfl) rfl rfl enSConstraint hv32) ?_
                  refine AL.s rfl (op_assignT (.e rfl)) ?_
                  refine AL.nil ?_
                  refine bq_n ?_
                  obtain rfl := Option.some.inj hm
                  exact nq ⟨_, rfl, ⟨[0, 1, 2, 3], rfl, rfl, rfl, ⟨(.d rfl), (.d rfl), (.mp rfl), (.tk rfl), (.tk rfl), (.d rfl), (.tk rfl), (.d rfl), (.d rfl), (.d rfl), (.d rfl), (.d rfl), trivial⟩, trivial, (.ob rfl obR_mp (.ob rfl obR_mp (.tok rfl (.tok rfl .nil))))⟩⟩
                · replace hm := iteF hc9 hm
                  refine AW.skip ?_
                  refine bq_n ?_
                  obtain rfl := Option.some.inj hm
                  exact nq ⟨_, rfl, ⟨[0, 1, 2, 3], rfl, rfl, rfl, ⟨(.d rfl), (.d rfl), (.mp rfl), (.tk rfl), (.tk rfl), (.d rfl), (.tk rfl), (.d rfl), (.d rfl), (.d rfl), (.d rfl), (.d rfl), trivial⟩, trivial, (.ob rfl obR_mp (.ob rfl obR_mp (.tok rfl (.tok rfl .nil))))⟩⟩
              · rintro s33 rfl
                replace hm := hkj2
                try dsimp only at hm
                refine AW.region ?_
                refine AL.s rfl (op_addw (.r rfl) (.r rfl)) ?_
                refine AL.s rfl (op_moveD (.e rfl)) ?_
                refine AL.nil ?_
                obtain rfl := Option.some.inj hm
                exact nq ⟨_, hI4, ⟨[0, 1, 2, 3], rfl, rfl, rfl, ⟨(.d rfl), (.d rfl), (.mp rfl), (.tk rfl), (.tk rfl), (.d rfl), (.tk rfl), (.d rfl), (.d rfl), (.d rfl), (.d rfl), (.d rfl), trivial⟩, trivial, (.ob rfl obR_mp (.ob rfl obR_mp (.tok rfl (.tok rfl .nil))))⟩⟩
            · replace hm := iteF hc8 hm
              refine AW.exit ?_
              refine tq_exit ?_
              refine tq_exit ?_
              obtain rfl := Option.some.inj hm
              obtain rfl := Option.some.inj hI4
              replace hm := hk4
              try dsimp only at hm
              refine bq_hit ?_
              refine bq_n ?_
              refine nq ?_
              refine AW.region ?_
              refine AL.s rfl (op_addw (.r rfl) (.r rfl)) ?_
              refine AL.s rfl (op_moveD (.e rfl)) ?_
              refine AL.nil ?_
              obtain rfl := Option.some.inj hm
              exact nq ⟨_, hI3, ⟨[0, 1, 2, 3], rfl, rfl, rfl, ⟨(.d rfl), (.d rfl), (.mp rfl), (.tk rfl), (.tk rfl), (.tk rfl), (.d rfl), (.d rfl), trivial⟩, trivial, (.ob rfl obR_mp (.ob rfl obR_mp (.tok rfl (.tok rfl .nil))))⟩⟩
          · replace hm := iteF hc7 hm
            refine AW.exit ?_
            refine tq_exit ?_
            refine tq_exit ?_
            obtain rfl := Option.some.inj hm
            obtain rfl := Option.some.inj hI3
            replace hm := hk3
            try dsimp only at hm
            refine bq_hit ?_
            refine nq ?_
            refine AW.seqR ?_
            refine AL.s rfl (op_moveT (.e rfl)) ?_
            refine AL.toD 118 rfl ?_
            obtain ⟨v34, hv34, hm⟩ := bindE hm
            refine AL.s rfl (op_callF (v := .hs 4 0 v34.length 3) (H' := [.ob (mpO (v8.map (fun q => ((.int .i64 q.1), (.int .i64 q.2))))), .ob (mpO (s12.map (fun q => ((.int .i64 q.1), (.int .i64 q.2))))), .tok s22.length 50 3, .tok s10.length 3 1, .lst (v34.map SConstraint.e) 50 3]) [] Try.call36 (.e rfl) (.cons (.e rfl) .nil) (m_constraint_normal_ok hv34) rfl .nil rfl rfl rfl rfl rfl rfl rfl rfl) ?_
            refine AL.s rfl (op_assignH (.e rfl)) ?_
            refine AL.s rfl (op_assignD (.e rfl)) ?_
            refine AL.nil ?_
            refine AW.freeze (f := SConstraint.e) (l := v34) 4 [4, 119] rfl rfl enSConstraint ⟨rfl, rfl, trivial⟩ ?_
            refine AW.ret ?_
            obtain rfl := Option.some.inj hm
            exact EndQ.d (.tmp (.e rfl) (.tmp (.e rfl) .nil)) rfl rfl

set_option maxHeartbeats 20000000 in
theorem m_ref32_Valid_ok {n : Nat} {a1 : (List SConstraint)} {r : Bool} (hm : m_ref32_Valid n a1 = some r) : Fn Try.prog 12 [(.sl (a1.map SConstraint.e))] (.bool r) := by
  unfold m_ref32_Valid at hm
  refine Fn.of_AW (fnn := Try.f12) Try.func12 rfl (Nat.le_of_ble_eq_true rfl) (fun g0 w0 hw0 => ?_)
  refine AW.reset 0 [(0, .d (.sl (a1.map SConstraint.e)))] [] (WOK.g0 hw0 (by simp)) ⟨[], rfl, rfl, rfl, ⟨(.d rfl), trivial⟩, trivial, .nil⟩ ?_
  refine AW.seqR ?_
  refine AL.s rfl (op_assignD (.e rfl)) ?_
  refine AL.nil ?_
  refine AW.seq ?_
  refine AW.seqR ?_
  refine AL.s rfl (op_assignD (.e rfl)) ?_
  refine AL.nil ?_
  refine AW.block ?_
  obtain ⟨t_1, hI1, hk1⟩ := bindE hm
  refine AW.loopS (σ := Int) (τ := (Bool ⊕ Unit)) 0 (fun x => [(0, .d (.sl (a1.map SConstraint.e))), (3, .d (.int .i64 x))]) (fun x => []) hI1 (WOK.g0 hw0 (by simp)) ⟨[], rfl, rfl, rfl, ⟨(.d rfl), (.d rfl), trivial⟩, trivial, .nil⟩ ?_
  rintro n1 s2 hI1
  obtain ⟨y_1, hm, hI1⟩ := iterS hI1
  replace hm : m_ref32_Valid_L1 n _ s2 = some y_1 := hm
  unfold m_ref32_Valid_L1 at hm
  try dsimp only at hm
  refine AW.seq ?_
  refine AW.seqR ?_
  refine AL.s rfl (op_moveD (.e rfl)) ?_
  refine AL.s rfl (op_moveD (.e rfl)) ?_
  refine AL.s rfl (op_lenM (f := SConstraint.e) (.r rfl) sl22) ?_
  refine AL.s rfl (op_lss (.r rfl) (.r rfl)) ?_
  refine AL.nil ?_
  refine AW.cond (b := _) rfl (fun hc1 => ?_) (fun hc1 => ?_)
  · replace hm := iteT hc1 hm
    refine AW.skip ?_
    refine nq ?_
    refine AW.seq ?_
    refine AW.block ?_
    refine AW.seqR ?_
    refine AL.s rfl (op_moveD (.e rfl)) ?_
    refine AL.s rfl (op_moveD (.e rfl)) ?_
    obtain ⟨v3, hv3, hm⟩ := bindE hm
    refine AL.s rfl (op_indexAddrM (f := SConstraint.e) (.r rfl) (.r rfl) hv3 enSConstraint sl22) ?_
    refine AL.s rfl (op_loadA (.e rfl) rfl ag50) ?_
    refine AL.s rfl (op_alloc (n := 0) zr50 rfl) ?_
    refine AL.s rfl (op_store (.e rfl) (.e rfl) rfl rfl rfl ⟨_, rfl, rfl⟩ rfl (Nat.le_of_ble_eq_true rfl)) ?_
    refine AL.nil ?_
    refine AW.seqR ?_
    refine AL.s rfl (op_field_ptr (.e rfl) fd50_0) ?_
    refine AL.s rfl (op_load_ptr1 (.e rfl) rfl rfl sc3) ?_
    refine AL.s rfl (op_neq (.r rfl) (.r rfl)) ?_
    refine AL.s rfl (op_moveD (.e rfl)) ?_
    refine AL.sT rfl rfl rfl rfl (fun g => op_field_ptr (.e rfl) fd50_0) ?_
    refine AL.sT rfl rfl rfl rfl (fun g => op_load_ptr1 (.we g rfl) rfl rfl sc3) ?_
    refine AL.sT rfl rfl rfl rfl (fun g => op_neq (.we g rfl rfl) (.r rfl)) ?_
    refine AL.s rfl (op_and (.r rfl) (fun h => (.we h rfl rfl)) rfl) ?_
    refine AL.s rfl (op_moveD (.e rfl)) ?_
    refine AL.sF rfl rfl rfl rfl (fun g => op_field_ptr (.e rfl) fd50_1) ?_
    refine AL.sF rfl rfl rfl rfl (fun g => op_load_ptr1 (.we (nt g) rfl) rfl rfl sc3) ?_
    refine AL.sF rfl rfl rfl rfl (fun g => op_lss (.we (nt g) rfl rfl) (.r rfl)) ?_
    refine AL.s rfl (op_or (.r rfl) rfl (fun h => (.we (nt h) rfl rfl))) ?_
    refine AL.s rfl (op_moveD (.e rfl)) ?_
    refine AL.sF rfl rfl rfl rfl (fun g => op_field_ptr (.e rfl) fd50_1) ?_
    refine AL.sF rfl rfl rfl rfl (fun g => op_load_ptr1 (.we (nt g) rfl) rfl rfl sc3) ?_
    refine AL.sF rfl rfl rfl rfl (fun g => op_gtr (.we (nt g) rfl rfl) (.r rfl)) ?_
    refine AL.s rfl (op_or (.r rfl) rfl (fun h => (.we (nt h) rfl rfl))) ?_
    refine AL.s rfl (op_moveD (.e rfl)) ?_
    refine AL.sF rfl rfl rfl rfl (fun g => op_field_ptr (.e rfl) fd50_2) ?_
    refine AL.sF rfl rfl rfl rfl (fun g => op_load_ptr1 (.we (nt g) rfl) rfl rfl sc3) ?_
    refine AL.sF rfl rfl rfl rfl (fun g => op_lss (.we (nt g) rfl rfl) (.r rfl)) ?_
    refine AL.s rfl (op_or (.r rfl) rfl (fun h => (.we (nt h) rfl rfl))) ?_
    refine AL.s rfl (op_moveD (.e rfl)) ?_
    refine AL.sF rfl rfl rfl rfl (fun g => op_field_ptr (.e rfl) fd50_2) ?_
    refine AL.sF rfl rfl rfl rfl (fun g => op_load_ptr1 (.we (nt g) rfl) rfl rfl sc3) ?_
    refine AL.sF rfl rfl rfl rfl (fun g => op_gtr (.we (nt g) rfl rfl) (.r rfl)) ?_
    refine AL.s rfl (op_or (.r rfl) rfl (fun h => (.we (nt h) rfl rfl))) ?_
    refine AL.s rfl (op_moveD (.e rfl)) ?_
    refine AL.sF rfl rfl rfl rfl (fun g => op_field_ptr (.e rfl) fd50_1) ?_
    refine AL.sF rfl rfl rfl rfl (fun g => op_load_ptr1 (.we (nt g) rfl) rfl rfl sc3) ?_
    refine AL.sF rfl rfl rfl rfl (fun g => op_field_ptr (.e rfl) fd50_2) ?_
    refine AL.sF rfl rfl rfl rfl (fun g => op_load_ptr1 (.we (nt g) rfl) rfl rfl sc3) ?_
    refine AL.sF rfl rfl rfl rfl (fun g => op_eql (.we (nt g) rfl rfl) (.we (nt g) rfl rfl)) ?_
    refine AL.s rfl (op_or (.r rfl) rfl (fun h => (.we (nt h) rfl rfl))) ?_
    refine AL.nil ?_
    refine AW.cond (b := _) rfl (fun hc2 => ?_) (fun hc2 => ?_)
    · replace hm := iteT hc2 hm
      refine AW.reset 0 [] [.row [.d (.int .i64 v3.fKind), .d (.int .i64 v3.fA), .d (.int .i64 v3.fB)]] (WOK.g0 hw0 (by simp)) ⟨[0], rfl, rfl, rfl, trivial, trivial, (.row rfl (.cons (.d rfl) (.cons (.d rfl) (.cons (.d rfl) .nil))) .nil)⟩ ?_
      refine AW.seqR ?_
      refine AL.s rfl (op_assignD (.e rfl)) ?_
      refine AL.nil ?_
      refine AW.ret ?_
      refine bq_ret ?_
      refine tq_ret ?_
      refine tq_ret ?_
      obtain rfl := Option.some.inj hm
      obtain rfl := Option.some.inj hI1
      replace hm := hk1
      try dsimp only at hm
      refine bq_ret ?_
      refine tq_ret ?_
      obtain rfl := Option.some.inj hm
      exact EndQ.d (.tmp (.e rfl) .nil) rfl rfl
    · replace hm := iteF hc2 hm
      refine AW.skip ?_
      refine bq_n ?_
      refine nq ?_
      refine AW.region ?_
      refine AL.s rfl (op_moveD (.e rfl)) ?_
      refine AL.s rfl (op_addw (.r rfl) (.r rfl)) ?_
      refine AL.s rfl (op_assignD (.e rfl)) ?_
      refine AL.nil ?_
      obtain rfl := Option.some.inj hm
      exact nq ⟨_, hI1, ⟨[], rfl, rfl, rfl, ⟨(.d rfl), (.d rfl), trivial⟩, trivial, .nil⟩⟩
  · replace hm := iteF hc1 hm
    refine AW.exit ?_
    refine tq_exit ?_
    refine tq_exit ?_
    obtain rfl := Option.some.inj hm
    obtain rfl := Option.some.inj hI1
    replace hm := hk1
    try dsimp only at hm
    refine bq_hit ?_
    refine nq ?_
    refine AW.seqR ?_
    refine AL.s rfl (op_moveD (.e rfl)) ?_
    refine AL.s rfl (op_lenM (f := SConstraint.e) (.r rfl) sl22) ?_
    refine AL.s rfl (op_leq (.r rfl) (.r rfl)) ?_
    refine AL.s rfl (op_assignD (.e rfl)) ?_
    refine AL.nil ?_
    refine AW.ret ?_
    obtain rfl := Option.some.inj hm
    exact EndQ.d (.tmp (.e rfl) .nil) rfl rfl

end Go.Proofs.Ytkfffaoopcnaoaa.Ab
